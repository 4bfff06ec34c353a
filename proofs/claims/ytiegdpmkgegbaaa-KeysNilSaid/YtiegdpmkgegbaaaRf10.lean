/- The document's secrets and keys. -/
import Derived.Test.YtiegdpmkgegbaaaRf9
import Derived.Test.YtiegdpmkgegbaaaKy2
set_option linter.unusedSimpArgs false
set_option linter.unusedVariables false
namespace Go.Proofs.Ytiegdpmkgegbaaa
open Go.RowKit Go.Shelf
set_option maxRecDepth 100000

theorem vsecret_ok (p : Option Addr) (n cap : Nat) (k : List Int) (hn : n = k.length) (hkl : n ≤ 999999000) (hkb : Byt k) (c : Cl) (hr : c.right) (w : World) (hp : RdSl w p u8V k) : CallW Try.prog 23 [.agg ⟨tabV⟩, .slice p n cap, kvC c] w fun v _ => v = .agg ⟨u8s (secretI k c)⟩ := by
  subst hn
  have hcb := vcbytes_ok c hr
  have hdl := secret_len k c
  have hdd : secretI k c = deriveI k sTok [clI c] := rfl
  have hcl := clI_len c
  have hcy := clI_byt c
  have hfl : (frameI [strI sTok, clI c]).length = 22 := rfl
  have hst : sTok.size = 5 := rfl
  have htl := tab_len
  have hto : tabV.all Value.oneCell' = true := rfl
  have hdv := fun pp cp pc cc w1 (hc : Chg [] w w1) h1 h2 => vderive_ok p k.length cap k rfl hkl hkb sTok (by decide) pp 1 cp [⟨pc, cc, clI c⟩] rfl (by decide) (by intro x hx; cases List.mem_singleton.1 hx; exact hcy) (by rw [List.map_cons, List.map_nil, hfl]; decide) (by intro x hx; cases List.mem_singleton.1 hx; simp only [hcl]; decide) w1 (hp.chg' hc (fun _ => Off.nil _)) h1 h2
  simp only [List.map_cons, List.map_nil] at hdv
  rw [← hdd] at hdv
  generalize secretI k c = d at *
  generalize clI c = cb at *
  generalize tabV = tv at *
  have hls : (u8s d).length = 32 := by rw [u8s_len, hdl]
  have hone := u8s_one d
  refine enterW (tb := tb) Try.func23 rfl Try.ntmps23 rfl ?_
  simp only [kvC] at hcb ⊢
  repeat' (first | (apply R.is1; first | (apply R.box; (iterate 3 exact rfl); intro) | (apply R.alloc; (iterate 3 exact rfl); intro)) | apply R.nil | (apply T.is; first | (apply T.drawC (id := 1) [1,2] (by decide); ((apply A.take 0; exact rfl; exact rfl; kernel_rfl; kernel_rfl; kernel_rfl; (apply Ok1.load; exact rfl; apply Ld.ownk; exact rfl; exact rfl; (focus ((repeat' (first | exact At.head | apply At.tail)); done)); exact subE_all htl)) <;> (apply A.take 1; exact rfl; exact rfl; kernel_rfl; kernel_rfl; kernel_rfl; (apply Ok1.move; exact rfl)) <;> (apply A.take 2; exact rfl; exact rfl; kernel_rfl; kernel_rfl; kernel_rfl; (apply Ok1.load; exact rfl; apply Ld.ownk; exact rfl; exact rfl; exact At.head; exact rfl)) <;> (apply A.one 3; kernel_rfl; exact rfl; (((apply R.callE (vs := [.agg ⟨[.int .i64 c.id, .int .i64 c.roles, .int .i64 c.exp, .int .i64 c.ser]⟩]); (iterate 3 exact rfl); exact Ext.none _; intro w1 hw1; exact hcb w1; rintro v Lo ⟨ov, hov, rfl, rfl⟩; rw [slV_eq hov]))); apply R.nil; refine ⟨?_, ?_⟩; (focus ((repeat' (first | exact trivial | (refine ⟨?_, ?_⟩; (focus ((repeat' (first | exact At.head | apply At.tail | apply At.right)); done)))))))) <;> (apply A.one 4; kernel_rfl; exact rfl; (((apply R.buildSlice; (iterate 12 exact rfl); intro))); apply R.nil; refine ⟨?_, ?_⟩; (focus ((repeat' (first | exact trivial | (refine ⟨?_, ?_⟩; (focus ((repeat' (first | exact At.head | apply At.tail | apply At.right)); done)))))))) <;> (apply A.one 5; kernel_rfl; exact rfl; (((apply R.callV (vs := [.agg ⟨tv⟩, .slice p k.length cap, .string sTok, .slice (some ⟨_, 0, none⟩) 1 1]); (iterate 3 exact rfl); intro w1 hw1; exact hdv _ 1 (ovp ov) (ovc ov 9) w1 hw1.chg (RdSl.of (junk := []) hw1 (by exact At.head) (by simp [fl, Pt.v, hcl])) (by intro x hx; cases List.mem_singleton.1 hx; exact rdown (by rw [hcl]; exact hov) hw1 (Ext.mem (by (focus ((repeat' (first | exact Ext.here _ _ | apply Ext.cons)); done)))))))); apply R.nil; refine ⟨?_, ?_⟩; (focus ((repeat' (first | exact trivial | (refine ⟨?_, ?_⟩; (focus ((repeat' (first | exact At.head | apply At.tail | apply At.right)); done)))))))) <;> (apply A.one 6; kernel_rfl; exact rfl; (((apply R.store; (iterate 4 exact rfl); exact hls; exact hone; (focus ((repeat' (first | exact Upd.head | apply Upd.tail | apply Upd.right)); done)); exact setE_all hls))); apply R.nil; refine ⟨?_, ?_⟩; (focus ((repeat' (first | exact trivial | (refine ⟨?_, ?_⟩; (focus ((repeat' (first | exact At.head | apply At.tail | apply At.right)); done)))))))) <;> (apply A.done; kernel_rfl))) | apply T.seq | apply T.region | apply T.ret))
  all_goals apply RetOk.c
  all_goals first | exact rfl | skip
  all_goals (apply Ld.ownk; exact rfl; exact rfl; (focus ((repeat' (first | exact At.head | apply At.tail | apply At.right)); done)); exact subE_all hls)
theorem vsender_ok (p : Option Addr) (n cap : Nat) (k : List Int) (hn : n = k.length) (hkl : n ≤ 999999000) (hkb : Byt k) (v : Int) (h1 : 1 ≤ v) (h2 : v ≤ 65535) (w : World) (hp : RdSl w p u8V k) : CallW Try.prog 45 [.agg ⟨tabV⟩, .slice p n cap, .int .i64 v] w fun x _ => x = .agg ⟨u8s (senderI k v)⟩ := by
  subst hn
  have hdl : (senderI k v).length = 32 := derive_len _ _ _
  have hdd : senderI k v = deriveI k sSend [lastI 2 v] := rfl
  have hcl : (lastI 2 v).length = 2 := rfl
  have hcy := last_byt 2 v
  have hce : u8s (lastI 2 v) = [.int .u8 (v / 256), .int .u8 (v % 256)] := by
    have e1 : v % 256 = v ∨ 256 ≤ v := by omega
    have e2 : v / 256 % 256 = v / 256 := by omega
    simp only [lastI, twoB, e2]
    first | rfl | (have e3 : v % 256 = v := by omega
                   simp only [e3]; rfl)
  have hfl : (frameI [strI sSend, lastI 2 v]).length = 16 := rfl
  have htl := tab_len
  have hto : tabV.all Value.oneCell' = true := rfl
  have hdv := fun pp cp pc cc w1 (hc : Chg [] w w1) h1 h2 => vderive_ok p k.length cap k rfl hkl hkb sSend (by decide) pp 1 cp [⟨pc, cc, lastI 2 v⟩] rfl (by decide) (by intro x hx; cases List.mem_singleton.1 hx; exact hcy) (by rw [List.map_cons, List.map_nil, hfl]; decide) (by intro x hx; cases List.mem_singleton.1 hx; simp only [hcl]; decide) w1 (hp.chg' hc (fun _ => Off.nil _)) h1 h2
  simp only [List.map_cons, List.map_nil] at hdv
  rw [← hdd] at hdv
  generalize senderI k v = d at *
  generalize lastI 2 v = cb at *
  generalize tabV = tv at *
  have hls : (u8s d).length = 32 := by rw [u8s_len, hdl]
  have hone := u8s_one d
  refine enterW (tb := tb) Try.func45 rfl Try.ntmps45 rfl ?_
  repeat' (first | (apply R.is1; first | (apply R.isBin; (apply R.pure; exact rfl; first | (apply Ok1.quo64; exact rfl; exact rfl; omega; omega; omega) | (apply Ok1.remN; exact rfl; exact rfl; omega; omega))) | (apply R.pure; exact rfl; first | (apply Ok1.load; exact rfl; apply Ld.ownk; exact rfl; exact rfl; (focus ((repeat' (first | exact At.head | apply At.tail)); done)); exact subE_all htl) | (apply Ok1.move; exact rfl) | (apply Ok1.convU8; (iterate 5 exact rfl); omega; omega)) | (apply R.box; (iterate 3 exact rfl); intro) | (apply R.alloc; (iterate 3 exact rfl); intro) | (apply R.buildSlice; (iterate 12 exact rfl); intro)) | apply R.nil | (apply T.is; first | apply T.seq | apply T.region))
  rename_i bT bO bv bs
  repeat' (first | (apply R.is1; (apply R.isCall; (apply R.callV (vs := [.agg ⟨tv⟩, .slice p k.length cap, .string sSend, .slice (some ⟨bs, 0, none⟩) 1 1]); (iterate 3 exact rfl); intro w1 hw1; exact hdv _ 1 (some ⟨bv, 0, none⟩) 2 w1 hw1.chg (RdSl.of (junk := []) hw1 (by exact At.head) (by simp only [fl, Pt.v, hcl, List.map_cons, List.map_nil, List.flatten_cons, List.flatten_nil, List.append_nil])) (by intro x hx; cases List.mem_singleton.1 hx; exact RdSl.of (junk := []) hw1 (by (focus ((repeat' (first | exact At.head | apply At.tail)); done))) (by rw [fl_u8, List.append_nil, hce]))))) | (apply R.is0; (apply R.store; (iterate 4 exact rfl); exact hls; exact hone; (focus ((repeat' (first | exact Upd.head | apply Upd.tail)); done)); exact setE_all hls)) | apply R.nil | (apply T.is; apply T.ret))
  all_goals apply RetOk.c
  all_goals first | exact rfl | skip
  all_goals (apply Ld.ownk; exact rfl; exact rfl; (focus ((repeat' (first | exact At.head | apply At.tail)); done)); exact subE_all hls)
theorem vseed_ok (p : Option Addr) (n cap : Nat) (k : List Int) (hn : n = k.length) (hkl : n ≤ 999999000) (hkb : Byt k) (v : Int) (h1 : 0 ≤ v) (h2 : v ≤ 3) (w : World) (hp : RdSl w p u8V k) : CallW Try.prog 26 [.agg ⟨tabV⟩, .slice p n cap, .int .i64 v] w fun x _ => x = .agg ⟨u8s (seedI k v)⟩ := by
  subst hn
  have hdl : (seedI k v).length = 32 := derive_len _ _ _
  have hdd : seedI k v = deriveI k sSeed [lastI 1 v] := rfl
  have hcl : (lastI 1 v).length = 1 := rfl
  have hcy := last_byt 1 v
  have hce : u8s (lastI 1 v) = [.int .u8 v] := by
    have e1 : v % 256 = v ∨ 256 ≤ v := by omega
    have e2 : v / 256 % 256 = v / 256 := by omega
    simp only [lastI, twoB, e2]
    first | rfl | (have e3 : v % 256 = v := by omega
                   simp only [e3]; rfl)
  have hfl : (frameI [strI sSeed, lastI 1 v]).length = 13 := rfl
  have htl := tab_len
  have hto : tabV.all Value.oneCell' = true := rfl
  have hdv := fun pp cp pc cc w1 (hc : Chg [] w w1) h1 h2 => vderive_ok p k.length cap k rfl hkl hkb sSeed (by decide) pp 1 cp [⟨pc, cc, lastI 1 v⟩] rfl (by decide) (by intro x hx; cases List.mem_singleton.1 hx; exact hcy) (by rw [List.map_cons, List.map_nil, hfl]; decide) (by intro x hx; cases List.mem_singleton.1 hx; simp only [hcl]; decide) w1 (hp.chg' hc (fun _ => Off.nil _)) h1 h2
  simp only [List.map_cons, List.map_nil] at hdv
  rw [← hdd] at hdv
  generalize seedI k v = d at *
  generalize lastI 1 v = cb at *
  generalize tabV = tv at *
  have hls : (u8s d).length = 32 := by rw [u8s_len, hdl]
  have hone := u8s_one d
  refine enterW (tb := tb) Try.func26 rfl Try.ntmps26 rfl ?_
  repeat' (first | (apply R.is1; first | (apply R.pure; exact rfl; first | (apply Ok1.load; exact rfl; apply Ld.ownk; exact rfl; exact rfl; (focus ((repeat' (first | exact At.head | apply At.tail)); done)); exact subE_all htl) | (apply Ok1.move; exact rfl) | (apply Ok1.convU8; (iterate 5 exact rfl); omega; omega)) | (apply R.box; (iterate 3 exact rfl); intro) | (apply R.alloc; (iterate 3 exact rfl); intro) | (apply R.buildSlice; (iterate 12 exact rfl); intro)) | apply R.nil | (apply T.is; first | apply T.seq | apply T.region))
  rename_i bT bO bv bs
  repeat' (first | (apply R.is1; (apply R.isCall; (apply R.callV (vs := [.agg ⟨tv⟩, .slice p k.length cap, .string sSeed, .slice (some ⟨bs, 0, none⟩) 1 1]); (iterate 3 exact rfl); intro w1 hw1; exact hdv _ 1 (some ⟨bv, 0, none⟩) 1 w1 hw1.chg (RdSl.of (junk := []) hw1 (by exact At.head) (by simp only [fl, Pt.v, hcl, List.map_cons, List.map_nil, List.flatten_cons, List.flatten_nil, List.append_nil])) (by intro x hx; cases List.mem_singleton.1 hx; exact RdSl.of (junk := []) hw1 (by (focus ((repeat' (first | exact At.head | apply At.tail)); done))) (by rw [fl_u8, List.append_nil, hce]))))) | (apply R.is0; (apply R.store; (iterate 4 exact rfl); exact hls; exact hone; (focus ((repeat' (first | exact Upd.head | apply Upd.tail)); done)); exact setE_all hls)) | apply R.nil | (apply T.is; apply T.ret))
  all_goals apply RetOk.c
  all_goals first | exact rfl | skip
  all_goals (apply Ld.ownk; exact rfl; exact rfl; (focus ((repeat' (first | exact At.head | apply At.tail)); done)); exact subE_all hls)
theorem vlabel_ok (p : Option Addr) (n cap : Nat) (k : List Int) (hn : n = k.length) (hkl : n ≤ 999999000) (hkb : Byt k) (v : Int) (h1 : 0 ≤ v) (h2 : v ≤ 7) (w : World) (hp : RdSl w p u8V k) : CallW Try.prog 22 [.agg ⟨tabV⟩, .slice p n cap, .int .i64 v] w fun x _ => x = .agg ⟨u8s (labelI k v)⟩ := by
  subst hn
  have hdl : (labelI k v).length = 32 := derive_len _ _ _
  have hdd : labelI k v = deriveI k sLab [lastI 1 v] := rfl
  have hcl : (lastI 1 v).length = 1 := rfl
  have hcy := last_byt 1 v
  have hce : u8s (lastI 1 v) = [.int .u8 v] := by
    have e1 : v % 256 = v ∨ 256 ≤ v := by omega
    have e2 : v / 256 % 256 = v / 256 := by omega
    simp only [lastI, twoB, e2]
    first | rfl | (have e3 : v % 256 = v := by omega
                   simp only [e3]; rfl)
  have hfl : (frameI [strI sLab, lastI 1 v]).length = 14 := rfl
  have htl := tab_len
  have hto : tabV.all Value.oneCell' = true := rfl
  have hdv := fun pp cp pc cc w1 (hc : Chg [] w w1) h1 h2 => vderive_ok p k.length cap k rfl hkl hkb sLab (by decide) pp 1 cp [⟨pc, cc, lastI 1 v⟩] rfl (by decide) (by intro x hx; cases List.mem_singleton.1 hx; exact hcy) (by rw [List.map_cons, List.map_nil, hfl]; decide) (by intro x hx; cases List.mem_singleton.1 hx; simp only [hcl]; decide) w1 (hp.chg' hc (fun _ => Off.nil _)) h1 h2
  simp only [List.map_cons, List.map_nil] at hdv
  rw [← hdd] at hdv
  generalize labelI k v = d at *
  generalize lastI 1 v = cb at *
  generalize tabV = tv at *
  have hls : (u8s d).length = 32 := by rw [u8s_len, hdl]
  have hone := u8s_one d
  refine enterW (tb := tb) Try.func22 rfl Try.ntmps22 rfl ?_
  repeat' (first | (apply R.is1; first | (apply R.pure; exact rfl; first | (apply Ok1.load; exact rfl; apply Ld.ownk; exact rfl; exact rfl; (focus ((repeat' (first | exact At.head | apply At.tail)); done)); exact subE_all htl) | (apply Ok1.move; exact rfl) | (apply Ok1.convU8; (iterate 5 exact rfl); omega; omega)) | (apply R.box; (iterate 3 exact rfl); intro) | (apply R.alloc; (iterate 3 exact rfl); intro) | (apply R.buildSlice; (iterate 12 exact rfl); intro)) | apply R.nil | (apply T.is; first | apply T.seq | apply T.region))
  rename_i bT bO bv bs
  repeat' (first | (apply R.is1; (apply R.isCall; (apply R.callV (vs := [.agg ⟨tv⟩, .slice p k.length cap, .string sLab, .slice (some ⟨bs, 0, none⟩) 1 1]); (iterate 3 exact rfl); intro w1 hw1; exact hdv _ 1 (some ⟨bv, 0, none⟩) 1 w1 hw1.chg (RdSl.of (junk := []) hw1 (by exact At.head) (by simp only [fl, Pt.v, hcl, List.map_cons, List.map_nil, List.flatten_cons, List.flatten_nil, List.append_nil])) (by intro x hx; cases List.mem_singleton.1 hx; exact RdSl.of (junk := []) hw1 (by (focus ((repeat' (first | exact At.head | apply At.tail)); done))) (by rw [fl_u8, List.append_nil, hce]))))) | (apply R.is0; (apply R.store; (iterate 4 exact rfl); exact hls; exact hone; (focus ((repeat' (first | exact Upd.head | apply Upd.tail)); done)); exact setE_all hls)) | apply R.nil | (apply T.is; apply T.ret))
  all_goals apply RetOk.c
  all_goals first | exact rfl | skip
  all_goals (apply Ld.ownk; exact rfl; exact rfl; (focus ((repeat' (first | exact At.head | apply At.tail)); done)); exact subE_all hls)
theorem vgrant_ok (p : Option Addr) (n cap : Nat) (k : List Int) (hn : n = k.length) (hkl : n ≤ 999999000) (hkb : Byt k) (c : Cl) (hr : c.right) (v : Int) (h1 : 1 ≤ v) (h2 : v ≤ 65535) (w : World) (hp : RdSl w p u8V k) : CallW Try.prog 19 [.agg ⟨tabV⟩, .slice p n cap, kvC c, .int .i64 v] w fun x _ => x = .agg ⟨u8s (senderI (secretI k c) v)⟩ := by
  subst hn
  have hse := fun w1 (hc : Chg [] w w1) => vsecret_ok p k.length cap k rfl hkl hkb c hr w1 (hp.chg' hc (fun _ => Off.nil _))
  have hsl := secret_len k c
  have hsb := secret_byt k c
  generalize secretI k c = s at *
  have hdl : (senderI s v).length = 32 := derive_len _ _ _
  have hsn := fun p cap w1 (hp : RdSl w1 p u8V s) => vsender_ok p 32 cap s hsl.symm (by decide) hsb v h1 h2 w1 hp
  have htl := tab_len
  have hto : tabV.all Value.oneCell' = true := rfl
  generalize senderI s v = d at *
  generalize tabV = tv at *
  have hls : (u8s s).length = 32 := by rw [u8s_len, hsl]
  have hone := u8s_one s
  have hdls : (u8s d).length = 32 := by rw [u8s_len, hdl]
  have hdo := u8s_one d
  refine enterW (tb := tb) Try.func19 rfl Try.ntmps19 rfl ?_
  simp only [kvC] at hse ⊢
  repeat' (first | (apply R.is1; first | (apply R.isCall; (apply R.callV (vs := [.agg ⟨tv⟩, .slice p k.length cap, .agg ⟨[.int .i64 c.id, .int .i64 c.roles, .int .i64 c.exp, .int .i64 c.ser]⟩]); (iterate 3 exact rfl); intro w1 hw1; exact hse w1 hw1.chg)) | (apply R.pure; exact rfl; first | (apply Ok1.load; exact rfl; apply Ld.ownk; exact rfl; exact rfl; (focus ((repeat' (first | exact At.head | apply At.tail)); done)); first | exact subE_all htl | exact rfl) | (apply Ok1.move; exact rfl)) | (apply R.box; (iterate 3 exact rfl); intro) | (apply R.alloc; (iterate 3 exact rfl); intro)) | (apply R.is0; (apply R.store; (iterate 4 exact rfl); exact hls; exact hone; exact Upd.head; exact setE_all hls)) | apply R.nil | (apply T.is; first | (apply T.drawC (id := 2) [2,3] (by decide); ((apply A.take 0; exact rfl; exact rfl; kernel_rfl; kernel_rfl; kernel_rfl; (apply Ok1.load; exact rfl; apply Ld.ownk; exact rfl; exact rfl; (focus ((repeat' (first | exact At.head | apply At.tail)); done)); exact subE_all htl)) <;> (apply A.take 1; exact rfl; exact rfl; kernel_rfl; kernel_rfl; kernel_rfl; (apply Ok1.sliceArr; (iterate 4 exact rfl))) <;> (apply A.take 2; exact rfl; exact rfl; kernel_rfl; kernel_rfl; kernel_rfl; (apply Ok1.move; exact rfl)) <;> (apply A.one 3; kernel_rfl; exact rfl; (((apply R.callV (vs := [.agg ⟨tv⟩, .slice (some ⟨_, 0, none⟩) 32 32, .int .i64 v]); (iterate 3 exact rfl); intro w1 hw1; exact hsn _ _ w1 (RdSl.of (junk := []) hw1 (by exact At.head) (by rw [fl_u8, List.append_nil]))))); apply R.nil; refine ⟨?_, ?_⟩; (focus ((repeat' (first | exact trivial | (refine ⟨?_, ?_⟩; (focus ((repeat' (first | exact At.head | apply At.tail)); done)))))))) <;> (apply A.one 4; kernel_rfl; exact rfl; (((apply R.store; (iterate 4 exact rfl); exact hdls; exact hdo; (focus ((repeat' (first | exact Upd.head | apply Upd.tail)); done)); exact setE_all hdls))); apply R.nil; refine ⟨?_, ?_⟩; (focus ((repeat' (first | exact trivial | (refine ⟨?_, ?_⟩; (focus ((repeat' (first | exact At.head | apply At.tail)); done)))))))) <;> (apply A.done; kernel_rfl))) | apply T.seq | apply T.region | apply T.ret))
  all_goals apply RetOk.c
  all_goals first | exact rfl | skip
  all_goals (apply Ld.ownk; exact rfl; exact rfl; (focus ((repeat' (first | exact At.head | apply At.tail)); done)); exact subE_all hdls)
end Go.Proofs.Ytiegdpmkgegbaaa
