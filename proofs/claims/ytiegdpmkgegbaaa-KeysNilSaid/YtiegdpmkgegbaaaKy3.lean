/- The statements' example holds. -/
import Derived.Test.YtiegdpmkgegbaaaKy2
set_option linter.unusedSimpArgs false
set_option linter.unusedVariables false
namespace Go.Proofs.Ytiegdpmkgegbaaa
open Go.RowKit Go.Shelf
set_option maxRecDepth 100000

def k0 : List Int := [48, 49, 50, 51, 52, 53, 54, 55, 56, 57, 97, 98, 99, 100, 101, 102]
def c5 : Cl := ⟨5, 0, 0, 1⟩
theorem known_ok : CallP Try.prog 9 [] (.bool true) := by
  have hkb : Byt k0 := by intro x hx; simp only [k0, List.mem_cons, List.not_mem_nil, or_false] at hx; omega
  have hkl : k0.length = 16 := rfl
  have hr : c5.right := by decide
  have hsl := secret_len k0 c5
  have hsb := secret_byt k0 c5
  have hmk := fun bk w1 hk => make_ok c5 hr bk k0 (by decide) hkb w1 hk
  have hgr := fun bk w1 hk => grant_ok bk k0 (by decide) hkb c5 hr 9 (by decide) (by decide) w1 hk
  have hcell : u8s k0 ++ [] = [.int .u8 48, .int .u8 49, .int .u8 50, .int .u8 51, .int .u8 52, .int .u8 53, .int .u8 54, .int .u8 55, .int .u8 56, .int .u8 57, .int .u8 97, .int .u8 98, .int .u8 99, .int .u8 100, .int .u8 101, .int .u8 102] := rfl
  generalize hd : secretI k0 c5 = d at *
  have hx : senderI d 9 = senderI d 9 := rfl
  have hxl : (senderI d 9).length = 32 := derive_len _ _ _
  have hxb : Byt (senderI d 9) := derive_byt _ _ _
  have hsd := fun bk w1 hk => sender_ok bk d (by rw [hsl]; decide) hsb 9 (by decide) (by decide) w1 hk
  generalize senderI d 9 = x at *
  have htl := tk_len (c := c5) hsl
  have hto := tk_one c5 d
  refine enterP (tb := tb) Try.func9 rfl Try.ntmps9 rfl fun w0 => ?_
  repeat' (first | (apply R.is1; first | (apply R.convSame; (iterate 6 exact rfl); exact Upd.head) | (apply R.isBin; (apply R.pure; exact rfl; (apply Ok1.eql_t; exact rfl; exact rfl; omega))) | (apply R.isCall; first | (apply R.callE (vs := [.slice (some ⟨_, 0, none⟩) 16 16]); (iterate 3 exact rfl); exact Ext.none _; intro w1 hw1; exact new_ok (some ⟨_, 0, none⟩) 16 16 k0 hkl.symm (by decide) w1 (RdSl.of (junk := []) hw1 (by exact At.head) (by rw [fl_u8]; exact hcell.symm)); rintro v Lo ⟨bk, ov, rfl, hov, _, rfl⟩) | (apply R.callV (vs := [.pointer (some ⟨bk, 0, none⟩), .agg _]); (iterate 3 exact rfl); intro w1 hw1; exact hmk bk w1 (KeyR.of hov hw1 (Ext.mem (by (focus ((repeat' (first | exact Ext.here _ _ | apply Ext.cons)); done)))))) | (apply R.callE (vs := [.agg ⟨tkC c5 d⟩]); (iterate 3 exact rfl); exact Ext.none _; intro w1 hw1; exact key_ok c5 d hsl w1; rintro v Lo ⟨bk2, ov2, rfl, hov2, rfl⟩) | (apply R.callE (vs := [.pointer (some ⟨bk2, 0, none⟩), .int .i64 9]); (iterate 3 exact rfl); exact Ext.none _; intro w1 hw1; exact hsd bk2 w1 (KeyR.of (by rw [hsl]; exact hov2) hw1 (Ext.mem (by (focus ((repeat' (exact Ext.here _ _)); done))))); rintro v Lo ⟨bk3, ov3, rfl, hov3, rfl⟩) | (apply R.callE (vs := [.pointer (some ⟨bk, 0, none⟩), .agg _, .int .i64 9]); (iterate 3 exact rfl); exact Ext.none _; intro w1 hw1; exact hgr bk w1 (KeyR.of hov hw1 (Ext.mem (by (focus ((repeat' (first | exact Ext.here _ _ | apply Ext.cons | apply Ext.app)); done))))); rintro v Lo ⟨bk4, ov4, rfl, hov4, rfl⟩) | (apply R.callE (vs := [.pointer (some ⟨bk3, 0, none⟩)]); (iterate 3 exact rfl); exact Ext.none _; intro w1 hw1; exact bytes_ok bk3 x (by rw [hxl]; decide) w1 (KeyR.of (by rw [hxl]; exact hov3) hw1 (Ext.mem (by (focus ((repeat' (first | exact Ext.here _ _ | apply Ext.cons | apply Ext.app)); done))))); rw [hxl]; rintro v Lo ⟨ov5, hov5, rfl, rfl⟩; rw [slV_eq hov5]) | (apply R.callE (vs := [.pointer (some ⟨bk4, 0, none⟩)]); (iterate 3 exact rfl); exact Ext.none _; intro w1 hw1; exact bytes_ok bk4 x (by rw [hxl]; decide) w1 (KeyR.of (by rw [hxl]; exact hov4) hw1 (Ext.mem (by (focus ((repeat' (first | exact Ext.here _ _ | apply Ext.app)); done))))); rw [hxl]; rintro v Lo ⟨ov6, hov6, rfl, rfl⟩; rw [slV_eq hov6]) | (apply R.callV (vs := [.slice (ovp ov5) 32 (ovc ov5 32), .slice (ovp ov6) 32 (ovc ov6 32)]); (iterate 3 exact rfl); intro w1 hw1; exact equal_ok (ovp ov5) (ovp ov6) 32 _ _ x hxl.symm (by decide) hxb w1 (rdown (by rw [hxl]; exact hov5) hw1 (Ext.mem (by (focus ((repeat' (first | exact Ext.here _ _ | apply Ext.app)); done))))) (rdown (by rw [hxl]; exact hov6) hw1 (Ext.mem (by (focus ((repeat' (exact Ext.here _ _)); done))))))) | (apply R.pure; exact rfl; first | (apply Ok1.load; exact rfl; (apply Ld.ownk; exact rfl; exact rfl; (focus ((repeat' (first | exact At.head | apply At.tail | apply At.right)); done)); exact subE_all htl)) | (apply Ok1.move; exact rfl) | (apply Ok1.load; exact rfl; (apply Ld.ownk; exact rfl; exact rfl; (focus ((repeat' (first | exact At.head | apply At.tail | apply At.right)); done)); exact rfl)) | (apply Ok1.assign; exact rfl) | (apply Ok1.build; (iterate 5 exact rfl)) | (apply Ok1.extract; exact rfl; exact rfl) | (apply Ok1.pick_t; exact rfl; exact rfl)) | (apply R.alloc; (iterate 3 exact rfl); intro) | (apply R.buildSlice; (iterate 12 exact rfl); intro)) | (apply R.is0; first | (apply R.store; (iterate 4 exact rfl); exact htl; exact hto; exact Upd.head; exact setE_all htl) | (apply R.store; (iterate 6 exact rfl); exact Upd.head; exact rfl)) | (apply R.isG; (apply R.guard_run; exact rfl; exact rfl)) | apply R.nil | (apply T.is; first | apply T.seq | apply T.region | apply T.ret))
  all_goals (apply RetOk.t; exact rfl)
  all_goals rfl
end Go.Proofs.Ytiegdpmkgegbaaa
