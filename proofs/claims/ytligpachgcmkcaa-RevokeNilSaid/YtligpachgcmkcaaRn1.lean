/- The statement RevokeNil: its walk. -/
import Derived.Test.YtligpachgcmkcaaRp1
import Derived.Test.YtligpachgcmkcaaRv9
set_option linter.unusedSimpArgs false
set_option linter.unusedVariables false
namespace Go.Proofs.Ytligpachgcmkcaa
open Go.RowKit Go.Shelf
set_option maxRecDepth 100000

theorem copy_nil : CallP Try.prog 39 [.pointer none] (.pointer none) := by
  refine enterP (tb := tb) Try.func39 rfl Try.ntmps39 rfl fun w => ?_
  repeat' (first | (apply R.is1; first | (apply R.isBin; (apply R.pure; exact rfl; (apply Ok1.eqlP; (iterate 5 exact rfl)))) | (apply R.pure; exact rfl; first | (apply Ok1.move; exact rfl) | (apply Ok1.assign; exact rfl))) | apply R.nil | (apply T.is; first | apply T.seq | apply T.region | apply T.ret | (apply T.cond_t; exact rfl)))
  all_goals (apply RetOk.t; exact rfl)
  all_goals rfl
theorem revokeNil_ok (seed serial : Int) (d : Dl) (hd : d.length = 4) (w : World) (hr : ∀ x ∈ d, RdSl w x.2.p iV x.2.xs) (hc : ∀ x ∈ d, x.2.xs.length ≤ x.2.cap) :
    CallW Try.prog 8 [.int .i64 seed, .int .i64 serial, .agg ⟨dlV d⟩] w fun v _ => v = .bool true := by
  have hsn := since_nil [.int .i64 0, .int .i64 0, .int .i64 0, .int .i64 0] rfl rfl
  have hto := fun w1 (h : Chg [] w w1) => to8_ok d hd hc w1 fun x hx => (hr x hx).chg' h (fun _ => Off.nil _)
  have hkn := fun w1 => known8_ok w1
  have hhn := fun w1 => has_nil serial w1
  have hvn := versions_nil
  have hln := log_nil seed
  have han := fun w1 => rall_nil w1
  have hcn := copy_nil
  have hpn := fun w1 => print_nil w1
  have hpo := fun bs w1 hs => print_ok bs [lg0, lg0, lg0, lg0] GOk.new w1 hs
  have he : lgs [lg0, lg0, lg0, lg0] = [[], [], [], []] := rfl
  rw [he] at hpo
  have hp32 := sha_len (prI [[], [], [], []])
  generalize shaI (prI [[], [], [], []]) = pr at *
  have hdl : (dlV d).length = 8 := by simp [dlV, fl_pi, iis_len, hd]
  obtain ⟨D, hD⟩ : ∃ D, D = dlV d := ⟨_, rfl⟩
  rw [← hD] at hto hdl ⊢
  refine enterW (tb := tb) Try.func8 rfl Try.ntmps8 rfl ?_
  repeat' (first | (apply R.is1; first | (apply R.isBin; (apply R.pure; exact rfl; first | (apply Ok1.eqlFq2; (iterate 5 exact rfl); first | (exact rfl; exact rfl; exact ⟨fun _ => rfl, fun _ => rfl⟩) | (exact allc32 _ hp32; exact allc32 _ hp32; exact ⟨fun _ => rfl, fun _ => rfl⟩)) | (apply Ok1.eql_t; exact rfl; exact rfl; omega) | (apply Ok1.eqlP; (iterate 5 exact rfl)))) | (apply R.isCall; first | apply R.callP rfl rfl rfl hsn | (apply R.callE (vs := [.agg ⟨D⟩]); (iterate 3 exact rfl); exact Ext.none _; intro w1 hw1; exact hto w1 hw1.chg; rintro v M ⟨d', rfl, _, hdo⟩) | apply R.callP rfl rfl rfl (apply_nil d') | (apply R.callE (vs := []); (iterate 3 exact rfl); exact Ext.none _; intro w1 hw1; exact hkn w1; rintro v Lo ⟨rfl, rfl⟩) | apply R.callP rfl rfl rfl (revoke_nil seed _ 1 1) | (apply R.callE (vs := [.pointer none, .int .i64 serial]); (iterate 3 exact rfl); exact Ext.none _; intro w1 hw1; exact hhn w1; rintro v Lo ⟨rfl, rfl⟩) | apply R.callP rfl rfl rfl hvn | apply R.callP rfl rfl rfl hln | (apply R.callE (vs := [.pointer none]); (iterate 3 exact rfl); exact Ext.none _; intro w1 hw1; exact han w1; rintro v Lo ⟨ov, hov, rfl, rfl⟩; rw [slV_eq hov]) | apply R.callP rfl rfl rfl hcn | (apply R.callV (vs := [.pointer none]); (iterate 3 exact rfl); intro w1 hw1; exact hpn w1) | (apply R.callE (vs := []); (iterate 3 exact rfl); exact Ext.none _; intro w1 hw1; exact rnew_ok w1; rintro v Lo ⟨bs, rfl, rfl⟩) | (apply R.callV (vs := [.pointer (some ⟨bs, 0, none⟩)]); (iterate 3 exact rfl); intro w1 hw1; exact hpo bs w1 (SetR.of GOk.new hw1 (Ext.mem (by (focus ((repeat' (exact Ext.one _ _)); done)))))) | (apply R.pure; exact rfl; (apply Ok1.lenS; (iterate 3 exact rfl)))) | (apply R.pure; exact rfl; first | (apply Ok1.load; exact rfl; apply Ld.ownk; exact rfl; exact rfl; (focus ((repeat' (first | exact At.head | apply At.tail)); done)); exact subE_all hdl) | (apply Ok1.move; exact rfl) | (apply Ok1.assign; exact rfl) | (apply Ok1.extract; exact rfl; exact rfl) | (apply Ok1.pick_t; exact rfl; exact rfl) | (apply Ok1.not_f; exact rfl) | (apply Ok1.buildA; (iterate 6 exact rfl))) | (apply R.box; (iterate 3 exact rfl); intro) | (apply R.alloc; (iterate 3 exact rfl); intro) | (apply R.buildSlice; (iterate 12 exact rfl); intro)) | (apply R.is0; (apply R.store; (iterate 6 exact rfl); exact Upd.head; exact rfl)) | (apply R.isG; (apply R.guard_run; exact rfl; exact rfl)) | apply R.nil | (apply T.is; first | apply T.seq | apply T.region | apply T.ret))
  all_goals (apply RetOk.t; exact rfl)
  all_goals rfl
end Go.Proofs.Ytligpachgcmkcaa
