import Derived.Test.YtomadjefdghliaaV9
import Derived.Test.YtomadjefdghliaaV11
/- The structs' numbers in this seat: zero values, built structs. Written by wip/api.py. -/
namespace Go.Proofs.Ytomadjefdghliaa
open Go Go.RowKit Go.RR Go.RX Go.GX Go.Api
instance : UTy Try.prog 3 Ty.int 0 (.int .i64 0) := ⟨Try.zeroValue3, fun _ _ => num_rd⟩
instance : UTy Try.prog 4 Ty.bool false (.bool false) := ⟨Try.zeroValue4, fun _ _ => bool_rd⟩
instance : UTy Try.prog 5 Ty.byte 0 (.int .u8 0) := ⟨Try.zeroValue5, fun _ _ => num_rd⟩
instance : UTy Try.prog 29 (Ty.slice tyIns) [] (.slice none 0 0) := ⟨Try.zeroValue29, fun _ _ => nils_rd⟩
instance : UTy Try.prog 25 (Ty.slice tyLayout) [] (.slice none 0 0) := ⟨Try.zeroValue25, fun _ _ => nils_rd⟩
instance : UTy Try.prog 66 (Ty.slice tyRegion) [] (.slice none 0 0) := ⟨Try.zeroValue66, fun _ _ => nils_rd⟩
instance : UTy Try.prog 26 (Ty.slice tyUnt) [] (.slice none 0 0) := ⟨Try.zeroValue26, fun _ _ => nils_rd⟩
instance : UTy Try.prog 64 (Ty.slice (Ty.slice Ty.int)) [] (.slice none 0 0) := ⟨Try.zeroValue64, fun _ _ => nils_rd⟩
instance : UTy Try.prog 81 (Ty.slice Ty.bool) [] (.slice none 0 0) := ⟨Try.zeroValue81, fun _ _ => nils_rd⟩
instance : UTy Try.prog 22 (Ty.slice Ty.int) [] (.slice none 0 0) := ⟨Try.zeroValue22, fun _ _ => nils_rd⟩
instance : UTy Try.prog 33 tyIns ⟨0, 0, 0, 0, 0, []⟩ (.agg #[.int .i64 0, .int .i64 0, .int .i64 0, .int .i64 0, .int .i64 0, .slice none 0 0]) := ⟨Try.zeroValue33, fun _ _ => (co_rd (pair_rd (c1 := [_]) rfl num_rd (pair_rd (c1 := [_]) rfl num_rd (pair_rd (c1 := [_]) rfl num_rd (pair_rd (c1 := [_]) rfl num_rd (pair_rd (c1 := [_]) rfl num_rd (pair_rd (c1 := [_]) rfl nils_rd unit_rd)))))))⟩
instance : UTy Try.prog 24 tyLayout ⟨false, []⟩ (.agg #[.bool false, .slice none 0 0]) := ⟨Try.zeroValue24, fun _ _ => (co_rd (pair_rd (c1 := [_]) rfl bool_rd (pair_rd (c1 := [_]) rfl nils_rd unit_rd)))⟩
instance : UTy Try.prog 31 tyUnt ⟨0, [], 0, [], [], []⟩ (.agg #[.int .i64 0, .slice none 0 0, .int .i64 0, .slice none 0 0, .slice none 0 0, .slice none 0 0]) := ⟨Try.zeroValue31, fun _ _ => (co_rd (pair_rd (c1 := [_]) rfl num_rd (pair_rd (c1 := [_]) rfl nils_rd (pair_rd (c1 := [_]) rfl num_rd (pair_rd (c1 := [_]) rfl nils_rd (pair_rd (c1 := [_]) rfl nils_rd (pair_rd (c1 := [_]) rfl nils_rd unit_rd)))))))⟩
instance : UTy Try.prog 28 tyRTg ⟨[], [], [], 0⟩ (.agg #[.slice none 0 0, .slice none 0 0, .slice none 0 0, .int .i64 0]) := ⟨Try.zeroValue28, fun _ _ => (co_rd (pair_rd (c1 := [_]) rfl nils_rd (pair_rd (c1 := [_]) rfl nils_rd (pair_rd (c1 := [_]) rfl nils_rd (pair_rd (c1 := [_]) rfl num_rd unit_rd)))))⟩
instance : UTy Try.prog 35 tyBeh ⟨0, 0, [], 0⟩ (.agg #[.int .i64 0, .int .i64 0, .slice none 0 0, .int .i64 0]) := ⟨Try.zeroValue35, fun _ _ => (co_rd (pair_rd (c1 := [_]) rfl num_rd (pair_rd (c1 := [_]) rfl num_rd (pair_rd (c1 := [_]) rfl nils_rd (pair_rd (c1 := [_]) rfl num_rd unit_rd)))))⟩
instance : UTy Try.prog 37 tyRan ⟨⟨0, 0, [], 0⟩, 0, 0, 0, 0, 0, 0⟩ (.agg #[.int .i64 0, .int .i64 0, .slice none 0 0, .int .i64 0, .int .i64 0, .int .i64 0, .int .i64 0, .int .i64 0, .int .i64 0, .int .i64 0]) := ⟨Try.zeroValue37, fun _ _ => (co_rd (pair_rd (c1 := [_, _, _, _]) rfl (co_rd (pair_rd (c1 := [_]) rfl num_rd (pair_rd (c1 := [_]) rfl num_rd (pair_rd (c1 := [_]) rfl nils_rd (pair_rd (c1 := [_]) rfl num_rd unit_rd))))) (pair_rd (c1 := [_]) rfl num_rd (pair_rd (c1 := [_]) rfl num_rd (pair_rd (c1 := [_]) rfl num_rd (pair_rd (c1 := [_]) rfl num_rd (pair_rd (c1 := [_]) rfl num_rd (pair_rd (c1 := [_]) rfl num_rd unit_rd))))))))⟩
instance : UTy Try.prog 99 tyRtView ⟨⟨[], [], [], 0⟩, ⟨0, [], 0, [], [], []⟩, ⟨0, 0, 0, 0, 0, []⟩⟩ (.agg #[.slice none 0 0, .slice none 0 0, .slice none 0 0, .int .i64 0, .int .i64 0, .slice none 0 0, .int .i64 0, .slice none 0 0, .slice none 0 0, .slice none 0 0, .int .i64 0, .int .i64 0, .int .i64 0, .int .i64 0, .int .i64 0, .slice none 0 0]) := ⟨Try.zeroValue99, fun _ _ => (co_rd (pair_rd (c1 := [_, _, _, _]) rfl (co_rd (pair_rd (c1 := [_]) rfl nils_rd (pair_rd (c1 := [_]) rfl nils_rd (pair_rd (c1 := [_]) rfl nils_rd (pair_rd (c1 := [_]) rfl num_rd unit_rd))))) (pair_rd (c1 := [_, _, _, _, _, _]) rfl (co_rd (pair_rd (c1 := [_]) rfl num_rd (pair_rd (c1 := [_]) rfl nils_rd (pair_rd (c1 := [_]) rfl num_rd (pair_rd (c1 := [_]) rfl nils_rd (pair_rd (c1 := [_]) rfl nils_rd (pair_rd (c1 := [_]) rfl nils_rd unit_rd))))))) (pair_rd (c1 := [_, _, _, _, _, _]) rfl (co_rd (pair_rd (c1 := [_]) rfl num_rd (pair_rd (c1 := [_]) rfl num_rd (pair_rd (c1 := [_]) rfl num_rd (pair_rd (c1 := [_]) rfl num_rd (pair_rd (c1 := [_]) rfl num_rd (pair_rd (c1 := [_]) rfl nils_rd unit_rd))))))) unit_rd))))⟩
instance : UTy Try.prog 73 tyRegion ⟨false, 0⟩ (.agg #[.bool false, .int .i64 0]) := ⟨Try.zeroValue73, fun _ _ => (co_rd (pair_rd (c1 := [_]) rfl bool_rd (pair_rd (c1 := [_]) rfl num_rd unit_rd)))⟩
instance {ps : List Pf} {v_op v_a v_b v_c v_n v_args : Value} {x_op : Int} {x_a : Int} {x_b : Int} {x_c : Int} {x_n : Int} {x_args : List Int} [OneV v_op] [OneV v_a] [OneV v_b] [OneV v_c] [OneV v_n] [OneV v_args] [h_op : Rds ps v_op Ty.int x_op] [h_a : Rds ps v_a Ty.int x_a] [h_b : Rds ps v_b Ty.int x_b] [h_c : Rds ps v_c Ty.int x_c] [h_n : Rds ps v_n Ty.int x_n] [h_args : Rds ps v_args (Ty.slice Ty.int) x_args] : Rds ps (.agg #[v_op, v_a, v_b, v_c, v_n, v_args]) tyIns ⟨x_op, x_a, x_b, x_c, x_n, x_args⟩ := ⟨.of fun F w h => co_rd (pair_rd (c1 := [_]) rfl (rdo (h_op.r.as F w h)) (pair_rd (c1 := [_]) rfl (rdo (h_a.r.as F w h)) (pair_rd (c1 := [_]) rfl (rdo (h_b.r.as F w h)) (pair_rd (c1 := [_]) rfl (rdo (h_c.r.as F w h)) (pair_rd (c1 := [_]) rfl (rdo (h_n.r.as F w h)) (pair_rd (c1 := [_]) rfl (rdo (h_args.r.as F w h)) unit_rd))))))⟩
instance {ps : List Pf} {v_base v_rc v_dims : Value} {x_base : Int} {x_rc : Int} {x_dims : Int} [OneV v_base] [OneV v_rc] [OneV v_dims] [h_base : Rds ps v_base Ty.int x_base] [h_rc : Rds ps v_rc Ty.int x_rc] [h_dims : Rds ps v_dims Ty.int x_dims] : Rds ps (.agg #[v_base, v_rc, v_dims]) tyTyp ⟨x_base, x_rc, x_dims⟩ := ⟨.of fun F w h => co_rd (pair_rd (c1 := [_]) rfl (rdo (h_base.r.as F w h)) (pair_rd (c1 := [_]) rfl (rdo (h_rc.r.as F w h)) (pair_rd (c1 := [_]) rfl (rdo (h_dims.r.as F w h)) unit_rd)))⟩
instance {ps : List Pf} {v_func v_typ_base v_typ_rc v_typ_dims : Value} {x_func : Int} {x_typ_base : Int} {x_typ_rc : Int} {x_typ_dims : Int} [OneV v_func] [OneV v_typ_base] [OneV v_typ_rc] [OneV v_typ_dims] [h_func : Rds ps v_func Ty.int x_func] [h_typ_base : Rds ps v_typ_base Ty.int x_typ_base] [h_typ_rc : Rds ps v_typ_rc Ty.int x_typ_rc] [h_typ_dims : Rds ps v_typ_dims Ty.int x_typ_dims] : Rds ps (.agg #[v_func, v_typ_base, v_typ_rc, v_typ_dims]) tySite ⟨x_func, ⟨x_typ_base, x_typ_rc, x_typ_dims⟩⟩ := ⟨.of fun F w h => co_rd (pair_rd (c1 := [_]) rfl (rdo (h_func.r.as F w h)) (pair_rd (c1 := [_, _, _]) rfl (co_rd (pair_rd (c1 := [_]) rfl (rdo (h_typ_base.r.as F w h)) (pair_rd (c1 := [_]) rfl (rdo (h_typ_rc.r.as F w h)) (pair_rd (c1 := [_]) rfl (rdo (h_typ_dims.r.as F w h)) unit_rd)))) unit_rd))⟩
instance {ps : List Pf} {v_params v_vars v_has v_result_base v_result_rc v_result_dims v_ins : Value} {x_params : Int} {x_vars : List Go.Api.Typ} {x_has : Bool} {x_result_base : Int} {x_result_rc : Int} {x_result_dims : Int} {x_ins : List Go.Api.Ins} [OneV v_params] [OneV v_vars] [OneV v_has] [OneV v_result_base] [OneV v_result_rc] [OneV v_result_dims] [OneV v_ins] [h_params : Rds ps v_params Ty.int x_params] [h_vars : Rds ps v_vars (Ty.slice tyTyp) x_vars] [h_has : Rds ps v_has Ty.bool x_has] [h_result_base : Rds ps v_result_base Ty.int x_result_base] [h_result_rc : Rds ps v_result_rc Ty.int x_result_rc] [h_result_dims : Rds ps v_result_dims Ty.int x_result_dims] [h_ins : Rds ps v_ins (Ty.slice tyIns) x_ins] : Rds ps (.agg #[v_params, v_vars, v_has, v_result_base, v_result_rc, v_result_dims, v_ins]) tyCode ⟨x_params, x_vars, x_has, ⟨x_result_base, x_result_rc, x_result_dims⟩, x_ins⟩ := ⟨.of fun F w h => co_rd (pair_rd (c1 := [_]) rfl (rdo (h_params.r.as F w h)) (pair_rd (c1 := [_]) rfl (rdo (h_vars.r.as F w h)) (pair_rd (c1 := [_]) rfl (rdo (h_has.r.as F w h)) (pair_rd (c1 := [_, _, _]) rfl (co_rd (pair_rd (c1 := [_]) rfl (rdo (h_result_base.r.as F w h)) (pair_rd (c1 := [_]) rfl (rdo (h_result_rc.r.as F w h)) (pair_rd (c1 := [_]) rfl (rdo (h_result_dims.r.as F w h)) unit_rd)))) (pair_rd (c1 := [_]) rfl (rdo (h_ins.r.as F w h)) unit_rd)))))⟩
instance {ps : List Pf} {v_kind v_a v_b v_f : Value} {x_kind : Int} {x_a : Int} {x_b : Int} {x_f : Int} [OneV v_kind] [OneV v_a] [OneV v_b] [OneV v_f] [h_kind : Rds ps v_kind Ty.int x_kind] [h_a : Rds ps v_a Ty.int x_a] [h_b : Rds ps v_b Ty.int x_b] [h_f : Rds ps v_f Ty.int x_f] : Rds ps (.agg #[v_kind, v_a, v_b, v_f]) tyCon ⟨x_kind, x_a, x_b, x_f⟩ := ⟨.of fun F w h => co_rd (pair_rd (c1 := [_]) rfl (rdo (h_kind.r.as F w h)) (pair_rd (c1 := [_]) rfl (rdo (h_a.r.as F w h)) (pair_rd (c1 := [_]) rfl (rdo (h_b.r.as F w h)) (pair_rd (c1 := [_]) rfl (rdo (h_f.r.as F w h)) unit_rd))))⟩
instance {ps : List Pf} {v_nodes v_fields : Value} {x_nodes : List (List Int)} {x_fields : List (List (List Int))} [OneV v_nodes] [OneV v_fields] [h_nodes : Rds ps v_nodes (Ty.slice (Ty.slice Ty.int)) x_nodes] [h_fields : Rds ps v_fields (Ty.slice (Ty.slice (Ty.slice Ty.int))) x_fields] : Rds ps (.agg #[v_nodes, v_fields]) tyPoints ⟨x_nodes, x_fields⟩ := ⟨.of fun F w h => co_rd (pair_rd (c1 := [_]) rfl (rdo (h_nodes.r.as F w h)) (pair_rd (c1 := [_]) rfl (rdo (h_fields.r.as F w h)) unit_rd))⟩
instance {ps : List Pf} {v_count v_of v_nodes v_fields : Value} {x_count : Int} {x_of : List Int} {x_nodes : List Int} {x_fields : List (List Int)} [OneV v_count] [OneV v_of] [OneV v_nodes] [OneV v_fields] [h_count : Rds ps v_count Ty.int x_count] [h_of : Rds ps v_of (Ty.slice Ty.int) x_of] [h_nodes : Rds ps v_nodes (Ty.slice Ty.int) x_nodes] [h_fields : Rds ps v_fields (Ty.slice (Ty.slice Ty.int)) x_fields] : Rds ps (.agg #[v_count, v_of, v_nodes, v_fields]) tyClasses ⟨x_count, x_of, x_nodes, x_fields⟩ := ⟨.of fun F w h => co_rd (pair_rd (c1 := [_]) rfl (rdo (h_count.r.as F w h)) (pair_rd (c1 := [_]) rfl (rdo (h_of.r.as F w h)) (pair_rd (c1 := [_]) rfl (rdo (h_nodes.r.as F w h)) (pair_rd (c1 := [_]) rfl (rdo (h_fields.r.as F w h)) unit_rd))))⟩
instance {ps : List Pf} {v_arr v_refs : Value} {x_arr : Bool} {x_refs : List Int} [OneV v_arr] [OneV v_refs] [h_arr : Rds ps v_arr Ty.bool x_arr] [h_refs : Rds ps v_refs (Ty.slice Ty.int) x_refs] : Rds ps (.agg #[v_arr, v_refs]) tyLayout ⟨x_arr, x_refs⟩ := ⟨.of fun F w h => co_rd (pair_rd (c1 := [_]) rfl (rdo (h_arr.r.as F w h)) (pair_rd (c1 := [_]) rfl (rdo (h_refs.r.as F w h)) unit_rd))⟩
instance {ps : List Pf} {v_params v_vars v_result v_takes v_owns v_ins : Value} {x_params : Int} {x_vars : List Int} {x_result : Int} {x_takes : List Int} {x_owns : List Int} {x_ins : List Go.Api.Ins} [OneV v_params] [OneV v_vars] [OneV v_result] [OneV v_takes] [OneV v_owns] [OneV v_ins] [h_params : Rds ps v_params Ty.int x_params] [h_vars : Rds ps v_vars (Ty.slice Ty.int) x_vars] [h_result : Rds ps v_result Ty.int x_result] [h_takes : Rds ps v_takes (Ty.slice Ty.int) x_takes] [h_owns : Rds ps v_owns (Ty.slice Ty.int) x_owns] [h_ins : Rds ps v_ins (Ty.slice tyIns) x_ins] : Rds ps (.agg #[v_params, v_vars, v_result, v_takes, v_owns, v_ins]) tyUnt ⟨x_params, x_vars, x_result, x_takes, x_owns, x_ins⟩ := ⟨.of fun F w h => co_rd (pair_rd (c1 := [_]) rfl (rdo (h_params.r.as F w h)) (pair_rd (c1 := [_]) rfl (rdo (h_vars.r.as F w h)) (pair_rd (c1 := [_]) rfl (rdo (h_result.r.as F w h)) (pair_rd (c1 := [_]) rfl (rdo (h_takes.r.as F w h)) (pair_rd (c1 := [_]) rfl (rdo (h_owns.r.as F w h)) (pair_rd (c1 := [_]) rfl (rdo (h_ins.r.as F w h)) unit_rd))))))⟩
instance {ps : List Pf} {v_classes v_globals v_units v_main : Value} {x_classes : List Go.Api.Layout} {x_globals : List Int} {x_units : List Go.Api.Unt} {x_main : Int} [OneV v_classes] [OneV v_globals] [OneV v_units] [OneV v_main] [h_classes : Rds ps v_classes (Ty.slice tyLayout) x_classes] [h_globals : Rds ps v_globals (Ty.slice Ty.int) x_globals] [h_units : Rds ps v_units (Ty.slice tyUnt) x_units] [h_main : Rds ps v_main Ty.int x_main] : Rds ps (.agg #[v_classes, v_globals, v_units, v_main]) tyRTg ⟨x_classes, x_globals, x_units, x_main⟩ := ⟨.of fun F w h => co_rd (pair_rd (c1 := [_]) rfl (rdo (h_classes.r.as F w h)) (pair_rd (c1 := [_]) rfl (rdo (h_globals.r.as F w h)) (pair_rd (c1 := [_]) rfl (rdo (h_units.r.as F w h)) (pair_rd (c1 := [_]) rfl (rdo (h_main.r.as F w h)) unit_rd))))⟩
instance {ps : List Pf} {v_met v_live v_stale : Value} {x_met : Bool} {x_live : List Int} {x_stale : List Int} [OneV v_met] [OneV v_live] [OneV v_stale] [h_met : Rds ps v_met Ty.bool x_met] [h_live : Rds ps v_live (Ty.slice Ty.int) x_live] [h_stale : Rds ps v_stale (Ty.slice Ty.int) x_stale] : Rds ps (.agg #[v_met, v_live, v_stale]) tyState ⟨x_met, x_live, x_stale⟩ := ⟨.of fun F w h => co_rd (pair_rd (c1 := [_]) rfl (rdo (h_met.r.as F w h)) (pair_rd (c1 := [_]) rfl (rdo (h_live.r.as F w h)) (pair_rd (c1 := [_]) rfl (rdo (h_stale.r.as F w h)) unit_rd)))⟩
instance {ps : List Pf} {v_end_ v_code v_out v_steps : Value} {x_end_ : Int} {x_code : Int} {x_out : List Int} {x_steps : Int} [OneV v_end_] [OneV v_code] [OneV v_out] [OneV v_steps] [h_end_ : Rds ps v_end_ Ty.int x_end_] [h_code : Rds ps v_code Ty.int x_code] [h_out : Rds ps v_out (Ty.slice Ty.int) x_out] [h_steps : Rds ps v_steps Ty.int x_steps] : Rds ps (.agg #[v_end_, v_code, v_out, v_steps]) tyBeh ⟨x_end_, x_code, x_out, x_steps⟩ := ⟨.of fun F w h => co_rd (pair_rd (c1 := [_]) rfl (rdo (h_end_.r.as F w h)) (pair_rd (c1 := [_]) rfl (rdo (h_code.r.as F w h)) (pair_rd (c1 := [_]) rfl (rdo (h_out.r.as F w h)) (pair_rd (c1 := [_]) rfl (rdo (h_steps.r.as F w h)) unit_rd))))⟩
instance {ps : List Pf} {v_beh_end_ v_beh_code v_beh_out v_beh_steps v_made v_gone v_live v_peak v_slack v_most : Value} {x_beh_end_ : Int} {x_beh_code : Int} {x_beh_out : List Int} {x_beh_steps : Int} {x_made : Int} {x_gone : Int} {x_live : Int} {x_peak : Int} {x_slack : Int} {x_most : Int} [OneV v_beh_end_] [OneV v_beh_code] [OneV v_beh_out] [OneV v_beh_steps] [OneV v_made] [OneV v_gone] [OneV v_live] [OneV v_peak] [OneV v_slack] [OneV v_most] [h_beh_end_ : Rds ps v_beh_end_ Ty.int x_beh_end_] [h_beh_code : Rds ps v_beh_code Ty.int x_beh_code] [h_beh_out : Rds ps v_beh_out (Ty.slice Ty.int) x_beh_out] [h_beh_steps : Rds ps v_beh_steps Ty.int x_beh_steps] [h_made : Rds ps v_made Ty.int x_made] [h_gone : Rds ps v_gone Ty.int x_gone] [h_live : Rds ps v_live Ty.int x_live] [h_peak : Rds ps v_peak Ty.int x_peak] [h_slack : Rds ps v_slack Ty.int x_slack] [h_most : Rds ps v_most Ty.int x_most] : Rds ps (.agg #[v_beh_end_, v_beh_code, v_beh_out, v_beh_steps, v_made, v_gone, v_live, v_peak, v_slack, v_most]) tyRan ⟨⟨x_beh_end_, x_beh_code, x_beh_out, x_beh_steps⟩, x_made, x_gone, x_live, x_peak, x_slack, x_most⟩ := ⟨.of fun F w h => co_rd (pair_rd (c1 := [_, _, _, _]) rfl (co_rd (pair_rd (c1 := [_]) rfl (rdo (h_beh_end_.r.as F w h)) (pair_rd (c1 := [_]) rfl (rdo (h_beh_code.r.as F w h)) (pair_rd (c1 := [_]) rfl (rdo (h_beh_out.r.as F w h)) (pair_rd (c1 := [_]) rfl (rdo (h_beh_steps.r.as F w h)) unit_rd))))) (pair_rd (c1 := [_]) rfl (rdo (h_made.r.as F w h)) (pair_rd (c1 := [_]) rfl (rdo (h_gone.r.as F w h)) (pair_rd (c1 := [_]) rfl (rdo (h_live.r.as F w h)) (pair_rd (c1 := [_]) rfl (rdo (h_peak.r.as F w h)) (pair_rd (c1 := [_]) rfl (rdo (h_slack.r.as F w h)) (pair_rd (c1 := [_]) rfl (rdo (h_most.r.as F w h)) unit_rd)))))))⟩
instance {ps : List Pf} {v_a v_b : Value} {x_a : Int} {x_b : Int} [OneV v_a] [OneV v_b] [h_a : Rds ps v_a Ty.int x_a] [h_b : Rds ps v_b Ty.int x_b] : Rds ps (.agg #[v_a, v_b]) tyPair ⟨x_a, x_b⟩ := ⟨.of fun F w h => co_rd (pair_rd (c1 := [_]) rfl (rdo (h_a.r.as F w h)) (pair_rd (c1 := [_]) rfl (rdo (h_b.r.as F w h)) unit_rd))⟩
instance {ps : List Pf} {v_kind v_a v_b v_c : Value} {x_kind : Int} {x_a : Int} {x_b : Int} {x_c : Int} [OneV v_kind] [OneV v_a] [OneV v_b] [OneV v_c] [h_kind : Rds ps v_kind Ty.int x_kind] [h_a : Rds ps v_a Ty.int x_a] [h_b : Rds ps v_b Ty.int x_b] [h_c : Rds ps v_c Ty.int x_c] : Rds ps (.agg #[v_kind, v_a, v_b, v_c]) tyAct29 ⟨x_kind, x_a, x_b, x_c⟩ := ⟨.of fun F w h => co_rd (pair_rd (c1 := [_]) rfl (rdo (h_kind.r.as F w h)) (pair_rd (c1 := [_]) rfl (rdo (h_a.r.as F w h)) (pair_rd (c1 := [_]) rfl (rdo (h_b.r.as F w h)) (pair_rd (c1 := [_]) rfl (rdo (h_c.r.as F w h)) unit_rd))))⟩
instance {ps : List Pf} {v_t_classes v_t_globals v_t_units v_t_main v_u_params v_u_vars v_u_result v_u_takes v_u_owns v_u_ins v_i_op v_i_a v_i_b v_i_c v_i_n v_i_args : Value} {x_t_classes : List Go.Api.Layout} {x_t_globals : List Int} {x_t_units : List Go.Api.Unt} {x_t_main : Int} {x_u_params : Int} {x_u_vars : List Int} {x_u_result : Int} {x_u_takes : List Int} {x_u_owns : List Int} {x_u_ins : List Go.Api.Ins} {x_i_op : Int} {x_i_a : Int} {x_i_b : Int} {x_i_c : Int} {x_i_n : Int} {x_i_args : List Int} [OneV v_t_classes] [OneV v_t_globals] [OneV v_t_units] [OneV v_t_main] [OneV v_u_params] [OneV v_u_vars] [OneV v_u_result] [OneV v_u_takes] [OneV v_u_owns] [OneV v_u_ins] [OneV v_i_op] [OneV v_i_a] [OneV v_i_b] [OneV v_i_c] [OneV v_i_n] [OneV v_i_args] [h_t_classes : Rds ps v_t_classes (Ty.slice tyLayout) x_t_classes] [h_t_globals : Rds ps v_t_globals (Ty.slice Ty.int) x_t_globals] [h_t_units : Rds ps v_t_units (Ty.slice tyUnt) x_t_units] [h_t_main : Rds ps v_t_main Ty.int x_t_main] [h_u_params : Rds ps v_u_params Ty.int x_u_params] [h_u_vars : Rds ps v_u_vars (Ty.slice Ty.int) x_u_vars] [h_u_result : Rds ps v_u_result Ty.int x_u_result] [h_u_takes : Rds ps v_u_takes (Ty.slice Ty.int) x_u_takes] [h_u_owns : Rds ps v_u_owns (Ty.slice Ty.int) x_u_owns] [h_u_ins : Rds ps v_u_ins (Ty.slice tyIns) x_u_ins] [h_i_op : Rds ps v_i_op Ty.int x_i_op] [h_i_a : Rds ps v_i_a Ty.int x_i_a] [h_i_b : Rds ps v_i_b Ty.int x_i_b] [h_i_c : Rds ps v_i_c Ty.int x_i_c] [h_i_n : Rds ps v_i_n Ty.int x_i_n] [h_i_args : Rds ps v_i_args (Ty.slice Ty.int) x_i_args] : Rds ps (.agg #[v_t_classes, v_t_globals, v_t_units, v_t_main, v_u_params, v_u_vars, v_u_result, v_u_takes, v_u_owns, v_u_ins, v_i_op, v_i_a, v_i_b, v_i_c, v_i_n, v_i_args]) tyRtView ⟨⟨x_t_classes, x_t_globals, x_t_units, x_t_main⟩, ⟨x_u_params, x_u_vars, x_u_result, x_u_takes, x_u_owns, x_u_ins⟩, ⟨x_i_op, x_i_a, x_i_b, x_i_c, x_i_n, x_i_args⟩⟩ := ⟨.of fun F w h => co_rd (pair_rd (c1 := [_, _, _, _]) rfl (co_rd (pair_rd (c1 := [_]) rfl (rdo (h_t_classes.r.as F w h)) (pair_rd (c1 := [_]) rfl (rdo (h_t_globals.r.as F w h)) (pair_rd (c1 := [_]) rfl (rdo (h_t_units.r.as F w h)) (pair_rd (c1 := [_]) rfl (rdo (h_t_main.r.as F w h)) unit_rd))))) (pair_rd (c1 := [_, _, _, _, _, _]) rfl (co_rd (pair_rd (c1 := [_]) rfl (rdo (h_u_params.r.as F w h)) (pair_rd (c1 := [_]) rfl (rdo (h_u_vars.r.as F w h)) (pair_rd (c1 := [_]) rfl (rdo (h_u_result.r.as F w h)) (pair_rd (c1 := [_]) rfl (rdo (h_u_takes.r.as F w h)) (pair_rd (c1 := [_]) rfl (rdo (h_u_owns.r.as F w h)) (pair_rd (c1 := [_]) rfl (rdo (h_u_ins.r.as F w h)) unit_rd))))))) (pair_rd (c1 := [_, _, _, _, _, _]) rfl (co_rd (pair_rd (c1 := [_]) rfl (rdo (h_i_op.r.as F w h)) (pair_rd (c1 := [_]) rfl (rdo (h_i_a.r.as F w h)) (pair_rd (c1 := [_]) rfl (rdo (h_i_b.r.as F w h)) (pair_rd (c1 := [_]) rfl (rdo (h_i_c.r.as F w h)) (pair_rd (c1 := [_]) rfl (rdo (h_i_n.r.as F w h)) (pair_rd (c1 := [_]) rfl (rdo (h_i_args.r.as F w h)) unit_rd))))))) unit_rd)))⟩
instance {ps : List Pf} {v_live v_many : Value} {x_live : Bool} {x_many : Int} [OneV v_live] [OneV v_many] [h_live : Rds ps v_live Ty.bool x_live] [h_many : Rds ps v_many Ty.int x_many] : Rds ps (.agg #[v_live, v_many]) tyRegion ⟨x_live, x_many⟩ := ⟨.of fun F w h => co_rd (pair_rd (c1 := [_]) rfl (rdo (h_live.r.as F w h)) (pair_rd (c1 := [_]) rfl (rdo (h_many.r.as F w h)) unit_rd))⟩
end Go.Proofs.Ytomadjefdghliaa

/- Regions in which two that act may come up in either order. No program in sight. -/
namespace Go.RX
open Go Go.RowKit Go.RR
section
variable {P : Program} {ops : Array Oper} {S : World → Prop} {hold : Nat → Bool}
/-- Behind what is taken first: either one, then the other. -/
def Fork (P : Program) (ops : Array Oper) (Q : Exit → Act → World → Prop) (S : World → Prop) (hold : Nat → Bool) (la lb : List (Nat × Bool)) : Exit → Act → World → Prop
  | .normal, a, w => wpPlan P ops Q S hold la a w ∧ wpPlan P ops Q S hold lb a w
  | e, a, w => Q e a w
def forkOk (ops : Array Oper) (hold : Nat → Bool) (la lb : List (Nat × Bool)) : List (Nat × Bool) → Array Bool → Bool
  | [], listed => match la, lb with
    | (i, false) :: ra, (j, false) :: rb => (Region.ready .any ops listed) == [i, j] && Nat.beq ra.length rb.length && planOk ops hold ra (listed.setIfInBounds i true) && planOk ops hold rb (listed.setIfInBounds j true)
    | _, _ => false
  | (i, true) :: r, listed => (Region.ready .any ops listed).contains i && freeX ops hold listed i && forkOk ops hold la lb r (listed.setIfInBounds i true)
  | (_, false) :: _, _ => false
theorem wpAnyX_of_fork {Q : Exit → Act → World → Prop} (hs : Region.noSelect ops = true) (hQ : ∀ c a d v w, Q (.panic c) (Act.put a d v) w → Q (.panic c) a w) {la lb : List (Nat × Bool)} : ∀ (pre : List (Nat × Bool)) (listed : Array Bool) (a : Act) (w : World),
    forkOk ops hold la lb pre listed = true → wpPlan P ops (Fork P ops Q S hold la lb) S hold pre a w → wpAnyX P ops Q S hold (pre.length + la.length) listed a w
  | [], listed, a, w, hp, h => by
    unfold forkOk at hp
    split at hp
    · rename_i i ra j rb
      simp only [Bool.and_eq_true, beq_iff] at hp
      obtain ⟨⟨⟨h1, h2⟩, h3⟩, h4⟩ := hp
      have hr : Region.ready .any ops listed = [i, j] := by simpa using h1
      obtain ⟨ha, hb⟩ : wpPlan P ops Q S hold ((i, false) :: ra) a w ∧ wpPlan P ops Q S hold ((j, false) :: rb) a w := h
      rw [List.length_nil, Nat.zero_add, List.length_cons]
      refine ⟨fun h0 => absurd (hr ▸ h0) (by simp), fun k hk => ?_⟩
      rw [hr] at hk
      rcases List.mem_cons.1 hk with rfl | hk
      · exact wpOp_mono (fun a' w' h5 => ⟨h5.1, wpAnyX_of_plan hs hQ ra _ a' w' h3 h5.2⟩) ha
      · obtain rfl : k = j := by simpa using hk
        rw [h2]
        exact wpOp_mono (fun a' w' h5 => ⟨h5.1, wpAnyX_of_plan hs hQ rb _ a' w' h4 h5.2⟩) hb
    · simp at hp
  | (i, true) :: r, listed, a, w, hp, ⟨oi, v, hi, hy, hS, h⟩ => by
    simp only [forkOk, Bool.and_eq_true] at hp
    have := wpAnyX_first (P := P) (Q := Q) hi (Region.noSelect_spec hs) (fun c a w => hQ c a oi.dst v w) _ (Tame oi S) (r.length + la.length) listed a w (waits_spec (List.range ops.size) [] (fun j oj _ h => by simp at h)) (freeX_spec hi hp.1.2) (by simpa using hp.1.1) hy hS (wpAnyX_of_fork hs hQ r _ _ w hp.2 h)
    rw [List.length_cons, Nat.add_right_comm]; exact this
  | (_, false) :: _, _, _, _, hp, _ => by simp [forkOk] at hp
end
theorem drawnF {P : Program} {n : Nat} {env : Env} {w : World} {Q : Exit → Act → World → Prop} {id : Nat} {l : List Oper} (S : World → Prop) (hold : Nat → Bool) (pre la lb : List (Nat × Bool)) [hm : Mixed P] (hlen : Nat.beq l.length (pre.length + la.length) = true) (hs : Region.noSelect l.toArray = true)
    (hp : forkOk l.toArray hold la lb pre (Array.replicate (pre.length + la.length) false) = true)
    (h : E n env w.drew (wpPlan P l.toArray (Fork P l.toArray (NoPanic Q) S hold la lb) S hold pre)) : E n env w ((Code.region id l.toArray true).wp P Q) := by
  constructor; intro a ha
  refine wp_region_noPanic (wp_region_any hm.m (wpAny_of_X (S := S) (hold := hold) _ _ _ _ ?_))
  have hlen : l.toArray.size = pre.length + la.length := by simpa using beq_iff.1 hlen
  rw [hlen]
  exact wpAnyX_of_fork hs (fun c a d v w h => h) pre _ a _ hp (h.run a ha)
end Go.RX
namespace Go.GX
open Go Go.RowKit Go.RR Go.RX
section
variable {P : Program} {n : Nat} {env : Env} {b : Base} {ps : List Pf} {hp hpS : List Res} {Q : Exit → Act → World → Prop} {K : Act → World → Prop}
/-- Either order: nothing of one's own is held. -/
theorem drawnF {id : Nat} {l : List Oper} (hold : Nat → Bool) (pre la lb : List (Nat × Bool)) [hm : Mixed P] (hlen : Nat.beq l.length (pre.length + la.length) = true) (hs : Region.noSelect l.toArray = true) (hpl : forkOk l.toArray hold la lb pre (Array.replicate (pre.length + la.length) false) = true)
    (h : ∀ wd F, AllP F wd ps → AllR F wd [] → G n env b (Kept wd F :: ps) hp (wpPlan P l.toArray (Fork P l.toArray (NoPanic Q) (SS wd F []) hold la lb) (SS wd F []) hold pre)) : G n env b ps hp ((Code.region id l.toArray true).wp P Q) := by
  constructor
  rintro w ⟨F, s⟩
  have s := s.drew
  refine RX.drawnF (SS w.drew F []) hold pre la lb hlen hs hpl ((h w.drew F s.fs no_r).run w.drew ⟨F, s.upd, s.lt, s.old, fun p hp => ?_, s.rs, s.apF, s.apart, s.on⟩)
  rcases List.mem_cons.1 hp with rfl | hp
  · exact ⟨Agree.refl _ _, fun _ _ h => h⟩
  · exact s.fs p hp
end
end Go.GX

/- Regions in which those that act may come up in several orders: plans as trees. No program in sight. -/
namespace Go.RX
open Go Go.RowKit Go.RR
/-- A plan: in a row; or what is taken, then any of those that are ready. -/
inductive Tr where
  | lin : List (Nat × Bool) → Tr
  | br : List (Nat × Bool) → Tr → Tr
  | nil : Tr
  | alt : Nat → Tr → Tr → Tr
def Tr.size : Tr → Nat
  | .lin l => l.length
  | .br l t => l.length + t.size
  | .nil => 0
  | .alt _ t _ => t.size + 1
def Tr.isPlan : Tr → Bool
  | .lin _ => true
  | .br _ _ => true
  | _ => false
def Tr.idx : Tr → List Nat
  | .alt i _ r => i :: r.idx
  | _ => []
def GoK (P : Program) (ops : Array Oper) (Q : Exit → Act → World → Prop) (S : World → Prop) (hold : Nat → Bool) (i : Nat) (K : Act → World → Prop) : Act → World → Prop :=
  fun a w => wpOp P ops Q i (fun a' w' => (hold i = true → S w → S w') ∧ K a' w') a w
def AtEnd (Q : Exit → Act → World → Prop) (K : Act → World → Prop) : Exit → Act → World → Prop
  | .normal, a, w => K a w
  | e, a, w => Q e a w
def Both (K K' : Act → World → Prop) : Act → World → Prop := fun a w => K a w ∧ K' a w
def wpT (P : Program) (ops : Array Oper) (Q : Exit → Act → World → Prop) (S : World → Prop) (hold : Nat → Bool) : Tr → Act → World → Prop
  | .lin l => wpPlan P ops Q S hold l
  | .br l t => wpPlan P ops (AtEnd Q (wpT P ops Q S hold t)) S hold l
  | .nil => fun _ _ => True
  | .alt i t r => Both (GoK P ops Q S hold i (wpT P ops Q S hold t)) (wpT P ops Q S hold r)
def takesOk (ops : Array Oper) (hold : Nat → Bool) (fin : Array Bool → Bool) : List (Nat × Bool) → Array Bool → Bool
  | [], listed => fin listed
  | (i, true) :: r, listed => (Region.ready .any ops listed).contains i && freeX ops hold listed i && takesOk ops hold fin r (listed.setIfInBounds i true)
  | (_, false) :: _, _ => false
def Tr.ok (ops : Array Oper) (hold : Nat → Bool) : Tr → Nat → Array Bool → Bool
  | .lin l, n, listed => Nat.beq n l.length && planOk ops hold l listed
  | .br l t, n, listed => takesOk ops hold (fun m => (Region.ready .any ops m) == t.idx && t.ok ops hold (n - l.length) m) l listed && Nat.ble (l.length + 1) n && !t.idx.isEmpty
  | .nil, _, _ => true
  | .alt i t r, n, m => t.isPlan && t.ok ops hold (n - 1) (m.setIfInBounds i true) && r.ok ops hold n m
section
variable {P : Program} {ops : Array Oper} {S : World → Prop} {hold : Nat → Bool} {Q : Exit → Act → World → Prop}
theorem wpAnyX_takes (hs : Region.noSelect ops = true) (hQ : ∀ c a d v w, Q (.panic c) (Act.put a d v) w → Q (.panic c) a w) {fin : Array Bool → Bool} {m : Nat} {K : Act → World → Prop} (hK : ∀ listed a w, fin listed = true → K a w → wpAnyX P ops Q S hold m listed a w) :
    ∀ (l : List (Nat × Bool)) (listed : Array Bool) (a : Act) (w : World), takesOk ops hold fin l listed = true → wpPlan P ops (AtEnd Q K) S hold l a w → wpAnyX P ops Q S hold (l.length + m) listed a w
  | [], listed, a, w, hp, h => by rw [List.length_nil, Nat.zero_add]; exact hK listed a w hp h
  | (i, true) :: r, listed, a, w, hp, ⟨oi, v, hi, hy, hS, h⟩ => by
    simp only [takesOk, Bool.and_eq_true] at hp
    have := wpAnyX_first (P := P) (Q := Q) hi (Region.noSelect_spec hs) (fun c a w => hQ c a oi.dst v w) _ (Tame oi S) (r.length + m) listed a w (waits_spec (List.range ops.size) [] (fun j oj _ h => by simp at h)) (freeX_spec hi hp.1.2) (by simpa using hp.1.1) hy hS (wpAnyX_takes hs hQ hK r _ _ w hp.2 h)
    rw [List.length_cons, Nat.add_right_comm]; exact this
  | (_, false) :: _, _, _, _, hp, _ => by simp [takesOk] at hp
theorem plan_idx {t : Tr} (h : t.isPlan = true) : t.idx = [] ∧ t ≠ .nil := by
  cases t <;> simp_all [Tr.isPlan, Tr.idx]
theorem wpAnyX_of_tree (hs : Region.noSelect ops = true) (hQ : ∀ c a d v w, Q (.panic c) (Act.put a d v) w → Q (.panic c) a w) (t : Tr) : ∀ (n : Nat) (listed : Array Bool) (a : Act) (w : World),
    t.ok ops hold n listed = true → wpT P ops Q S hold t a w → (t.idx = [] → t ≠ .nil → wpAnyX P ops Q S hold n listed a w) ∧
      ∀ k ∈ t.idx, wpOp P ops Q k (fun a' w' => (hold k = true → S w → S w') ∧ wpAnyX P ops Q S hold (n - 1) (listed.setIfInBounds k true) a' w') a w := by
  induction t with
  | lin l =>
    intro n listed a w hp h
    unfold Tr.ok at hp
    rw [Bool.and_eq_true, beq_iff] at hp
    rw [hp.1]
    exact ⟨fun _ _ => wpAnyX_of_plan hs hQ l listed a w hp.2 h, fun k hk => by simp [Tr.idx] at hk⟩
  | br l t ih =>
    intro n listed a w hp h
    unfold Tr.ok at hp
    rw [Bool.and_eq_true, Bool.and_eq_true, Nat.ble_eq] at hp
    refine ⟨fun _ _ => ?_, fun k hk => by simp [Tr.idx] at hk⟩
    obtain ⟨m, rfl⟩ : ∃ m, n = l.length + (m + 1) := ⟨n - l.length - 1, by omega⟩
    refine wpAnyX_takes hs hQ (fin := fun q => (Region.ready .any ops q) == t.idx && t.ok ops hold (l.length + (m + 1) - l.length) q) (fun q a w hf hk => ?_) l listed a w hp.1.1 h
    rw [Bool.and_eq_true] at hf
    have hr : Region.ready .any ops q = t.idx := by simpa using hf.1
    have h2 := (ih _ _ _ _ hf.2 hk).2
    rw [Nat.add_sub_cancel_left, Nat.add_sub_cancel] at h2
    refine ⟨fun h0 => ?_, fun k hk' => ?_⟩
    · rw [hr] at h0
      rw [h0] at hp
      simp at hp
    · rw [hr] at hk'
      exact h2 k hk'
  | nil =>
    intro n listed a w _ _
    exact ⟨fun _ h => absurd rfl h, fun k hk => by simp [Tr.idx] at hk⟩
  | alt i t r ih1 ih2 =>
    intro n listed a w hp h
    unfold Tr.ok at hp
    rw [Bool.and_eq_true, Bool.and_eq_true] at hp
    obtain ⟨ha, hb⟩ : GoK P ops Q S hold i (wpT P ops Q S hold t) a w ∧ wpT P ops Q S hold r a w := h
    refine ⟨fun h0 => by simp [Tr.idx] at h0, fun k hk => ?_⟩
    rcases List.mem_cons.1 hk with rfl | hk
    · refine wpOp_mono (fun a' w' h5 => ⟨h5.1, ?_⟩) ha
      exact (ih1 _ _ _ _ hp.1.2 h5.2).1 (plan_idx hp.1.1).1 (plan_idx hp.1.1).2
    · exact (ih2 _ _ _ _ hp.2 hb).2 k hk
end
theorem drawnT {P : Program} {n : Nat} {env : Env} {w : World} {Q : Exit → Act → World → Prop} {id : Nat} {l : List Oper} (S : World → Prop) (hold : Nat → Bool) (t : Tr) [hm : Mixed P] (hs : Region.noSelect l.toArray = true)
    (hp : (t.isPlan && t.ok l.toArray hold l.length (Array.replicate l.length false)) = true)
    (h : E n env w.drew (wpT P l.toArray (NoPanic Q) S hold t)) : E n env w ((Code.region id l.toArray true).wp P Q) := by
  constructor; intro a ha
  refine wp_region_noPanic (wp_region_any hm.m (wpAny_of_X (S := S) (hold := hold) _ _ _ _ ?_))
  rw [Bool.and_eq_true] at hp
  have hlen : l.toArray.size = l.length := by simp
  rw [hlen]
  exact (wpAnyX_of_tree hs (fun c a d v w h => h) t _ _ a _ hp.2 (h.run a ha)).1 (plan_idx hp.1).1 (plan_idx hp.1).2
theorem goK {P : Program} {n : Nat} {env : Env} {w : World} {Q : Exit → Act → World → Prop} {S : World → Prop} {hold : Nat → Bool} {ops : Array Oper} {i : Nat} {o : Oper} {K : Act → World → Prop} (hi : nth ops.toList i = some o) (hw : Wanted n env ops o true)
    (h : OW P n env w o (Went S hold i K) Q) : E n env w (GoK P ops Q S hold i K) := by
  constructor; intro a ha
  have hi := (nth_array ops i).symm.trans hi
  have h1 : wpOp P ops Q i (Went S hold i K) a w := by
    unfold wpOp
    simp only [hi, hw a ha, if_true]
    exact .inl (h.run a ha)
  exact wpOp_mono (fun a' w' h2 => ⟨fun hh _ => h2.1 hh, h2.2⟩) h1
end Go.RX
namespace Go.GX
open Go Go.RowKit Go.RR Go.RX
section
variable {P : Program} {n : Nat} {env : Env} {b : Base} {ps : List Pf} {hp hpS : List Res} {Q : Exit → Act → World → Prop} {K : Act → World → Prop}
theorem drawnT {id : Nat} {l : List Oper} (hold : Nat → Bool) (t : Tr) [hm : Mixed P] (hs : Region.noSelect l.toArray = true) (hpl : (t.isPlan && t.ok l.toArray hold l.length (Array.replicate l.length false)) = true)
    (h : ∀ wd F, AllP F wd ps → AllR F wd [] → G n env b (Kept wd F :: ps) hp (wpT P l.toArray (NoPanic Q) (SS wd F []) hold t)) : G n env b ps hp ((Code.region id l.toArray true).wp P Q) := by
  constructor
  rintro w ⟨F, s⟩
  have s := s.drew
  refine RX.drawnT (SS w.drew F []) hold t hs hpl ((h w.drew F s.fs no_r).run w.drew ⟨F, s.upd, s.lt, s.old, fun p hp => ?_, s.rs, s.apF, s.apart, s.on⟩)
  rcases List.mem_cons.1 hp with rfl | hp
  · exact ⟨Agree.refl _ _, fun _ _ h => h⟩
  · exact s.fs p hp
variable {ops : Array Oper} {S : World → Prop} {hold : Nat → Bool}
theorem treeL {l : List (Nat × Bool)} (h_ : G n env b ps hp (wpPlan P ops Q S hold l)) : G n env b ps hp (wpT P ops Q S hold (.lin l)) := h_
theorem treeB {l : List (Nat × Bool)} {t : Tr} (h_ : G n env b ps hp (wpPlan P ops (AtEnd Q (wpT P ops Q S hold t)) S hold l)) : G n env b ps hp (wpT P ops Q S hold (.br l t)) := h_
theorem treeO {i : Nat} {t : Tr} (h_ : G n env b ps hp (GoK P ops Q S hold i (wpT P ops Q S hold t))) : G n env b ps hp (wpT P ops Q S hold (.alt i t .nil)) := ⟨fun w s => ⟨fun a ha => ⟨(h_.run w s).run a ha, trivial⟩⟩⟩
theorem treeA {i : Nat} {t r : Tr} (h1 : G n env b ps hp (GoK P ops Q S hold i (wpT P ops Q S hold t))) (h2 : G n env b ps hp (wpT P ops Q S hold r)) : G n env b ps hp (wpT P ops Q S hold (.alt i t r)) := ⟨fun w s => ⟨fun a ha => ⟨(h1.run w s).run a ha, (h2.run w s).run a ha⟩⟩⟩
theorem endK (h_ : G n env b ps hp K) : G n env b ps hp (wpPlan P ops (AtEnd Q K) S hold []) := h_
theorem gok {i : Nat} {o : Oper} (h : GO P n env b ps hp o (Went S hold i K) Q) (hi : nth ops.toList i = some o := by exact rfl) (hw : Wanted n env ops o true := by first | exact Go.RX.plain rfl | exact Go.RX.guarded rfl rfl rfl (by with_reducible rfl)) :
    G n env b ps hp (GoK P ops Q S hold i K) := ⟨fun w s => RX.goK hi hw (h.run w s)⟩
theorem s_gok {i : Nat} (h_ : G n env b ps hp (GoK P ops Q S hold i K)) : G n env b ps hp (GoK P ops Q S hold i K) := h_
end
end Go.GX
