import Derived.Test.YtkagjpkgboeaiaaR7
import Derived.Test.YtkagjpkgboeaiaaR9
import Derived.Test.YtkagjpkgboeaiaaR10
import Derived.Test.YtkagjpkgboeaiaaR11
import Derived.ChangeKeysEq
import Derived.Laws.StructEq
/- The structs' numbers in this seat: zero values, built structs. Written by wip/api.py. -/
namespace Go.Proofs.Ytkagjpkgboeaiaa
open Go Go.RowKit Go.RR Go.RX Go.GX Go.Api
instance : UTy Try.prog 3 Ty.int 0 (.int .i64 0) := ⟨Try.zeroValue3, fun _ _ => num_rd⟩
instance : UTy Try.prog 4 Ty.bool false (.bool false) := ⟨Try.zeroValue4, fun _ _ => bool_rd⟩
instance : UTy Try.prog 5 Ty.byte 0 (.int .u8 0) := ⟨Try.zeroValue5, fun _ _ => num_rd⟩
instance : UTy Try.prog 22 (Ty.slice tyCon) [] (.slice none 0 0) := ⟨Try.zeroValue22, fun _ _ => nils_rd⟩
instance : UTy Try.prog 62 (Ty.slice (Ty.slice (Ty.slice Ty.bool))) [] (.slice none 0 0) := ⟨Try.zeroValue62, fun _ _ => nils_rd⟩
instance : UTy Try.prog 24 (Ty.slice (Ty.slice (Ty.slice Ty.int))) [] (.slice none 0 0) := ⟨Try.zeroValue24, fun _ _ => nils_rd⟩
instance : UTy Try.prog 61 (Ty.slice (Ty.slice Ty.bool)) [] (.slice none 0 0) := ⟨Try.zeroValue61, fun _ _ => nils_rd⟩
instance : UTy Try.prog 23 (Ty.slice (Ty.slice Ty.int)) [] (.slice none 0 0) := ⟨Try.zeroValue23, fun _ _ => nils_rd⟩
instance : UTy Try.prog 50 (Ty.slice Ty.bool) [] (.slice none 0 0) := ⟨Try.zeroValue50, fun _ _ => nils_rd⟩
instance : UTy Try.prog 35 (Ty.slice Ty.int) [] (.slice none 0 0) := ⟨Try.zeroValue35, fun _ _ => nils_rd⟩
instance : UTy Try.prog 38 tyCon ⟨0, 0, 0, 0⟩ (.agg #[.int .i64 0, .int .i64 0, .int .i64 0, .int .i64 0]) := ⟨Try.zeroValue38, fun _ _ => (co_rd (pair_rd (c1 := [_]) rfl num_rd (pair_rd (c1 := [_]) rfl num_rd (pair_rd (c1 := [_]) rfl num_rd (pair_rd (c1 := [_]) rfl num_rd unit_rd)))))⟩
instance : UTy Try.prog 26 tyPoints ⟨[], []⟩ (.agg #[.slice none 0 0, .slice none 0 0]) := ⟨Try.zeroValue26, fun _ _ => (co_rd (pair_rd (c1 := [_]) rfl nils_rd (pair_rd (c1 := [_]) rfl nils_rd unit_rd)))⟩
instance {ps : List Pf} {v_op v_a v_b v_c v_n v_args : Value} {x_op : Int} {x_a : Int} {x_b : Int} {x_c : Int} {x_n : Int} {x_args : List Int} [OneV v_op] [OneV v_a] [OneV v_b] [OneV v_c] [OneV v_n] [OneV v_args] [h_op : Rds ps v_op Ty.int x_op] [h_a : Rds ps v_a Ty.int x_a] [h_b : Rds ps v_b Ty.int x_b] [h_c : Rds ps v_c Ty.int x_c] [h_n : Rds ps v_n Ty.int x_n] [h_args : Rds ps v_args (Ty.slice Ty.int) x_args] : Rds ps (.agg #[v_op, v_a, v_b, v_c, v_n, v_args]) tyIns ⟨x_op, x_a, x_b, x_c, x_n, x_args⟩ := ⟨.of fun F w h => co_rd (pair_rd (c1 := [_]) rfl (rdo (h_op.r.as F w h)) (pair_rd (c1 := [_]) rfl (rdo (h_a.r.as F w h)) (pair_rd (c1 := [_]) rfl (rdo (h_b.r.as F w h)) (pair_rd (c1 := [_]) rfl (rdo (h_c.r.as F w h)) (pair_rd (c1 := [_]) rfl (rdo (h_n.r.as F w h)) (pair_rd (c1 := [_]) rfl (rdo (h_args.r.as F w h)) unit_rd))))))⟩
instance {ps : List Pf} {v_base v_rc v_dims : Value} {x_base : Int} {x_rc : Int} {x_dims : Int} [OneV v_base] [OneV v_rc] [OneV v_dims] [h_base : Rds ps v_base Ty.int x_base] [h_rc : Rds ps v_rc Ty.int x_rc] [h_dims : Rds ps v_dims Ty.int x_dims] : Rds ps (.agg #[v_base, v_rc, v_dims]) tyTyp ⟨x_base, x_rc, x_dims⟩ := ⟨.of fun F w h => co_rd (pair_rd (c1 := [_]) rfl (rdo (h_base.r.as F w h)) (pair_rd (c1 := [_]) rfl (rdo (h_rc.r.as F w h)) (pair_rd (c1 := [_]) rfl (rdo (h_dims.r.as F w h)) unit_rd)))⟩
instance {ps : List Pf} {v_func v_typ_base v_typ_rc v_typ_dims : Value} {x_func : Int} {x_typ_base : Int} {x_typ_rc : Int} {x_typ_dims : Int} [OneV v_func] [OneV v_typ_base] [OneV v_typ_rc] [OneV v_typ_dims] [h_func : Rds ps v_func Ty.int x_func] [h_typ_base : Rds ps v_typ_base Ty.int x_typ_base] [h_typ_rc : Rds ps v_typ_rc Ty.int x_typ_rc] [h_typ_dims : Rds ps v_typ_dims Ty.int x_typ_dims] : Rds ps (.agg #[v_func, v_typ_base, v_typ_rc, v_typ_dims]) tySite ⟨x_func, ⟨x_typ_base, x_typ_rc, x_typ_dims⟩⟩ := ⟨.of fun F w h => co_rd (pair_rd (c1 := [_]) rfl (rdo (h_func.r.as F w h)) (pair_rd (c1 := [_, _, _]) rfl (co_rd (pair_rd (c1 := [_]) rfl (rdo (h_typ_base.r.as F w h)) (pair_rd (c1 := [_]) rfl (rdo (h_typ_rc.r.as F w h)) (pair_rd (c1 := [_]) rfl (rdo (h_typ_dims.r.as F w h)) unit_rd)))) unit_rd))⟩
instance {ps : List Pf} {v_params v_vars v_has v_result_base v_result_rc v_result_dims v_ins : Value} {x_params : Int} {x_vars : List Go.Api.Typ} {x_has : Bool} {x_result_base : Int} {x_result_rc : Int} {x_result_dims : Int} {x_ins : List Go.Api.Ins} [OneV v_params] [OneV v_vars] [OneV v_has] [OneV v_result_base] [OneV v_result_rc] [OneV v_result_dims] [OneV v_ins] [h_params : Rds ps v_params Ty.int x_params] [h_vars : Rds ps v_vars (Ty.slice tyTyp) x_vars] [h_has : Rds ps v_has Ty.bool x_has] [h_result_base : Rds ps v_result_base Ty.int x_result_base] [h_result_rc : Rds ps v_result_rc Ty.int x_result_rc] [h_result_dims : Rds ps v_result_dims Ty.int x_result_dims] [h_ins : Rds ps v_ins (Ty.slice tyIns) x_ins] : Rds ps (.agg #[v_params, v_vars, v_has, v_result_base, v_result_rc, v_result_dims, v_ins]) tyCode ⟨x_params, x_vars, x_has, ⟨x_result_base, x_result_rc, x_result_dims⟩, x_ins⟩ := ⟨.of fun F w h => co_rd (pair_rd (c1 := [_]) rfl (rdo (h_params.r.as F w h)) (pair_rd (c1 := [_]) rfl (rdo (h_vars.r.as F w h)) (pair_rd (c1 := [_]) rfl (rdo (h_has.r.as F w h)) (pair_rd (c1 := [_, _, _]) rfl (co_rd (pair_rd (c1 := [_]) rfl (rdo (h_result_base.r.as F w h)) (pair_rd (c1 := [_]) rfl (rdo (h_result_rc.r.as F w h)) (pair_rd (c1 := [_]) rfl (rdo (h_result_dims.r.as F w h)) unit_rd)))) (pair_rd (c1 := [_]) rfl (rdo (h_ins.r.as F w h)) unit_rd)))))⟩
instance {ps : List Pf} {v_kind v_a v_b v_f : Value} {x_kind : Int} {x_a : Int} {x_b : Int} {x_f : Int} [OneV v_kind] [OneV v_a] [OneV v_b] [OneV v_f] [h_kind : Rds ps v_kind Ty.int x_kind] [h_a : Rds ps v_a Ty.int x_a] [h_b : Rds ps v_b Ty.int x_b] [h_f : Rds ps v_f Ty.int x_f] : Rds ps (.agg #[v_kind, v_a, v_b, v_f]) tyCon ⟨x_kind, x_a, x_b, x_f⟩ := ⟨.of fun F w h => co_rd (pair_rd (c1 := [_]) rfl (rdo (h_kind.r.as F w h)) (pair_rd (c1 := [_]) rfl (rdo (h_a.r.as F w h)) (pair_rd (c1 := [_]) rfl (rdo (h_b.r.as F w h)) (pair_rd (c1 := [_]) rfl (rdo (h_f.r.as F w h)) unit_rd))))⟩
instance {ps : List Pf} {v_nodes v_fields : Value} {x_nodes : List (List Int)} {x_fields : List (List (List Int))} [OneV v_nodes] [OneV v_fields] [h_nodes : Rds ps v_nodes (Ty.slice (Ty.slice Ty.int)) x_nodes] [h_fields : Rds ps v_fields (Ty.slice (Ty.slice (Ty.slice Ty.int))) x_fields] : Rds ps (.agg #[v_nodes, v_fields]) tyPoints ⟨x_nodes, x_fields⟩ := ⟨.of fun F w h => co_rd (pair_rd (c1 := [_]) rfl (rdo (h_nodes.r.as F w h)) (pair_rd (c1 := [_]) rfl (rdo (h_fields.r.as F w h)) unit_rd))⟩
instance {ps : List Pf} {v_count v_of v_nodes v_fields : Value} {x_count : Int} {x_of : List Int} {x_nodes : List Int} {x_fields : List (List Int)} [OneV v_count] [OneV v_of] [OneV v_nodes] [OneV v_fields] [h_count : Rds ps v_count Ty.int x_count] [h_of : Rds ps v_of (Ty.slice Ty.int) x_of] [h_nodes : Rds ps v_nodes (Ty.slice Ty.int) x_nodes] [h_fields : Rds ps v_fields (Ty.slice (Ty.slice Ty.int)) x_fields] : Rds ps (.agg #[v_count, v_of, v_nodes, v_fields]) tyClasses ⟨x_count, x_of, x_nodes, x_fields⟩ := ⟨.of fun F w h => co_rd (pair_rd (c1 := [_]) rfl (rdo (h_count.r.as F w h)) (pair_rd (c1 := [_]) rfl (rdo (h_of.r.as F w h)) (pair_rd (c1 := [_]) rfl (rdo (h_nodes.r.as F w h)) (pair_rd (c1 := [_]) rfl (rdo (h_fields.r.as F w h)) unit_rd))))⟩
instance {ps : List Pf} {v_arr v_refs : Value} {x_arr : Bool} {x_refs : List Int} [OneV v_arr] [OneV v_refs] [h_arr : Rds ps v_arr Ty.bool x_arr] [h_refs : Rds ps v_refs (Ty.slice Ty.int) x_refs] : Rds ps (.agg #[v_arr, v_refs]) tyLayout ⟨x_arr, x_refs⟩ := ⟨.of fun F w h => co_rd (pair_rd (c1 := [_]) rfl (rdo (h_arr.r.as F w h)) (pair_rd (c1 := [_]) rfl (rdo (h_refs.r.as F w h)) unit_rd))⟩
instance {ps : List Pf} {v_params v_vars v_result v_takes v_owns v_ins : Value} {x_params : Int} {x_vars : List Int} {x_result : Int} {x_takes : List Int} {x_owns : List Int} {x_ins : List Go.Api.Ins} [OneV v_params] [OneV v_vars] [OneV v_result] [OneV v_takes] [OneV v_owns] [OneV v_ins] [h_params : Rds ps v_params Ty.int x_params] [h_vars : Rds ps v_vars (Ty.slice Ty.int) x_vars] [h_result : Rds ps v_result Ty.int x_result] [h_takes : Rds ps v_takes (Ty.slice Ty.int) x_takes] [h_owns : Rds ps v_owns (Ty.slice Ty.int) x_owns] [h_ins : Rds ps v_ins (Ty.slice tyIns) x_ins] : Rds ps (.agg #[v_params, v_vars, v_result, v_takes, v_owns, v_ins]) tyUnt ⟨x_params, x_vars, x_result, x_takes, x_owns, x_ins⟩ := ⟨.of fun F w h => co_rd (pair_rd (c1 := [_]) rfl (rdo (h_params.r.as F w h)) (pair_rd (c1 := [_]) rfl (rdo (h_vars.r.as F w h)) (pair_rd (c1 := [_]) rfl (rdo (h_result.r.as F w h)) (pair_rd (c1 := [_]) rfl (rdo (h_takes.r.as F w h)) (pair_rd (c1 := [_]) rfl (rdo (h_owns.r.as F w h)) (pair_rd (c1 := [_]) rfl (rdo (h_ins.r.as F w h)) unit_rd))))))⟩
instance {ps : List Pf} {v_classes v_globals v_units v_main : Value} {x_classes : List Go.Api.Layout} {x_globals : List Int} {x_units : List Go.Api.Unt} {x_main : Int} [OneV v_classes] [OneV v_globals] [OneV v_units] [OneV v_main] [h_classes : Rds ps v_classes (Ty.slice tyLayout) x_classes] [h_globals : Rds ps v_globals (Ty.slice Ty.int) x_globals] [h_units : Rds ps v_units (Ty.slice tyUnt) x_units] [h_main : Rds ps v_main Ty.int x_main] : Rds ps (.agg #[v_classes, v_globals, v_units, v_main]) tyRTg ⟨x_classes, x_globals, x_units, x_main⟩ := ⟨.of fun F w h => co_rd (pair_rd (c1 := [_]) rfl (rdo (h_classes.r.as F w h)) (pair_rd (c1 := [_]) rfl (rdo (h_globals.r.as F w h)) (pair_rd (c1 := [_]) rfl (rdo (h_units.r.as F w h)) (pair_rd (c1 := [_]) rfl (rdo (h_main.r.as F w h)) unit_rd))))⟩
instance {ps : List Pf} {v_met v_live v_stale : Value} {x_met : Bool} {x_live : List Int} {x_stale : List Int} [OneV v_met] [OneV v_live] [OneV v_stale] [h_met : Rds ps v_met Ty.bool x_met] [h_live : Rds ps v_live (Ty.slice Ty.int) x_live] [h_stale : Rds ps v_stale (Ty.slice Ty.int) x_stale] : Rds ps (.agg #[v_met, v_live, v_stale]) tyState ⟨x_met, x_live, x_stale⟩ := ⟨.of fun F w h => co_rd (pair_rd (c1 := [_]) rfl (rdo (h_met.r.as F w h)) (pair_rd (c1 := [_]) rfl (rdo (h_live.r.as F w h)) (pair_rd (c1 := [_]) rfl (rdo (h_stale.r.as F w h)) unit_rd)))⟩
instance {ps : List Pf} {v_end_ v_code v_out v_steps : Value} {x_end_ : Int} {x_code : Int} {x_out : List Int} {x_steps : Int} [OneV v_end_] [OneV v_code] [OneV v_out] [OneV v_steps] [h_end_ : Rds ps v_end_ Ty.int x_end_] [h_code : Rds ps v_code Ty.int x_code] [h_out : Rds ps v_out (Ty.slice Ty.int) x_out] [h_steps : Rds ps v_steps Ty.int x_steps] : Rds ps (.agg #[v_end_, v_code, v_out, v_steps]) tyBeh ⟨x_end_, x_code, x_out, x_steps⟩ := ⟨.of fun F w h => co_rd (pair_rd (c1 := [_]) rfl (rdo (h_end_.r.as F w h)) (pair_rd (c1 := [_]) rfl (rdo (h_code.r.as F w h)) (pair_rd (c1 := [_]) rfl (rdo (h_out.r.as F w h)) (pair_rd (c1 := [_]) rfl (rdo (h_steps.r.as F w h)) unit_rd))))⟩
instance {ps : List Pf} {v_beh_end_ v_beh_code v_beh_out v_beh_steps v_made v_gone v_live v_peak v_slack v_most : Value} {x_beh_end_ : Int} {x_beh_code : Int} {x_beh_out : List Int} {x_beh_steps : Int} {x_made : Int} {x_gone : Int} {x_live : Int} {x_peak : Int} {x_slack : Int} {x_most : Int} [OneV v_beh_end_] [OneV v_beh_code] [OneV v_beh_out] [OneV v_beh_steps] [OneV v_made] [OneV v_gone] [OneV v_live] [OneV v_peak] [OneV v_slack] [OneV v_most] [h_beh_end_ : Rds ps v_beh_end_ Ty.int x_beh_end_] [h_beh_code : Rds ps v_beh_code Ty.int x_beh_code] [h_beh_out : Rds ps v_beh_out (Ty.slice Ty.int) x_beh_out] [h_beh_steps : Rds ps v_beh_steps Ty.int x_beh_steps] [h_made : Rds ps v_made Ty.int x_made] [h_gone : Rds ps v_gone Ty.int x_gone] [h_live : Rds ps v_live Ty.int x_live] [h_peak : Rds ps v_peak Ty.int x_peak] [h_slack : Rds ps v_slack Ty.int x_slack] [h_most : Rds ps v_most Ty.int x_most] : Rds ps (.agg #[v_beh_end_, v_beh_code, v_beh_out, v_beh_steps, v_made, v_gone, v_live, v_peak, v_slack, v_most]) tyRan ⟨⟨x_beh_end_, x_beh_code, x_beh_out, x_beh_steps⟩, x_made, x_gone, x_live, x_peak, x_slack, x_most⟩ := ⟨.of fun F w h => co_rd (pair_rd (c1 := [_, _, _, _]) rfl (co_rd (pair_rd (c1 := [_]) rfl (rdo (h_beh_end_.r.as F w h)) (pair_rd (c1 := [_]) rfl (rdo (h_beh_code.r.as F w h)) (pair_rd (c1 := [_]) rfl (rdo (h_beh_out.r.as F w h)) (pair_rd (c1 := [_]) rfl (rdo (h_beh_steps.r.as F w h)) unit_rd))))) (pair_rd (c1 := [_]) rfl (rdo (h_made.r.as F w h)) (pair_rd (c1 := [_]) rfl (rdo (h_gone.r.as F w h)) (pair_rd (c1 := [_]) rfl (rdo (h_live.r.as F w h)) (pair_rd (c1 := [_]) rfl (rdo (h_peak.r.as F w h)) (pair_rd (c1 := [_]) rfl (rdo (h_slack.r.as F w h)) (pair_rd (c1 := [_]) rfl (rdo (h_most.r.as F w h)) unit_rd)))))))⟩
instance {ps : List Pf} {v_a v_b : Value} {x_a : Int} {x_b : Int} [OneV v_a] [OneV v_b] [h_a : Rds ps v_a Ty.int x_a] [h_b : Rds ps v_b Ty.int x_b] : Rds ps (.agg #[v_a, v_b]) tyPair ⟨x_a, x_b⟩ := ⟨.of fun F w h => co_rd (pair_rd (c1 := [_]) rfl (rdo (h_a.r.as F w h)) (pair_rd (c1 := [_]) rfl (rdo (h_b.r.as F w h)) unit_rd))⟩
instance {ps : List Pf} {v_kind v_a v_b v_c : Value} {x_kind : Int} {x_a : Int} {x_b : Int} {x_c : Int} [OneV v_kind] [OneV v_a] [OneV v_b] [OneV v_c] [h_kind : Rds ps v_kind Ty.int x_kind] [h_a : Rds ps v_a Ty.int x_a] [h_b : Rds ps v_b Ty.int x_b] [h_c : Rds ps v_c Ty.int x_c] : Rds ps (.agg #[v_kind, v_a, v_b, v_c]) tyAct29 ⟨x_kind, x_a, x_b, x_c⟩ := ⟨.of fun F w h => co_rd (pair_rd (c1 := [_]) rfl (rdo (h_kind.r.as F w h)) (pair_rd (c1 := [_]) rfl (rdo (h_a.r.as F w h)) (pair_rd (c1 := [_]) rfl (rdo (h_b.r.as F w h)) (pair_rd (c1 := [_]) rfl (rdo (h_c.r.as F w h)) unit_rd))))⟩
instance {ps : List Pf} {v_t_classes v_t_globals v_t_units v_t_main v_u_params v_u_vars v_u_result v_u_takes v_u_owns v_u_ins v_i_op v_i_a v_i_b v_i_c v_i_n v_i_args : Value} {x_t_classes : List Go.Api.Layout} {x_t_globals : List Int} {x_t_units : List Go.Api.Unt} {x_t_main : Int} {x_u_params : Int} {x_u_vars : List Int} {x_u_result : Int} {x_u_takes : List Int} {x_u_owns : List Int} {x_u_ins : List Go.Api.Ins} {x_i_op : Int} {x_i_a : Int} {x_i_b : Int} {x_i_c : Int} {x_i_n : Int} {x_i_args : List Int} [OneV v_t_classes] [OneV v_t_globals] [OneV v_t_units] [OneV v_t_main] [OneV v_u_params] [OneV v_u_vars] [OneV v_u_result] [OneV v_u_takes] [OneV v_u_owns] [OneV v_u_ins] [OneV v_i_op] [OneV v_i_a] [OneV v_i_b] [OneV v_i_c] [OneV v_i_n] [OneV v_i_args] [h_t_classes : Rds ps v_t_classes (Ty.slice tyLayout) x_t_classes] [h_t_globals : Rds ps v_t_globals (Ty.slice Ty.int) x_t_globals] [h_t_units : Rds ps v_t_units (Ty.slice tyUnt) x_t_units] [h_t_main : Rds ps v_t_main Ty.int x_t_main] [h_u_params : Rds ps v_u_params Ty.int x_u_params] [h_u_vars : Rds ps v_u_vars (Ty.slice Ty.int) x_u_vars] [h_u_result : Rds ps v_u_result Ty.int x_u_result] [h_u_takes : Rds ps v_u_takes (Ty.slice Ty.int) x_u_takes] [h_u_owns : Rds ps v_u_owns (Ty.slice Ty.int) x_u_owns] [h_u_ins : Rds ps v_u_ins (Ty.slice tyIns) x_u_ins] [h_i_op : Rds ps v_i_op Ty.int x_i_op] [h_i_a : Rds ps v_i_a Ty.int x_i_a] [h_i_b : Rds ps v_i_b Ty.int x_i_b] [h_i_c : Rds ps v_i_c Ty.int x_i_c] [h_i_n : Rds ps v_i_n Ty.int x_i_n] [h_i_args : Rds ps v_i_args (Ty.slice Ty.int) x_i_args] : Rds ps (.agg #[v_t_classes, v_t_globals, v_t_units, v_t_main, v_u_params, v_u_vars, v_u_result, v_u_takes, v_u_owns, v_u_ins, v_i_op, v_i_a, v_i_b, v_i_c, v_i_n, v_i_args]) tyRtView ⟨⟨x_t_classes, x_t_globals, x_t_units, x_t_main⟩, ⟨x_u_params, x_u_vars, x_u_result, x_u_takes, x_u_owns, x_u_ins⟩, ⟨x_i_op, x_i_a, x_i_b, x_i_c, x_i_n, x_i_args⟩⟩ := ⟨.of fun F w h => co_rd (pair_rd (c1 := [_, _, _, _]) rfl (co_rd (pair_rd (c1 := [_]) rfl (rdo (h_t_classes.r.as F w h)) (pair_rd (c1 := [_]) rfl (rdo (h_t_globals.r.as F w h)) (pair_rd (c1 := [_]) rfl (rdo (h_t_units.r.as F w h)) (pair_rd (c1 := [_]) rfl (rdo (h_t_main.r.as F w h)) unit_rd))))) (pair_rd (c1 := [_, _, _, _, _, _]) rfl (co_rd (pair_rd (c1 := [_]) rfl (rdo (h_u_params.r.as F w h)) (pair_rd (c1 := [_]) rfl (rdo (h_u_vars.r.as F w h)) (pair_rd (c1 := [_]) rfl (rdo (h_u_result.r.as F w h)) (pair_rd (c1 := [_]) rfl (rdo (h_u_takes.r.as F w h)) (pair_rd (c1 := [_]) rfl (rdo (h_u_owns.r.as F w h)) (pair_rd (c1 := [_]) rfl (rdo (h_u_ins.r.as F w h)) unit_rd))))))) (pair_rd (c1 := [_, _, _, _, _, _]) rfl (co_rd (pair_rd (c1 := [_]) rfl (rdo (h_i_op.r.as F w h)) (pair_rd (c1 := [_]) rfl (rdo (h_i_a.r.as F w h)) (pair_rd (c1 := [_]) rfl (rdo (h_i_b.r.as F w h)) (pair_rd (c1 := [_]) rfl (rdo (h_i_c.r.as F w h)) (pair_rd (c1 := [_]) rfl (rdo (h_i_n.r.as F w h)) (pair_rd (c1 := [_]) rfl (rdo (h_i_args.r.as F w h)) unit_rd))))))) unit_rd)))⟩
instance {ps : List Pf} {v_live v_many : Value} {x_live : Bool} {x_many : Int} [OneV v_live] [OneV v_many] [h_live : Rds ps v_live Ty.bool x_live] [h_many : Rds ps v_many Ty.int x_many] : Rds ps (.agg #[v_live, v_many]) tyRegion ⟨x_live, x_many⟩ := ⟨.of fun F w h => co_rd (pair_rd (c1 := [_]) rfl (rdo (h_live.r.as F w h)) (pair_rd (c1 := [_]) rfl (rdo (h_many.r.as F w h)) unit_rd))⟩
end Go.Proofs.Ytkagjpkgboeaiaa

/- How what comes in reads, for this seat's structs. Written by wip/api.py. -/
namespace Go.Proofs.Ytkagjpkgboeaiaa
open Go Go.RowKit Go.RR Go.RX Go.GX Go.Api
theorem cv_int : Conv Try.prog 3 Ty.int I64 := conv_int Try.underlying3
theorem conv_con : Conv Try.prog 38 tyCon Go.Api.Con.ok := by
  refine conv_co (ok := fun x => I64 x.1 ∧ I64 x.2.1 ∧ I64 x.2.2.1 ∧ I64 x.2.2.2.1 ∧ True) (fun x => ⟨x.1, x.2.1, x.2.2.1, x.2.2.2.1⟩) (fun x => rfl) (fun x h => ⟨h.1, h.2.1, h.2.2.1, h.2.2.2.1⟩) ?_
  apply conv_struct (l := [_, _, _, _]) Try.underlying38 rfl (by kernel_rfl)
  apply convF_cons (ok1 := I64) (ok2 := fun x : Int × Int × Int × Unit => I64 x.1 ∧ I64 x.2.1 ∧ I64 x.2.2.1 ∧ True) rfl (by kernel_rfl) cv_int
  apply convF_cons (ok1 := I64) (ok2 := fun x : Int × Int × Unit => I64 x.1 ∧ I64 x.2.1 ∧ True) rfl (by kernel_rfl) cv_int
  apply convF_cons (ok1 := I64) (ok2 := fun x : Int × Unit => I64 x.1 ∧ True) rfl (by kernel_rfl) cv_int
  apply convF_cons (ok1 := I64) (ok2 := fun x : Unit => True) rfl (by kernel_rfl) cv_int
  apply convF_nil
theorem conv_cons : Conv Try.prog 22 (Ty.slice tyCon) (fun l => ∀ x ∈ l, Go.Api.Con.ok x) := conv_slice (et := 38) Try.underlying22 (by kernel_rfl) (by decide) conv_con
end Go.Proofs.Ytkagjpkgboeaiaa

/- Arrays of numbers. Written by wip/garr.py. No program in sight. -/
namespace Go.GX
open Go Go.RowKit Go.RR Go.RX
/-- An array of numbers. -/
def Ty.arr (m : Nat) (k : IntKind) : Ty (List Int) where
  size := m
  rd _ _ cs x := x.length = m ∧ cs = x.map (Value.int k)
  len := by rintro F w cs x ⟨h1, rfl⟩; rw [List.length_map, h1]
  one := by
    rintro F w cs x ⟨h1, rfl⟩ c hc
    obtain ⟨y, _, rfl⟩ := List.mem_map.1 hc
    rfl
  move h _ _ := h
class UArr (P : Program) (t : TypeId) (m : outParam Nat) (e : outParam TypeId) : Prop where u : P.underlying t = some (.array m e)
class UInf (P : Program) (t : TypeId) : Prop where
  i : (P.info? t).isSome = true
  c : P.cellsOf t = 1
class UPlain (P : Program) (t : TypeId) : Prop where g : P.eqGuardType P.depth t = false
instance (m : Nat) (k : IntKind) : Sub (Ty.arr m k) 0 (Ty.arr m k) (fun y => y) (fun z _ => z) := Sub.whole _
section
variable {P : Program} {n : Nat} {env : Env} {b : Base} {ps : List Pf} {hp : List Res} {Q : Exit → Act → World → Prop} {K : Act → World → Prop}
section sems
variable {S : World → Prop} {t t' e : TypeId} {x y : Operand}
theorem ixo_v {bl o i m : Nat} {k : IntKind} [h : UArr P t m e] [hs : USize P e 1] (hx : ev env x = some (.pointer (some ⟨bl, o, none⟩))) (hy : ev env y = some (.int k (i : Int))) (hi : i < m) : Soft P n env S (.indexAddr t x y) (.pointer (some ⟨bl, o + i, none⟩)) := fun a ha op ho w _ => by
  have h1 : (sizeOf e).run P w = .ok 1 w := hs.s w
  simp [execOp, ho, ha.ev hx, ha.ev hy, Instr.indexAt, asIntOf, Instr.sureAddr, run_underlying h.u, hi, h1, Addr.add_lit]
theorem ixa_v {bl i m : Nat} {k : IntKind} [h : UArr P t m e] [hs : USize P e 1] (hx : ev env x = some (.pointer (some ⟨bl, 0, none⟩))) (hy : ev env y = some (.int k (i : Int))) (hi : i < m) : Soft P n env S (.indexAddr t x y) (.pointer (some ⟨bl, i, none⟩)) := by
  have := ixo_v (P := P) (n := n) (env := env) (S := S) (t := t) (e := e) hx hy hi
  rwa [Nat.zero_add] at this
theorem quo_nat {i j : Nat} (hx : ev env x = some (.int .i64 (i : Int))) (hy : ev env y = some (.int .i64 (j : Int))) (hb : j ≠ 0) (hi : i ≤ 9223372036854775807) : Soft P n env S (.binOp .quo t x y t') (.int .i64 ((i / j : Nat) : Int)) := fun a ha o ho w _ => by
  have hj : ¬ (j : Int) = 0 := by omega
  have hm : Int.tdiv (i : Int) (j : Int) = ((i / j : Nat) : Int) := rfl
  simp [execOp, ho, ha.ev hx, ha.ev hy, eqGuard_at_int, binOp, Op.intDiv, hb, hm]
  have h6 : i / j ≤ i := Nat.div_le_self _ _
  have h5 : (i : Int) / (j : Int) = ((i / j : Nat) : Int) := rfl
  rw [h5]
  generalize i / j = q at h6 ⊢
  exact RX.wrap_in (by omega)
theorem ld_arr {m : Nat} {k : IntKind} {bl o' off : Nat} {y : List Int} {x0 : Int} [UOne P t] [hl : Look bl o' ps hp (Ty.arr m k) off y] (hx : ev env x = some (.pointer (some ⟨bl, o', none⟩))) (h0 : y[off]? = some x0) : RdV P n env ps hp (.load t x) (.int k x0) := fun F w h1 h2 => by
  obtain ⟨o, cs, rfl, h3, ⟨_, rfl⟩, h5⟩ := hl.look h1 h2
  exact RX.load hx (fun w' ha => ha.cell h5 (h3 off _ (by rw [List.getElem?_map, h0]; rfl)))
theorem eqItems_nums {w : World} (d : Nat) {k : IntKind} (he : P.underlying e = some (.int k)) (u v : List Int) : ∀ is : List Nat, (∀ i ∈ is, i < u.length ∧ i < v.length) →
    (Op.eqItems (d + 1) e 1 (u.map (Value.int k)).toArray (v.map (Value.int k)).toArray is).run P w = .ok (decide (∀ i ∈ is, u[i]? = v[i]?)) w
  | [], _ => by simp [Op.eqItems]
  | i :: is, h => by
    obtain ⟨h1, h2⟩ := h i (by simp)
    have hp : P.plainKey e = true := by unfold Program.plainKey; rw [he]
    have e1 : (u.map (Value.int k)).toArray[i]? = some (.int k u[i]) := by simp [List.getElem?_eq_getElem h1]
    have e2 : (v.map (Value.int k)).toArray[i]? = some (.int k v[i]) := by simp [List.getElem?_eq_getElem h2]
    have ih := eqItems_nums (w := w) d he u v is (fun j hj => h j (by simp [hj]))
    simp only [Op.eqItems, Nat.mul_one, Sem.run_bind, run_part_plain w hp e1, run_part_plain w hp e2, Result.andThen_ok, run_equalIn_int w d e k k u[i] v[i] he]
    by_cases hq : u[i] = v[i]
    · rw [show (u[i] == v[i]) = true by simpa using hq]
      simp [ih, List.getElem?_eq_getElem h1, List.getElem?_eq_getElem h2, hq]
    · rw [show (u[i] == v[i]) = false by simpa using hq]
      simp [List.getElem?_eq_getElem h1, List.getElem?_eq_getElem h2, hq]
theorem ne_arr0 {m : Nat} {k : IntKind} {cs ds : List Value} {u v : List Int} [h : UArr P t m e] [hk : UInt P e k] [hi : UInf P e] [hg : UPlain P t] (hx : ev env x = some (.agg cs.toArray)) (hy : ev env y = some (.agg ds.toArray)) (i0 : Ag (Ty.arr m k) cs u ∈ ps) (i1 : Ag (Ty.arr m k) ds v ∈ ps) :
    ∀ F w, AllP F w ps → Soft P n env S (.binOp .neq t x y t') (.bool (decide (u ≠ v))) := fun F w h1 => by
  obtain ⟨hu, rfl⟩ : u.length = m ∧ cs = u.map (Value.int k) := h1 _ i0
  obtain ⟨hv, rfl⟩ : v.length = m ∧ ds = v.map (Value.int k) := h1 _ i1
  intro a ha o ho w' _
  obtain ⟨inf, hinf⟩ := Option.isSome_iff_exists.1 hi.i
  have key : (Op.equalIn 10000 t (.agg (u.map (Value.int k)).toArray) (.agg (v.map (Value.int k)).toArray)).run P w' = .ok (decide (u = v)) w' := by
    rw [run_equalIn_array w' 9999 _ _ h.u hinf, hi.c, eqItems_nums 9998 hk.u u v (List.range m) (fun i hi => by have := List.mem_range.1 hi; omega)]
    congr 1
    refine decide_eq_decide.2 ⟨fun h => List.ext_getElem? fun i => ?_, fun h i _ => by rw [h]⟩
    by_cases him : i < m
    · exact h i (List.mem_range.2 him)
    · rw [List.getElem?_eq_none (by omega), List.getElem?_eq_none (by omega)]
  simp [execOp, ho, ha.ev hx, ha.ev hy, run_eqGuard_agg w' .neq t _ _ _ _ hg.g, run_neq_struct, key]
theorem ne_arr {m : Nat} {k : IntKind} {cs ds : List Value} {u v : List Int} [h : UArr P t m e] [hk : UInt P e k] [hi : UInf P e] [hg : UPlain P t] (hx : ev env x = some (.agg cs.toArray)) (hy : ev env y = some (.agg ds.toArray)) (i0 : Ag (Ty.arr m k) cs u ∈ ps) (i1 : Ag (Ty.arr m k) ds v ∈ ps) :
    RdV P n env ps hp (.binOp .neq t x y t') (.bool (decide (u ≠ v))) := fun F w h1 _ => ne_arr0 (m := m) (k := k) (e := e) hx hy i0 i1 F w h1
end sems
theorem xnea {psW : List Pf} {t t' e : TypeId} {x y : Operand} {m : Nat} {k : IntKind} {cs ds : List Value} {u v : List Int} {d : Nat} {ty : TypeId} {pos : String} {aft : Array Edge} {gd : Option (Nat × Bool)} {wd : World} {F : Nat → Prop} [UArr P t m e] [UInt P e k] [UInf P e] [UPlain P t] (h : G n ((d, .bool (decide (u ≠ v))) :: env) b ps hp K)
    (hx : ev env x = some (.agg cs.toArray) := by exact rfl) (hy : ev env y = some (.agg ds.toArray) := by exact rfl) (i0 : FAg cs psW (Ty.arr m k) u := by exact inferInstance) (i1 : FAg ds psW (Ty.arr m k) v := by exact inferInstance) (hd : Nat.blt d n = true := by exact rfl) :
    GTP P n env psW wd F b ps hp K ⟨some d, .binOp .neq t x y t', ty, pos, aft, gd⟩ := .mk (ι := Unit) (val := fun _ => .bool (decide (u ≠ v))) (pf := fun _ => []) (fun F w h1 => ⟨(), no_p, ne_arr0 (m := m) (k := k) (e := e) hx hy i0.mem i1.mem F w h1⟩) hd (fun _ _ => h)
theorem ixa {t e : TypeId} {x y : Operand} {bl i m : Nat} {k : IntKind} [UArr P t m e] [USize P e 1] {d : Nat} {ty : TypeId} {pos : String} {aft : Array Edge} {gd : Option (Nat × Bool)} (h : G n ((d, .pointer (some ⟨bl, i, none⟩)) :: env) b ps hp K) (hx : ev env x = some (.pointer (some ⟨bl, 0, none⟩)) := by exact rfl) (hy : ev env y = some (.int k (i : Int)) := by exact rfl) (hi : i < m := by omega) (hd : Nat.blt d n = true := by exact rfl) : GO P n env b ps hp ⟨some d, .indexAddr t x y, ty, pos, aft, gd⟩ K Q := rd1 (ixa_v hx hy hi) hd h
theorem tixa {t e : TypeId} {x y : Operand} {bl i m : Nat} {k : IntKind} [UArr P t m e] [USize P e 1] {d : Nat} {ty : TypeId} {pos : String} {aft : Array Edge} {gd : Option (Nat × Bool)} (h : G n ((d, .pointer (some ⟨bl, i, none⟩)) :: env) b ps hp K) (hx : ev env x = some (.pointer (some ⟨bl, 0, none⟩)) := by exact rfl) (hy : ev env y = some (.int k (i : Int)) := by exact rfl) (hi : i < m := by omega) (hd : Nat.blt d n = true := by exact rfl) : GT P n env b ps hp ⟨some d, .indexAddr t x y, ty, pos, aft, gd⟩ K := tp1 (ixa_v hx hy hi) hd h
theorem rixa {t e : TypeId} {x y : Operand} {bl i m : Nat} {k : IntKind} [UArr P t m e] [USize P e 1] {d : Nat} {ty : TypeId} {pos : String} {aft : Array Edge} {gd : Option (Nat × Bool)} {psW : List Pf} {hpS : List Res} {wd : World} {F : Nat → Prop} (h : G n ((d, .pointer (some ⟨bl, i, none⟩)) :: env) b ps hp K) (hx : ev env x = some (.pointer (some ⟨bl, 0, none⟩)) := by exact rfl) (hy : ev env y = some (.int k (i : Int)) := by exact rfl) (hi : i < m := by omega) (hd : Nat.blt d n = true := by exact rfl) : GTR P n env psW hpS wd F b ps hp K ⟨some d, .indexAddr t x y, ty, pos, aft, gd⟩ := .v (.of_soft fun _ => ixa_v hx hy hi) hd h
theorem ixo {t e : TypeId} {x y : Operand} {bl o i m : Nat} {k : IntKind} [UArr P t m e] [USize P e 1] {d : Nat} {ty : TypeId} {pos : String} {aft : Array Edge} {gd : Option (Nat × Bool)} (h : G n ((d, .pointer (some ⟨bl, o + i, none⟩)) :: env) b ps hp K) (hx : ev env x = some (.pointer (some ⟨bl, o, none⟩)) := by exact rfl) (hy : ev env y = some (.int k (i : Int)) := by exact rfl) (hi : i < m := by omega) (hd : Nat.blt d n = true := by exact rfl) : GO P n env b ps hp ⟨some d, .indexAddr t x y, ty, pos, aft, gd⟩ K Q := rd1 (ixo_v hx hy hi) hd h
theorem tixo {t e : TypeId} {x y : Operand} {bl o i m : Nat} {k : IntKind} [UArr P t m e] [USize P e 1] {d : Nat} {ty : TypeId} {pos : String} {aft : Array Edge} {gd : Option (Nat × Bool)} (h : G n ((d, .pointer (some ⟨bl, o + i, none⟩)) :: env) b ps hp K) (hx : ev env x = some (.pointer (some ⟨bl, o, none⟩)) := by exact rfl) (hy : ev env y = some (.int k (i : Int)) := by exact rfl) (hi : i < m := by omega) (hd : Nat.blt d n = true := by exact rfl) : GT P n env b ps hp ⟨some d, .indexAddr t x y, ty, pos, aft, gd⟩ K := tp1 (ixo_v hx hy hi) hd h
theorem rixo {t e : TypeId} {x y : Operand} {bl o i m : Nat} {k : IntKind} [UArr P t m e] [USize P e 1] {d : Nat} {ty : TypeId} {pos : String} {aft : Array Edge} {gd : Option (Nat × Bool)} {psW : List Pf} {hpS : List Res} {wd : World} {F : Nat → Prop} (h : G n ((d, .pointer (some ⟨bl, o + i, none⟩)) :: env) b ps hp K) (hx : ev env x = some (.pointer (some ⟨bl, o, none⟩)) := by exact rfl) (hy : ev env y = some (.int k (i : Int)) := by exact rfl) (hi : i < m := by omega) (hd : Nat.blt d n = true := by exact rfl) : GTR P n env psW hpS wd F b ps hp K ⟨some d, .indexAddr t x y, ty, pos, aft, gd⟩ := .v (.of_soft fun _ => ixo_v hx hy hi) hd h
theorem b_quo {t t' : TypeId} {x y : Operand} {i j : Nat} {d : Nat} {ty : TypeId} {pos : String} {aft : Array Edge} {gd : Option (Nat × Bool)} (h : G n ((d, .int .i64 ((i / j : Nat) : Int)) :: env) b ps hp K) (hx : ev env x = some (.int .i64 (i : Int)) := by exact rfl) (hy : ev env y = some (.int .i64 (j : Int)) := by exact rfl) (hb : j ≠ 0 := by omega) (hi : i ≤ 9223372036854775807 := by omega) (hd : Nat.blt d n = true := by exact rfl) : GO P n env b ps hp ⟨some d, .binOp .quo t x y t', ty, pos, aft, gd⟩ K Q := rd1 (quo_nat hx hy hb hi) hd h
theorem tb_quo {t t' : TypeId} {x y : Operand} {i j : Nat} {d : Nat} {ty : TypeId} {pos : String} {aft : Array Edge} {gd : Option (Nat × Bool)} (h : G n ((d, .int .i64 ((i / j : Nat) : Int)) :: env) b ps hp K) (hx : ev env x = some (.int .i64 (i : Int)) := by exact rfl) (hy : ev env y = some (.int .i64 (j : Int)) := by exact rfl) (hb : j ≠ 0 := by omega) (hi : i ≤ 9223372036854775807 := by omega) (hd : Nat.blt d n = true := by exact rfl) : GT P n env b ps hp ⟨some d, .binOp .quo t x y t', ty, pos, aft, gd⟩ K := tp1 (quo_nat hx hy hb hi) hd h
theorem rb_quo {t t' : TypeId} {x y : Operand} {i j : Nat} {d : Nat} {ty : TypeId} {pos : String} {aft : Array Edge} {gd : Option (Nat × Bool)} {psW : List Pf} {hpS : List Res} {wd : World} {F : Nat → Prop} (h : G n ((d, .int .i64 ((i / j : Nat) : Int)) :: env) b ps hp K) (hx : ev env x = some (.int .i64 (i : Int)) := by exact rfl) (hy : ev env y = some (.int .i64 (j : Int)) := by exact rfl) (hb : j ≠ 0 := by omega) (hi : i ≤ 9223372036854775807 := by omega) (hd : Nat.blt d n = true := by exact rfl) : GTR P n env psW hpS wd F b ps hp K ⟨some d, .binOp .quo t x y t', ty, pos, aft, gd⟩ := .v (.of_soft fun _ => quo_nat hx hy hb hi) hd h
theorem b_quoL {t t' : TypeId} {x y : Operand} {i j : Nat} {d : Nat} {ty : TypeId} {pos : String} {aft : Array Edge} {gd : Option (Nat × Bool)} (h : G n ((d, .int .i64 ((i / j : Nat) : Int)) :: env) b ps hp K) (hx : ev env x = some (.int .i64 (i : Int)) := by exact rfl) (hy : ev env y = some (.int .i64 (OfNat.ofNat j : Int)) := by exact rfl) (hb : j ≠ 0 := by first | omega | decide) (hi : i ≤ 9223372036854775807 := by omega) (hd : Nat.blt d n = true := by exact rfl) : GO P n env b ps hp ⟨some d, .binOp .quo t x y t', ty, pos, aft, gd⟩ K Q := rd1 (quo_nat hx hy hb hi) hd h
theorem tb_quoL {t t' : TypeId} {x y : Operand} {i j : Nat} {d : Nat} {ty : TypeId} {pos : String} {aft : Array Edge} {gd : Option (Nat × Bool)} (h : G n ((d, .int .i64 ((i / j : Nat) : Int)) :: env) b ps hp K) (hx : ev env x = some (.int .i64 (i : Int)) := by exact rfl) (hy : ev env y = some (.int .i64 (OfNat.ofNat j : Int)) := by exact rfl) (hb : j ≠ 0 := by first | omega | decide) (hi : i ≤ 9223372036854775807 := by omega) (hd : Nat.blt d n = true := by exact rfl) : GT P n env b ps hp ⟨some d, .binOp .quo t x y t', ty, pos, aft, gd⟩ K := tp1 (quo_nat hx hy hb hi) hd h
theorem rb_quoL {t t' : TypeId} {x y : Operand} {i j : Nat} {d : Nat} {ty : TypeId} {pos : String} {aft : Array Edge} {gd : Option (Nat × Bool)} {psW : List Pf} {hpS : List Res} {wd : World} {F : Nat → Prop} (h : G n ((d, .int .i64 ((i / j : Nat) : Int)) :: env) b ps hp K) (hx : ev env x = some (.int .i64 (i : Int)) := by exact rfl) (hy : ev env y = some (.int .i64 (OfNat.ofNat j : Int)) := by exact rfl) (hb : j ≠ 0 := by first | omega | decide) (hi : i ≤ 9223372036854775807 := by omega) (hd : Nat.blt d n = true := by exact rfl) : GTR P n env psW hpS wd F b ps hp K ⟨some d, .binOp .quo t x y t', ty, pos, aft, gd⟩ := .v (.of_soft fun _ => quo_nat hx hy hb hi) hd h
theorem b_remL {t t' : TypeId} {x y : Operand} {i j : Nat} {d : Nat} {ty : TypeId} {pos : String} {aft : Array Edge} {gd : Option (Nat × Bool)} (h : G n ((d, .int .i64 ((i % j : Nat) : Int)) :: env) b ps hp K) (hx : ev env x = some (.int .i64 (i : Int)) := by exact rfl) (hy : ev env y = some (.int .i64 (OfNat.ofNat j : Int)) := by exact rfl) (hb : j ≠ 0 := by first | omega | decide) (hd : Nat.blt d n = true := by exact rfl) : GO P n env b ps hp ⟨some d, .binOp .rem t x y t', ty, pos, aft, gd⟩ K Q := rd1 (rem_nat hx hy hb) hd h
theorem tb_remL {t t' : TypeId} {x y : Operand} {i j : Nat} {d : Nat} {ty : TypeId} {pos : String} {aft : Array Edge} {gd : Option (Nat × Bool)} (h : G n ((d, .int .i64 ((i % j : Nat) : Int)) :: env) b ps hp K) (hx : ev env x = some (.int .i64 (i : Int)) := by exact rfl) (hy : ev env y = some (.int .i64 (OfNat.ofNat j : Int)) := by exact rfl) (hb : j ≠ 0 := by first | omega | decide) (hd : Nat.blt d n = true := by exact rfl) : GT P n env b ps hp ⟨some d, .binOp .rem t x y t', ty, pos, aft, gd⟩ K := tp1 (rem_nat hx hy hb) hd h
theorem rb_remL {t t' : TypeId} {x y : Operand} {i j : Nat} {d : Nat} {ty : TypeId} {pos : String} {aft : Array Edge} {gd : Option (Nat × Bool)} {psW : List Pf} {hpS : List Res} {wd : World} {F : Nat → Prop} (h : G n ((d, .int .i64 ((i % j : Nat) : Int)) :: env) b ps hp K) (hx : ev env x = some (.int .i64 (i : Int)) := by exact rfl) (hy : ev env y = some (.int .i64 (OfNat.ofNat j : Int)) := by exact rfl) (hb : j ≠ 0 := by first | omega | decide) (hd : Nat.blt d n = true := by exact rfl) : GTR P n env psW hpS wd F b ps hp K ⟨some d, .binOp .rem t x y t', ty, pos, aft, gd⟩ := .v (.of_soft fun _ => rem_nat hx hy hb) hd h
theorem la {m : Nat} {k : IntKind} {bl o' off : Nat} {y : List Int} {x0 : Int} {t : TypeId} {x : Operand} [UOne P t] {d : Nat} {ty : TypeId} {pos : String} {aft : Array Edge} {gd : Option (Nat × Bool)} (h : G n ((d, .int k x0) :: env) b ps hp K) (hx : ev env x = some (.pointer (some ⟨bl, o', none⟩)) := by exact rfl) (i0 : Look bl o' ps hp (Ty.arr m k) off y := by exact inferInstance) (hx0 : y[off]? = some x0 := by with_reducible assumption) (hd : Nat.blt d n = true := by exact rfl) : GO P n env b ps hp ⟨some d, .load t x, ty, pos, aft, gd⟩ K Q := rdv (ld_arr (m := m) (off := off) (y := y) hx hx0) hd h
theorem rla {psW : List Pf} {hpS : List Res} {m : Nat} {k : IntKind} {bl o' off : Nat} {y : List Int} {x0 : Int} {t : TypeId} {x : Operand} [UOne P t] {d : Nat} {ty : TypeId} {pos : String} {aft : Array Edge} {gd : Option (Nat × Bool)} {wd : World} {F : Nat → Prop} (h : G n ((d, .int k x0) :: env) b ps hp K) (hx : ev env x = some (.pointer (some ⟨bl, o', none⟩)) := by exact rfl) (i0 : Look bl o' psW hpS (Ty.arr m k) off y := by exact inferInstance) (hx0 : y[off]? = some x0 := by with_reducible assumption) (hd : Nat.blt d n = true := by exact rfl) : GTR P n env psW hpS wd F b ps hp K ⟨some d, .load t x, ty, pos, aft, gd⟩ := .v (ld_arr (m := m) (off := off) (y := y) hx hx0) hd h
theorem nea {t t' : TypeId} {x y : Operand} {m : Nat} {k : IntKind} {e : TypeId} {cs ds : List Value} {u v : List Int} [UArr P t m e] [UInt P e k] [UInf P e] [UPlain P t] {d : Nat} {ty : TypeId} {pos : String} {aft : Array Edge} {gd : Option (Nat × Bool)} (h : G n ((d, .bool (decide (u ≠ v))) :: env) b ps hp K) (hx : ev env x = some (.agg cs.toArray) := by exact rfl) (hy : ev env y = some (.agg ds.toArray) := by exact rfl) (i0 : FAg cs ps (Ty.arr m k) u := by exact inferInstance) (i1 : FAg ds ps (Ty.arr m k) v := by exact inferInstance) (hd : Nat.blt d n = true := by exact rfl) : GO P n env b ps hp ⟨some d, .binOp .neq t x y t', ty, pos, aft, gd⟩ K Q := rdv (ne_arr (m := m) (k := k) (e := e) hx hy i0.mem i1.mem) hd h
theorem rnea {psW : List Pf} {hpS : List Res} {t t' : TypeId} {x y : Operand} {m : Nat} {k : IntKind} {e : TypeId} {cs ds : List Value} {u v : List Int} [UArr P t m e] [UInt P e k] [UInf P e] [UPlain P t] {d : Nat} {ty : TypeId} {pos : String} {aft : Array Edge} {gd : Option (Nat × Bool)} {wd : World} {F : Nat → Prop} (h : G n ((d, .bool (decide (u ≠ v))) :: env) b ps hp K) (hx : ev env x = some (.agg cs.toArray) := by exact rfl) (hy : ev env y = some (.agg ds.toArray) := by exact rfl) (i0 : FAg cs psW (Ty.arr m k) u := by exact inferInstance) (i1 : FAg ds psW (Ty.arr m k) v := by exact inferInstance) (hd : Nat.blt d n = true := by exact rfl) : GTR P n env psW hpS wd F b ps hp K ⟨some d, .binOp .neq t x y t', ty, pos, aft, gd⟩ := .v (ne_arr (m := m) (k := k) (e := e) hx hy i0.mem i1.mem) hd h
end
end Go.GX

/- Sets kept as maps: keys are arrays of numbers, values are empty structs. No program in sight. -/
namespace Go.GX
open Go Go.RowKit Go.RR Go.RX
def kv (k : List Int) : Value := .agg (k.map (Value.int .i64)).toArray
/-- Block b is a map whose keys are these. -/
def MapS (w : World) (b m : Nat) (ks : List (List Int)) : Prop :=
  ∃ es clock, w.heap[b]? = some (.map es clock) ∧ es.toList.map (·.key) = ks.map kv ∧ (∀ e ∈ es.toList, e.val = .agg #[]) ∧ ∀ k ∈ ks, k.length = m
theorem MapS.lt {w : World} {b m : Nat} {ks : List (List Int)} (h : MapS w b m ks) : b < w.heap.size := by
  obtain ⟨es, c, h, _⟩ := h
  exact (Array.getElem?_eq_some_iff.1 h).1
def SetR (b m : Nat) (ks : List (List Int)) : Res :=
  ⟨fun k => k = b, fun _ w => MapS w b m ks, fun h hk => by subst hk; exact h.lt, fun h _ _ ha => by
    have hl := h.lt
    obtain ⟨es, c, h, h2⟩ := h
    exact ⟨es, c, (ha.block b hl rfl).trans h, h2⟩⟩
class FSet (b : Nat) (hp : List Res) (m : outParam Nat) (ks : outParam (List (List Int))) (rest : outParam (List Res)) : Prop where
  p : hp.Perm (SetR b m ks :: rest)
instance (b m : Nat) (ks : List (List Int)) (hp : List Res) : FSet b (SetR b m ks :: hp) m ks hp := ⟨List.Perm.refl _⟩
instance (b m : Nat) (q : Res) (ks : List (List Int)) (hp rest : List Res) [h : FSet b hp m ks rest] : FSet b (q :: hp) m ks (q :: rest) := ⟨(h.p.cons q).trans (List.Perm.swap _ _ _)⟩
section
variable {P : Program} {n : Nat} {env : Env} {b : Base} {ps : List Pf} {hp : List Res} {Q : Exit → Act → World → Prop} {K : Act → World → Prop}
theorem equal_nums {t e : TypeId} {m : Nat} {w : World} [h : UArr P t m e] [hk : UInt P e .i64] [hi : UInf P e] {u v : List Int} (hu : u.length = m) (hv : v.length = m) : (Op.equal t (kv u) (kv v)).run P w = .ok (decide (u = v)) w := by
  obtain ⟨inf, hinf⟩ := Option.isSome_iff_exists.1 hi.i
  have key : (Op.equalIn 10000 t (.agg (u.map (Value.int .i64)).toArray) (.agg (v.map (Value.int .i64)).toArray)).run P w = .ok (decide (u = v)) w := by
    rw [run_equalIn_array w 9999 _ _ h.u hinf, hi.c, eqItems_nums 9998 hk.u u v (List.range m) (fun i hi => by have := List.mem_range.1 hi; omega)]
    congr 1
    refine decide_eq_decide.2 ⟨fun h => List.ext_getElem? fun i => ?_, fun h i _ => by rw [h]⟩
    by_cases him : i < m
    · exact h i (List.mem_range.2 him)
    · rw [List.getElem?_eq_none (by omega), List.getElem?_eq_none (by omega)]
  exact key
theorem findAsking_nums {t e : TypeId} {m : Nat} {w : World} [h : UArr P t m e] [hk : UInt P e .i64] [hi : UInf P e] {k : List Int} (hkm : k.length = m) : ∀ (l : List MapEntry) (ks : List (List Int)) (i : Nat), l.map (·.key) = ks.map kv → (∀ q ∈ ks, q.length = m) → (∀ e ∈ l, e.val = .agg #[]) →
    ∃ r, (Instr.findAsking t (kv k) l i).run P w = .ok r w ∧ (k ∉ ks → r = none) ∧ (k ∈ ks → ∃ j, r = some (j, .agg #[]))
  | [], ks, i, h1, _, _ => by
    have : ks = [] := by cases ks with | nil => rfl | cons => simp at h1
    subst this
    exact ⟨none, rfl, fun _ => rfl, fun h => by simp at h⟩
  | e :: l, [], i, h1, _, _ => by simp at h1
  | e :: l, q :: ks, i, h1, h2, h3 => by
    simp only [List.map_cons, List.cons.injEq] at h1
    obtain ⟨hq, h1⟩ := h1
    have he := equal_nums (P := P) (t := t) (w := w) (u := k) (v := q) hkm (h2 q (by simp))
    by_cases hkq : k = q
    · refine ⟨some (i, .agg #[]), ?_, fun h => absurd (by simp [hkq]) h, fun _ => ⟨i, rfl⟩⟩
      rw [decide_eq_true hkq] at he
      simp [Instr.findAsking, hq, he, h3 e (by simp)]
    · rw [decide_eq_false hkq] at he
      obtain ⟨r, g1, g2, g3⟩ := findAsking_nums (t := t) (w := w) hkm l ks (i + 1) h1 (fun q hq => h2 q (by simp [hq])) (fun e he => h3 e (by simp [he]))
      refine ⟨r, ?_, fun h => g2 fun h4 => h (by simp [h4]), fun h => g3 ?_⟩
      · simp [Instr.findAsking, hq, he, g1]
      · rcases List.mem_cons.1 h with h | h
        · exact absurd h hkq
        · exact h
theorem findKey_nums {t e : TypeId} {m : Nat} {w : World} [h : UArr P t m e] [hk : UInt P e .i64] [hi : UInf P e] {k : List Int} (hkm : k.length = m) (l : List MapEntry) (ks : List (List Int)) (h1 : l.map (·.key) = ks.map kv) (h2 : ∀ q ∈ ks, q.length = m) (h3 : ∀ e ∈ l, e.val = .agg #[]) :
    ∃ r, (Instr.findKey t (kv k) l).run P w = .ok r w ∧ (k ∉ ks → r = none) ∧ (k ∈ ks → ∃ j, r = some (j, .agg #[])) := by
  have hu := run_underlying h.u w
  cases l with
  | nil =>
    have : ks = [] := by cases ks with | nil => rfl | cons => simp at h1
    subst this
    exact ⟨none, by simp [Instr.findKey, hu, Instr.findNow], fun _ => rfl, fun h => by simp at h⟩
  | cons x l =>
    obtain ⟨r, g1, g2⟩ := findAsking_nums (P := P) (t := t) (w := w) hkm (x :: l) ks 0 h1 h2 h3
    refine ⟨r, ?_, g2⟩
    have hn : Instr.findNow (.array m e) (kv k) (x :: l) 0 = none := by simp [Instr.findNow, Instr.sameNow]
    simp only [Instr.findKey, Sem.run_bind, hu, Result.andThen_ok, hn]
    exact g1
theorem run_checkNums {t e : TypeId} {m : Nat} {w : World} {b0 : Bool} {k : List Int} [h : UArr P t m e] [hk : UInt P e .i64] [hs : USize P e 1] (hkm : k.length = m) : (Instr.checkKey b0 10000 t (kv k)).run P w = .ok () w := by
  have hp : P.plainKey e = true := by unfold Program.plainKey; rw [hk.u]
  have h1 : (sizeOf e).run P w = .ok 1 w := hs.s w
  unfold Instr.checkKey kv
  simp only [Sem.run_bind, run_underlying h.u, Result.andThen_ok]
  simp only [Std.Legacy.Range.forIn_eq_forIn_range', Std.Legacy.Range.size, Nat.sub_zero, Nat.add_one_sub_one, Nat.div_one]
  have key : ∀ is : List Nat, (∀ i ∈ is, i < k.length) → ∀ w, (forIn is PUnit.unit (fun i (_ : PUnit) => (do
      Instr.checkKey b0 9999 e (← part e (k.map (Value.int .i64)).toArray (i * (← sizeOf e)))
      pure (ForInStep.yield PUnit.unit) : Sem (ForInStep PUnit)))).run P w = .ok PUnit.unit w := by
    intro is
    induction is with
    | nil => intro _ w; simp
    | cons i is ih =>
      intro hi w
      have hl := hi i (by simp)
      have h1 : (sizeOf e).run P w = .ok 1 w := hs.s w
      have e1 : (k.map (Value.int .i64)).toArray[i]? = some (.int .i64 k[i]) := by simp [List.getElem?_eq_getElem hl]
      have := ih (fun j hj => hi j (by simp [hj])) w
      simp [h1, run_part_plain w hp e1, run_checkKey (P := P) (w := w) (b := b0) (k := k[i]) (d := 9998) hk.u]
      simpa using this
  have := key (List.range' 0 m) (fun i hi => by rw [List.mem_range'] at hi; omega) w
  simp at this ⊢
  rw [this]
  rfl
section
variable {ty : TypeId} {pos : String} {aft : Array Edge} {gd : Option (Nat × Bool)} {t kt el e : TypeId} {x y z : Operand} {d bl m : Nat} {ks : List (List Int)} {k : List Int} {rest : List Res}
theorem set_at [hf : FSet bl hp m ks rest] {F : Nat → Prop} {w w' : World} (h2 : AllR F w hp) (ha : Agree (fun k => F k ∨ feet hp k) w w') : MapS w' bl m ks := by
  have hm := hf.p.mem_iff.2 List.mem_cons_self
  have h : MapS w bl m ks := h2 _ hm
  have hl := h.lt
  obtain ⟨es, c, h1, h2⟩ := h
  exact ⟨es, c, (ha.block _ hl (.inr ⟨_, hm, rfl⟩)).trans h1, h2⟩
/-- 'map[[2]int]struct{}{}'. -/
theorem mmS (m : Nat) [UMap P t kt e] (h : ∀ bl, G n ((d, .map (some bl)) :: env) b ps (SetR bl m [] :: hp) K) (hd : Nat.blt d n = true := by exact rfl) : GO P n env b ps hp ⟨some d, .makeMap t none, ty, pos, aft, gd⟩ K Q := by
  refine Acts.use (hp1 := []) (rest := hp) (ι := Nat) (val := fun bl => .map (some bl)) (pf := fun _ => []) (hr := fun bl => [SetR bl m []]) ?_ (List.Perm.refl _) h
  intro F w K Q b s hk
  refine RX.eff (v := .map (some w.heap.size)) (w' := w.alloc (.map #[] 0)) (fun a ha => ?_) hd (hk _ _ (mkOkN s ((Upd.refl _ _).alloc _) ⟨#[], 0, heap_alloc_new w _, rfl, by simp, by simp⟩ (fun k hk => by have hk : k = w.heap.size := hk; omega)))
  simp [execOp, Instr.makeMap]
/-- '_, is := m[k]'. -/
theorem lkS_v [ht : UMap P t kt e] [ha : UArr P kt m el] [hi : UInt P el .i64] [UInf P el] [USize P el 1] [hz : UZero P e (.agg #[])] [hf : FSet bl hp m ks rest] (hx : ev env x = some (.map (some bl))) (hy : ev env y = some (kv k)) (hkm : k.length = m) : RdV P n env ps hp (.lookup t x y true) (.tuple #[.agg #[], .bool (decide (k ∈ ks))]) := fun F w h1 h2 a ha' o ho w' hag => by
  obtain ⟨es, c, hb, hkeys, hv, hm⟩ := set_at (bl := bl) (rest := rest) h2 hag
  obtain ⟨r, g1, g2, g3⟩ := findKey_nums (P := P) (t := kt) (w := w') hkm es.toList ks hkeys hm hv
  have hc := run_checkNums (P := P) (t := kt) (w := w') (b0 := es.isEmpty) hkm
  have hg : (getObj bl).run P w' = .ok (.map es c) w' := by simp [getObj, Sem.run, hb]
  have hz' := hz.z w'
  by_cases h : k ∈ ks
  · obtain ⟨j, rfl⟩ := g3 h
    simp [execOp, ho, ha'.ev hx, ha'.ev hy, Instr.lookup, run_underlying ht.u, hg, hc, g1, h]
  · have := g2 h
    subst this
    simp [execOp, ho, ha'.ev hx, ha'.ev hy, Instr.lookup, run_underlying ht.u, hg, hc, g1, h, hz']
theorem lkS (k : List Int) [ht : UMap P t kt e] [ha : UArr P kt m el] [hi : UInt P el .i64] [UInf P el] [USize P el 1] [hz : UZero P e (.agg #[])] [hf : FSet bl hp m ks rest] (h : G n ((d, .tuple #[.agg #[], .bool (decide (k ∈ ks))]) :: env) b ps hp K) (hx : ev env x = some (.map (some bl)) := by exact rfl) (hy : ev env y = some (kv k) := by exact rfl) (hkm : k.length = m := by exact rfl) (hd : Nat.blt d n = true := by exact rfl) :
    GO P n env b ps hp ⟨some d, .lookup t x y true, ty, pos, aft, gd⟩ K Q := rdv (lkS_v (rest := rest) (ks := ks) hx hy hkm) hd h
/-- 'm[k] = struct{}{}', a new one. -/
theorem muS (k : List Int) [ht : UMap P t kt e] [ha : UArr P kt m el] [hi : UInt P el .i64] [UInf P el] [USize P el 1] [hf : FSet bl hp m ks rest] (h : G n env b ps (SetR bl m (ks ++ [k]) :: rest) K) (hk : k ∉ ks) (hx : ev env x = some (.map (some bl)) := by exact rfl) (hy : ev env y = some (kv k) := by exact rfl) (hz : ev env z = some (.agg #[]) := by exact rfl) (hkm : k.length = m := by exact rfl) :
    GO P n env b ps hp ⟨none, .mapUpdate t x y z, ty, pos, aft, gd⟩ K Q := by
  refine Acts.use (hp1 := [SetR bl m ks]) (ι := Unit) (val := fun _ => undef) (pf := fun _ => []) (hr := fun _ => [SetR bl m (ks ++ [k])]) ?_ hf.p (fun _ => h)
  intro F w K Q b s hk2
  have hM : MapS w bl m ks := s.rs _ (by simp : SetR bl m ks ∈ [SetR bl m ks])
  have hlt := hM.lt
  obtain ⟨es, c, hb, hkeys, hv, hm⟩ := hM
  obtain ⟨r, g1, g2, _⟩ := findKey_nums (P := P) (t := kt) (w := w) hkm es.toList ks hkeys hm hv
  have := g2 hk
  subst this
  have hc := run_checkNums (P := P) (t := kt) (w := w) (b0 := false) hkm
  have hg : (getObj bl).run P w = .ok (.map es c) w := by simp [getObj, Sem.run, hb]
  have hset : ∀ o, (setObj bl o).run P w = .ok () { w with heap := w.heap.setIfInBounds bl o } := fun o => by simp [setObj, Sem.run, hb]
  have hupd : ∀ o, Upd (fun k => k = bl) w { w with heap := w.heap.setIfInBounds bl o } := fun o => ⟨rfl, rfl, rfl, by simp, fun j hj hn => Array.getElem?_setIfInBounds_ne (fun e => hn e.symm)⟩
  refine RX.effU (w' := { w with heap := w.heap.setIfInBounds bl (.map (es.push { key := kv k, val := .agg #[], born := c }) (c + 1)) }) (fun a ha => ?_) (hk2 () _ (mkOk1 s (hupd _) ⟨es.push { key := kv k, val := .agg #[], born := c }, c + 1, by simp [hlt], by simp [hkeys], fun e he => ?_, fun q hq => ?_⟩ (fun k hk _ => hk)))
  · simp [execOp, ha.ev hx, ha.ev hy, ha.ev hz, Instr.mapUpdate, run_underlying ht.u, hg, hc, g1, hset]
  · rw [Array.toList_push, List.mem_append, List.mem_singleton] at he
    rcases he with he | rfl
    · exact hv e he
    · rfl
  · rw [List.mem_append, List.mem_singleton] at hq
    rcases hq with hq | rfl
    · exact hm q hq
    · exact hkm
end
end
end Go.GX
