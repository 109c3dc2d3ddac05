/- slices.ContainsFunc over lists of ints. -/
import Derived.Test.YtfhbainbmipddaaTypes
import Derived.Test.YtfhbainbmipddaaSlcIF
namespace Go.Proofs.Ytfhbainbmipddaa
open Go Go.RR Go.RX Go.GX
attribute [local irreducible] wpList Code.wp wpPlan Exit.then Exit.inBlock bodyPost NoPanic Went GX.Post GX.Again GX.Meet GX.RowR GX.Own GX.Owns GX.Box GX.Sl GX.Pt GX.Ag GX.MapR GX.Kept GX.Pin

theorem containsFunc_spec (ao : Option Addr) (cap : Nat) (xs : List Int) (fid : Nat) (caps : List Value) (psC : List Pf) (hpC : List Res) (p : Int → Bool) [UFunc Try.prog fid]
    (hf : ∀ x ∈ xs, Does Try.prog fid (.int .i64 x :: caps) psC hpC (fun _ : Unit => .bool (p x)) (fun _ => []) (fun _ => hpC)) :
    Does Try.prog 42 [.slice ao xs.length cap, .func (.func fid) #[] caps.toArray] (Sl Ty.int ao cap xs :: psC) hpC (fun _ : Unit => .bool (xs.any p)) (fun _ => []) (fun _ => hpC) := by
  refine enter Try.func42 rfl Try.ntmps42 rfl fun b => ?_
  repeat (first | (apply GX.s_list; first | apply GX.nil | (refine GX.o ?_; first | (apply GX.k_move; refine GX.m ?_) | (apply GX.k_assign; refine GX.a ?_) | (apply GX.k_binOp_geq; refine GX.b_geq ?_)) | refine GX.gt ?_ | refine GX.gf ?_ | refine GX.gbt ?_ | refine GX.gbf ?_ | refine GX.un ?_ | refine GX.un0 ?_) | apply GX.then_normal | apply GX.seq | apply GX.region | (apply GX.s_cond; first | refine GX.ct ?_ | refine GX.cf ?_ | refine GX.cdf ?_ | refine GX.cdt ?_ | refine GX.cbt ?_ | refine GX.cbf ?_) | apply GX.skip | apply GX.block | apply GX.inBlock_normal | apply GX.exit | apply GX.then_exit | apply GX.inBlock_exit | refine GX.ibo ?_ | apply GX.ret | apply GX.then_ret | apply GX.inBlock_ret)
  refine GX.o (clA (indexFunc_spec ao cap xs fid caps psC hpC p hf) fun _ => ?_)
  rw [← idxF_any]
  repeat (first | (apply GX.s_list; first | apply GX.nil | (refine GX.o ?_; first | (apply GX.k_move; refine GX.m ?_) | (apply GX.k_assign; refine GX.a ?_) | (apply GX.k_binOp_geq; refine GX.b_geq ?_)) | refine GX.gt ?_ | refine GX.gf ?_ | refine GX.gbt ?_ | refine GX.gbf ?_ | refine GX.un ?_ | refine GX.un0 ?_) | apply GX.then_normal | apply GX.seq | apply GX.region | (apply GX.s_cond; first | refine GX.ct ?_ | refine GX.cf ?_ | refine GX.cdf ?_ | refine GX.cdt ?_ | refine GX.cbt ?_ | refine GX.cbf ?_) | apply GX.skip | apply GX.block | apply GX.inBlock_normal | apply GX.exit | apply GX.then_exit | apply GX.inBlock_exit | refine GX.ibo ?_ | apply GX.ret | apply GX.then_ret | apply GX.inBlock_ret)
  exact rt1 () rfl (h2 := SelR.all _)
end Go.Proofs.Ytfhbainbmipddaa
