/- The walk over 'known' of chapter 16's laws. -/
import Derived.Test.YtnpbadghodkhlaaLiv4
import Derived.Test.YtnpbadghodkhlaaLivFwd
import Derived.Test.YtnpbadghodkhlaaSame
namespace Go.Proofs.Ytnpbadghodkhlaa
open Go Go.RR Go.RX Go.GX Go.Api Go.FlowM Go.RiseM Go.LivM
attribute [local irreducible] wpList Code.wp wpPlan Exit.then Exit.inBlock bodyPost NoPanic Went GX.Post GX.Again GX.Meet GX.RowR GX.Own GX.Owns GX.Box GX.Sl GX.Pt GX.Ag GX.MapR GX.Kept GX.Pin wpT GoK AtEnd Both
theorem known16_spec : Does Try.prog 11 [] [] [] (fun _ : Unit => .bool true) (fun _ => []) (fun _ => []) := by
  refine enter Try.func11 rfl Try.ntmps11 rfl fun b => ?_
  have hA : ArgsOk c16.ins := by decide
  have hi0 : (⟨0, [], false, ⟨0, 0, 0⟩, [⟨1, 1, 0, 0, 0, []⟩, ⟨15, 1, 0, 0, 0, []⟩, ⟨18, 0, 0, 0, 0, []⟩]⟩ : Api.Code).ins[0]? = some ⟨1, 1, 0, 0, 0, []⟩ := rfl
  refine GX.wR ?_; intros
  refine GX.o (cl (before_spec _ c16 hA (by decide)) fun s => ?_)
  obtain ⟨a8, c8⟩ := s
  rw [c16_before]
  dsimp only
  refine GX.wR ?_; intros
  refine GX.o (cl (same_spec _ _ _ _ [[0], [0, 1], [0]] [[0], [0, 1], [0]]) fun _ => ?_)
  rw [decide_eq_true rfl]
  refine GX.wR ?_; intros
  refine GX.o (cl (def_spec _ ⟨1, 1, 0, 0, 0, []⟩) fun _ => ?_)
  rw [show def_ ⟨1, 1, 0, 0, 0, []⟩ = 1 by decide]
  clear hi0
  have hi1 : (⟨0, [], false, ⟨0, 0, 0⟩, [⟨1, 1, 0, 0, 0, []⟩, ⟨15, 1, 0, 0, 0, []⟩, ⟨18, 0, 0, 0, 0, []⟩]⟩ : Api.Code).ins[1]? = some ⟨15, 1, 0, 0, 0, []⟩ := rfl
  refine GX.wR ?_; intros
  refine GX.o (cl (uses_spec _ ⟨15, 1, 0, 0, 0, []⟩ (by decide)) fun s => ?_)
  obtain ⟨a9, c9⟩ := s
  rw [show uses ⟨15, 1, 0, 0, 0, []⟩ = [1] by decide]
  dsimp only
  refine GX.wR ?_; intros
  refine GX.o (cl (ints_same _ _ _ _ [1] [1]) fun _ => ?_)
  rw [decide_eq_true rfl]
  refine GX.wR ?_; intros
  exact rt1 () rfl
end Go.Proofs.Ytnpbadghodkhlaa
