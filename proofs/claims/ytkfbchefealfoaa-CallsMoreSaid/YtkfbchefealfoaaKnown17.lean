/- The walk over 'known' of chapter 17's laws, and what Comps says of the program there. -/
import Derived.Test.YtkfbchefealfoaaTar3
import Derived.Test.YtkfbchefealfoaaRCal2
import Derived.Test.YtkfbchefealfoaaSame
namespace Go.Proofs.Ytkfbchefealfoaa
open Go Go.RR Go.RX Go.GX Go.Api Go.CalM Go.TarM Go.RiseM
attribute [local irreducible] wpList Code.wp wpPlan Exit.then Exit.inBlock bodyPost NoPanic Went GX.Post GX.Again GX.Meet GX.RowR GX.Own GX.Owns GX.Box GX.Sl GX.Pt GX.Ag GX.MapR GX.Kept GX.Pin wpT GoK AtEnd Both

def e17 : List (List Int) := [[2, 1, 2], [0], []]
def g17 : List (List Nat) := [[2, 1], [0], []]
theorem e17_few : Few e17 := by
  refine ⟨by decide, fun l hl => ?_⟩
  have hl : l = [2, 1, 2] ∨ l = [0] ∨ l = [] := by simpa [e17] using hl
  rcases hl with rfl | rfl | rfl <;> decide
theorem g17_gr : gr (cProg e17) = g17 := by decide
theorem edges17 : edges (cProg e17) = [[2, 1], [0], []] := by decide
theorem r17_two {y : Nat} (h : R g17 2 y) : y = 2 := by
  have key : ∀ {x y : Nat}, R g17 x y → x = 2 → y = 2 := by
    intro x y h
    induction h with
    | refl => exact id
    | @step y z _ hk ih =>
      intro hx
      obtain rfl := ih hx
      rw [show kids g17 2 = [] by decide] at hk
      simp at hk
  exact key h rfl
theorem r17_01 : R g17 0 1 := .edge (by decide)
theorem r17_02 : R g17 0 2 := .edge (by decide)
theorem r17_10 : R g17 1 0 := .edge (by decide)
theorem r17_12 : R g17 1 2 := r17_10.trans r17_02
theorem r17_20 : ¬ R g17 2 0 := fun h => absurd (r17_two h) (by decide)
theorem r17_21 : ¬ R g17 2 1 := fun h => absurd (r17_two h) (by decide)
theorem r17_refl (x : Nat) : R g17 x x := .refl x
theorem scc17_2 : scc g17 2 = [2] := by
  have e : List.range g17.length = [0, 1, 2] := by decide
  unfold scc; rw [e]
  simp [r17_20, r17_21, r17_refl]
theorem scc17_0 : scc g17 0 = [0, 1] := by
  have e : List.range g17.length = [0, 1, 2] := by decide
  unfold scc; rw [e]
  simp [r17_20, r17_01, r17_10, r17_refl]
theorem top17 : topN g17 3 = ([0, 2, 1], [2, 1, 0]) := by decide
theorem root17_2 : IsRoot g17 [0, 2, 1] 2 := fun g _ h1 _ => by rw [r17_two h1]; exact Nat.le_refl _
theorem root17_0 : IsRoot g17 [0, 2, 1] 0 := fun g hg _ _ => Nat.le_trans (show num [0, 2, 1] 0 ≤ 1 by decide) (num_pos hg)
theorem root17_1 : ¬ IsRoot g17 [0, 2, 1] 1 := fun h => absurd (h 0 (by decide) r17_10 r17_01) (by decide)
theorem comps17 : comps0 g17 = [[2], [0, 1]] := by
  have e : topN g17 g17.length = ([0, 2, 1], [2, 1, 0]) := top17
  unfold comps0 compsOf
  rw [e]
  simp [root17_2, root17_0, root17_1, scc17_2, scc17_0]
theorem zs17 : (comps0 (gr (cProg e17))).map zs = [[2], [0, 1]] := by rw [g17_gr, comps17]; rfl
theorem known17_spec : Does Try.prog 13 [] [] [] (fun _ : Unit => .bool true) (fun _ => []) (fun _ => []) := by
  refine enter Try.func13 rfl Try.ntmps13 rfl fun b => ?_
  have hf := e17_few.prog
  have hE := fun cs => edges_spec cs (cProg e17) hf
  rw [edges17] at hE
  have hC := fun cs => comps_spec cs (cProg e17) hf
  rw [zs17] at hC
  refine GX.wR ?_; intros
  refine GX.nmB 5 ?_; rintro b5 rfl
  refine GX.o (cl (program_spec (some ⟨b5, 0, none⟩) 3 e17 e17_few) fun s => ?_)
  refine GX.wR ?_; intros
  refine GX.nmP 1 ?_; rintro b1 rfl
  refine GX.o (cl (hE _) fun s => ?_)
  obtain ⟨a8, c8⟩ := s
  dsimp only
  refine GX.wR ?_; intros
  refine GX.o (cl (same_spec _ _ _ _ [[2, 1], [0], []] [[2, 1], [0], []]) fun _ => ?_)
  rw [decide_eq_true rfl]
  refine GX.wR ?_; intros
  refine GX.o (cl (hC _) fun s => ?_)
  obtain ⟨a9, c9⟩ := s
  dsimp only
  refine GX.wR ?_; intros
  refine GX.o (cl (same_spec _ _ _ _ [[2], [0, 1]] [[2], [0, 1]]) fun _ => ?_)
  rw [decide_eq_true rfl]
  refine GX.wR ?_; intros
  exact rt1 () rfl
end Go.Proofs.Ytkfbchefealfoaa
