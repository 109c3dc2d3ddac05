/- The walks over package rt: fits. -/
import Derived.Test.YtfhbainbmipddaaRt5
namespace Go.Proofs.Ytfhbainbmipddaa
open Go Go.RR Go.RX Go.GX Go.Api Go.RiseM Go.ReachM Go.RtM
attribute [local irreducible] wpList Code.wp wpPlan Exit.then Exit.inBlock bodyPost NoPanic Went GX.Post GX.Again GX.Meet GX.RowR GX.Own GX.Owns GX.Box GX.Sl GX.Pt GX.Ag GX.MapR GX.Kept GX.Pin wpT GoK AtEnd Both

set_option maxHeartbeats 1000000 in
theorem fits_spec (cs : List Value) (v : RtView) : Does Try.prog 66 [.agg cs.toArray] [Ag tyRtView cs v] []
    (fun _ : Unit => .bool (decide (Fits v.t v.u v.i))) (fun _ => []) (fun _ => []) := by
  refine enter Try.func66 rfl Try.ntmps66 rfl fun b => ?_
  by_cases h1 : v.i.op = 1 ∨ v.i.op = 14 ∨ v.i.op = 15
  · have e : Fits v.t v.u v.i ↔ RtM.of v.u v.i.a = -2 := by unfold Fits; rw [if_pos h1]
    rcases h1 with h1 | h1 | h1
    · refine GX.wR ?_; intros
      refine GX.o (cl (plain_spec _ v _ _ _ [v.i.a] rfl) fun _ => ?_)
      refine GX.wR ?_; intros
      exact rt1 () (vI (e.trans plain1.symm))
    · refine GX.wR ?_; intros
      refine GX.o (cl (plain_spec _ v _ _ _ [v.i.a] rfl) fun _ => ?_)
      refine GX.wR ?_; intros
      exact rt1 () (vI (e.trans plain1.symm))
    · refine GX.wR ?_; intros
      refine GX.o (cl (plain_spec _ v _ _ _ [v.i.a] rfl) fun _ => ?_)
      refine GX.wR ?_; intros
      exact rt1 () (vI (e.trans plain1.symm))
  have n1 : v.i.op ≠ 1 := fun h => h1 (.inl h)
  have n14 : v.i.op ≠ 14 := fun h => h1 (.inr (.inl h))
  have n15 : v.i.op ≠ 15 := fun h => h1 (.inr (.inr h))
  by_cases h2 : v.i.op = 2
  · have e : Fits v.t v.u v.i ↔ IsRef (RtM.of v.u v.i.a) := by unfold Fits; rw [if_neg h1, if_pos h2]
    refine GX.wR ?_; intros
    refine GX.o (cl (refs_spec _ v _ _ _ [v.i.a] rfl) fun _ => ?_)
    refine GX.wR ?_; intros
    exact rt1 () (vI (e.trans refs1.symm))
  by_cases h3 : v.i.op = 3
  · have e : Fits v.t v.u v.i ↔ Into (RtM.of v.u v.i.a) (RtM.of v.u v.i.b) := by unfold Fits; rw [if_neg h1, if_neg h2, if_pos h3]
    refine GX.wR ?_; intros
    refine GX.nmP 3 ?_; rintro b3 rfl
    refine frzB b3 ?_
    refine GX.drawn0  (fun j => !(List.contains [7, 8] j)) [(0, true), (1, true), (2, true), (4, true), (5, true), (6, true), (3, false), (7, false), (8, false), (9, true)] rfl (by kernel_rfl) (by kernel_rfl) (by first | ((repeat (first | apply Go.GX.SelR.nil | apply Go.GX.SelR.cons | (with_reducible apply Go.GX.TakeR.head) | apply Go.GX.TakeR.tail)); done) | (repeat (first | apply Go.GX.SelR.nil | apply Go.GX.SelR.cons | apply Go.GX.TakeR.head | apply Go.GX.TakeR.tail))) ?_; intro wd F hW hR
    refine GX.wT ?_; intros
    refine GX.gow ?_
    refine (cl (of_spec _ v v.i.a) fun _ => ?_)
    refine GX.wT ?_; intros
    refine GX.gow ?_
    refine (cl (of_spec _ v v.i.b) fun _ => ?_)
    refine GX.wT ?_; intros
    refine GX.gow ?_
    refine (cl (into_spec _ _) fun _ => ?_)
    refine GX.wT ?_; intros
    refine GX.wR ?_; intros
    exact rt1 () (vI e)
  by_cases h4 : v.i.op = 4
  · have e : Fits v.t v.u v.i ↔ Two v.u v.i := by unfold Fits; rw [if_neg h1, if_neg h2, if_neg h3, if_pos h4]
    refine GX.wR ?_; intros
    refine GX.o (cl (two_spec _ v) fun _ => ?_)
    refine GX.wR ?_; intros
    exact rt1 () (vI e)
  by_cases h5 : v.i.op = 5
  · have e : Fits v.t v.u v.i ↔ (v.i.n = 12 ∨ v.i.n = 13) ∧ RtM.of v.u v.i.a = -2 ∧ RtM.of v.u v.i.b = -2 := by unfold Fits; rw [if_neg h1, if_neg h2, if_neg h3, if_neg h4, if_pos h5]
    by_cases g1 : v.i.n = 12
    · refine GX.wR ?_; intros
      refine GX.o (cl (plain_spec _ v _ _ _ [v.i.a, v.i.b] rfl) fun _ => ?_)
      refine GX.wR ?_; intros
      exact rt1 () (vI (e.trans ⟨fun h => plain2.2 h.2, fun h => ⟨.inl g1, plain2.1 h⟩⟩))
    · by_cases g2 : v.i.n = 13
      · refine GX.wR ?_; intros
        refine GX.o (cl (plain_spec _ v _ _ _ [v.i.a, v.i.b] rfl) fun _ => ?_)
        refine GX.wR ?_; intros
        exact rt1 () (vI (e.trans ⟨fun h => plain2.2 h.2, fun h => ⟨.inr g2, plain2.1 h⟩⟩))
      · refine GX.wR ?_; intros
        exact rt1 () (vN fun h => (e.1 h).1.elim g1 g2)
  by_cases h6 : v.i.op = 6
  · have e : Fits v.t v.u v.i ↔ Loads v.t v.u v.i.a v.i.b false v.i.c := by unfold Fits; rw [if_neg h1, if_neg h2, if_neg h3, if_neg h4, if_neg h5, if_pos h6]
    refine GX.wR ?_; intros
    refine GX.o (cl (loads_spec _ v _ _ _ _) fun _ => ?_)
    refine GX.wR ?_; intros
    exact rt1 () (vI e)
  by_cases h7 : v.i.op = 7
  · have e : Fits v.t v.u v.i ↔ Lays v.t v.u v.i.a false v.i.c v.i.b := by unfold Fits; rw [if_neg h1, if_neg h2, if_neg h3, if_neg h4, if_neg h5, if_neg h6, if_pos h7]
    refine GX.wR ?_; intros
    refine GX.o (cl (lays_spec _ v _ _ _ _) fun _ => ?_)
    refine GX.wR ?_; intros
    exact rt1 () (vI e)
  by_cases h8 : v.i.op = 8
  · have e : Fits v.t v.u v.i ↔ RtM.of v.u v.i.c = -2 ∧ Loads v.t v.u v.i.a v.i.b true 0 := by unfold Fits; rw [if_neg h1, if_neg h2, if_neg h3, if_neg h4, if_neg h5, if_neg h6, if_neg h7, if_pos h8]
    refine GX.wR ?_; intros
    refine GX.o (cl (plain_spec _ v _ _ _ [v.i.c] rfl) fun _ => ?_)
    by_cases g1 : Plain v.u [v.i.c]
    · refine GX.wR ?_; intros
      refine GX.o (cl (loads_spec _ v _ _ _ _) fun _ => ?_)
      refine GX.wR ?_; intros
      exact rt1 () (vI (e.trans ⟨fun h => h.2, fun h => ⟨plain1.1 g1, h⟩⟩))
    · refine GX.wR ?_; intros
      exact rt1 () (vN fun h => g1 (plain1.2 (e.1 h).1))
  by_cases h9 : v.i.op = 9
  · have e : Fits v.t v.u v.i ↔ RtM.of v.u v.i.b = -2 ∧ Lays v.t v.u v.i.a true 0 v.i.c := by unfold Fits; rw [if_neg h1, if_neg h2, if_neg h3, if_neg h4, if_neg h5, if_neg h6, if_neg h7, if_neg h8, if_pos h9]
    refine GX.wR ?_; intros
    refine GX.o (cl (plain_spec _ v _ _ _ [v.i.b] rfl) fun _ => ?_)
    by_cases g1 : Plain v.u [v.i.b]
    · refine GX.wR ?_; intros
      refine GX.o (cl (lays_spec _ v _ _ _ _) fun _ => ?_)
      refine GX.wR ?_; intros
      exact rt1 () (vI (e.trans ⟨fun h => h.2, fun h => ⟨plain1.1 g1, h⟩⟩))
    · refine GX.wR ?_; intros
      exact rt1 () (vN fun h => g1 (plain1.2 (e.1 h).1))
  by_cases h10 : v.i.op = 10
  · have e : Fits v.t v.u v.i ↔ (cell v.t v.u v.i.b true 0).2.2 = true ∧ RtM.of v.u v.i.a = -2 := by unfold Fits; rw [if_neg h1, if_neg h2, if_neg h3, if_neg h4, if_neg h5, if_neg h6, if_neg h7, if_neg h8, if_neg h9, if_pos h10]
    refine GX.wR ?_; intros
    refine GX.o (cl (length_spec _ v) fun _ => ?_)
    refine GX.wR ?_; intros
    exact rt1 () (vI e)
  by_cases h11 : v.i.op = 11
  · have e : Fits v.t v.u v.i ↔ Fresh v.t v.u v.i false := by unfold Fits; rw [if_neg h1, if_neg h2, if_neg h3, if_neg h4, if_neg h5, if_neg h6, if_neg h7, if_neg h8, if_neg h9, if_neg h10, if_pos h11]
    refine GX.wR ?_; intros
    refine GX.o (cl (fresh_spec _ v _) fun _ => ?_)
    refine GX.wR ?_; intros
    exact rt1 () (vI e)
  by_cases h12 : v.i.op = 12
  · have e : Fits v.t v.u v.i ↔ Fresh v.t v.u v.i true ∧ RtM.of v.u v.i.b = -2 := by unfold Fits; rw [if_neg h1, if_neg h2, if_neg h3, if_neg h4, if_neg h5, if_neg h6, if_neg h7, if_neg h8, if_neg h9, if_neg h10, if_neg h11, if_pos h12]
    refine GX.wR ?_; intros
    refine GX.o (cl (fresh_spec _ v _) fun _ => ?_)
    by_cases g1 : Fresh v.t v.u v.i true
    · refine GX.wR ?_; intros
      refine GX.o (cl (plain_spec _ v _ _ _ [v.i.b] rfl) fun _ => ?_)
      refine GX.wR ?_; intros
      exact rt1 () (vI (e.trans ⟨fun h => plain1.2 h.2, fun h => ⟨g1, plain1.1 h⟩⟩))
    · refine GX.wR ?_; intros
      exact rt1 () (vN fun h => g1 (e.1 h).1)
  have e : Fits v.t v.u v.i ↔ Goes v.t v.u v.i := by unfold Fits; rw [if_neg h1, if_neg h2, if_neg h3, if_neg h4, if_neg h5, if_neg h6, if_neg h7, if_neg h8, if_neg h9, if_neg h10, if_neg h11, if_neg h12]
  refine GX.wR ?_; intros
  refine GX.o (cl (goes_spec _ v) fun _ => ?_)
  refine GX.wR ?_; intros
  exact rt1 () (vI e)
end Go.Proofs.Ytfhbainbmipddaa
