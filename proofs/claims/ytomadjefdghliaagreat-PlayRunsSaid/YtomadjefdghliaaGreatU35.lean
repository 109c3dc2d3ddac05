import Derived.Test.YtomadjefdghliaaGreatU34
namespace Go.Proofs.YtomadjefdghliaaGreat
open Go Go.RR Go.RX Go.GX Go.Api Go.RiseM Go.ReachM Go.RtM
attribute [local irreducible] wpList Code.wp wpPlan Exit.then Exit.inBlock bodyPost NoPanic Went GX.Post GX.Again GX.Meet GX.RowR GX.Own GX.Owns GX.Box GX.Sl GX.Pt GX.Ag GX.MapR GX.Kept GX.Pin wpT GoK AtEnd Both
noncomputable instance (t : RTg) (u : Unt) (i : Ins) : Decidable (Step t u i) := Classical.propDecidable _
theorem rof_lt {t : RTg} {u : Unt} (h : Hds t u) (n : Int) : rof u n < (t.classes.length : Int) := by
 rcases var h n with ⟨e, _, h1, _, h2⟩ | ⟨_, h2⟩ <;> omega
theorem lay_arr {t : RTg} {u : Unt} (h : Hds t u) : ∀ L ∈ t.classes, L.arr = true → L.refs.length = 1 := fun L hL => (h.lay L hL).2.1
set_option maxHeartbeats 8000000 in
theorem step_spec (c1 c2 c3 : List Value) (t : RTg) (u : Unt) (i : Ins) (h : Hds t u) : Does Tryz.prog 37 [.agg c1.toArray, .agg c2.toArray, .agg c3.toArray] [Ag tyRTg c1 t, Ag tyUnt c2 u, Ag tyIns c3 i] []
  (fun _ : Unit => .bool (decide (Step t u i))) (fun _ => []) (fun _ => []) := by
 refine enter Tryz.func37 rfl Tryz.ntmps37 rfl fun b => ?_
 refine GX.wR ?_; intros
 refine GX.o (cl (named_spec _ i) fun _ => ?_)
 by_cases hN : Named i
 rotate_left
 ·refine GX.wR ?_; intros
  exact rt1 () (vN fun h => hN h.1)
 have hN' := Classical.not_not.2 hN
 refine GX.wR ?_; intros
 refine GX.drawn0  (fun j => !(List.contains [11] j)) [(0, true), (1, true), (2, true), (4, true), (5, true), (6, true), (8, true), (9, true), (10, true), (3, false), (7, false), (11, false), (12, true), (13, true), (14, true)] rfl (by kernel_rfl) (by kernel_rfl) GX.sA ?_; intro wd F hW hR
 refine GX.wT ?_; intros
 refine GX.gow ?_
 refine (cl (rof_spec _ u i.a) fun _ => ?_)
 refine GX.wT ?_; intros
 refine GX.gow ?_
 refine (cl (rof_spec _ u i.b) fun _ => ?_)
 refine GX.wT ?_; intros
 refine GX.gow ?_
 refine (cl (rof_spec _ u i.c) fun _ => ?_)
 refine GX.wT ?_; intros
 have ha := rof_lt h i.a
 have hb := rof_lt h i.b
 have hl := lay_arr h
 refine GX.wRB ?_; intros
 refine GX.nmP 3 ?_; rintro b3 rfl
 refine GX.nmP 4 ?_; rintro b4 rfl
 refine GX.nmP 5 ?_; rintro b5 rfl
 refine less [(3, .pointer (some ⟨b3, 0, none⟩)), (4, .pointer (some ⟨b4, 0, none⟩)), (5, .pointer (some ⟨b5, 0, none⟩)), (7, .int .i64 (rof u i.a)), (8, .int .i64 (rof u i.b)), (9, .int .i64 (rof u i.c)), (10, .int .i64 (-2)), (37, .int .i64 i.op)] [Pt tyRTg b3 0 t, Pt tyUnt b4 0 u, Pt tyIns b5 0 i] [] ⟨rfl, rfl, rfl, rfl, rfl, rfl, rfl, rfl, trivial⟩ (AllIn.sub GX.aA) (List.nil_sublist _) ?_
 by_cases h1 : i.op = 1 ∨ i.op = 14 ∨ i.op = 15
 ·have e : Step t u i ↔ rof u i.a = -2 := by unfold Step; rw [if_pos h1]; exact ⟨fun h => h.2, fun h => ⟨hN, h⟩⟩
  rcases h1 with h1 | h1 | h1
  ·refine GX.wR ?_; intros
   exact rt1 () (vI e)
  ·refine GX.wR ?_; intros
   exact rt1 () (vI e)
  ·refine GX.wR ?_; intros
   exact rt1 () (vI e)
 have n1 : i.op ≠ 1 := fun h => h1 (.inl h)
 have n14 : i.op ≠ 14 := fun h => h1 (.inr (.inl h))
 have n15 : i.op ≠ 15 := fun h => h1 (.inr (.inr h))
 by_cases h2 : i.op = 2
 ·have e : Step t u i ↔ -1 ≤ rof u i.a := by unfold Step; rw [if_neg h1, if_pos h2]; exact ⟨fun h => h.2, fun h => ⟨hN, h⟩⟩
  refine GX.wR ?_; intros
  exact rt1 () (vI e)
 by_cases h3 : i.op = 3
 ·have e : Step t u i ↔ rof u i.a ≠ -4 ∧ rof u i.b ≠ -4 ∧ RInto (rof u i.a) (rof u i.b) := by unfold Step; rw [if_neg h1, if_neg h2, if_pos h3]; exact ⟨fun h => h.2, fun h => ⟨hN, h⟩⟩
  by_cases g1 : rof u i.a = -4
  ·refine GX.wR ?_; intros
   exact rt1 () (vN fun h => (e.1 h).1 g1)
  by_cases g2 : rof u i.b = -4
  ·refine GX.wR ?_; intros
   exact rt1 () (vN fun h => (e.1 h).2.1 g2)
  refine GX.wR ?_; intros
  refine GX.o (cl (rinto_spec _ _) fun _ => ?_)
  refine GX.wR ?_; intros
  exact rt1 () (vI (e.trans ⟨fun h => h.2.2, fun h => ⟨g1, g2, h⟩⟩))
 by_cases h4 : i.op = 4
 ·have e : Step t u i ↔ (rof u i.a = -2 ∧ 14 ≤ i.n ∧ i.n ≤ 24) ∧ (if i.n = 21 ∨ i.n = 22 then rof u i.b ≠ -4 ∧ rof u i.c ≠ -4 ∧ (rof u i.b = -2 ↔ rof u i.c = -2) else rof u i.b = -2 ∧ rof u i.c = -2) := by unfold Step; rw [if_neg h1, if_neg h2, if_neg h3, if_pos h4]; exact ⟨fun h => h.2, fun h => ⟨hN, h⟩⟩
  by_cases g1 : rof u i.a = -2
  rotate_left
  ·refine GX.wR ?_; intros
   exact rt1 () (vN fun h => g1 (e.1 h).1.1)
  have g1' := Classical.not_not.2 g1
  by_cases g2 : i.n < 14
  ·refine GX.wR ?_; intros
   exact rt1 () (vN fun h => by have := (e.1 h).1; omega)
  by_cases g3 : 24 < i.n
  ·refine GX.wR ?_; intros
   exact rt1 () (vN fun h => by have := (e.1 h).1; omega)
  have hh : rof u i.a = -2 ∧ 14 ≤ i.n ∧ i.n ≤ 24 := ⟨g1, by omega, by omega⟩
  by_cases g4 : i.n = 21 ∨ i.n = 22
  ·rw [if_pos g4] at e
   by_cases g5 : rof u i.b = -4
   ·rcases g4 with g4 | g4
    ·refine GX.wR ?_; intros
     exact rt1 () (vN fun h => (e.1 h).2.1 g5)
    ·refine GX.wR ?_; intros
     exact rt1 () (vN fun h => (e.1 h).2.1 g5)
   by_cases g6 : rof u i.c = -4
   ·rcases g4 with g4 | g4
    ·refine GX.wR ?_; intros
     exact rt1 () (vN fun h => (e.1 h).2.2.1 g6)
    ·refine GX.wR ?_; intros
     exact rt1 () (vN fun h => (e.1 h).2.2.1 g6)
   have e2 : decide (Step t u i) = (decide (rof u i.b = -2) == decide (rof u i.c = -2)) := by
    rw [Bool.eq_iff_iff, decide_eq_true_eq, beq_iff_eq, decide_eq_decide, e]
    exact ⟨fun h => h.2.2.2, fun h => ⟨hh, g5, g6, h⟩⟩
   rw [e2]
   rcases g4 with g4 | g4
   ·refine GX.wR ?_; intros
    exact rt1 () rfl
   ·refine GX.wR ?_; intros
    exact rt1 () rfl
  ·rw [if_neg g4] at e
   have g5 : i.n ≠ 21 := fun h => g4 (.inl h)
   have g6 : i.n ≠ 22 := fun h => g4 (.inr h)
   by_cases g7 : rof u i.b = -2
   ·refine GX.wR ?_; intros
    exact rt1 () (vI (e.trans ⟨fun h => h.2.2, fun h => ⟨hh, g7, h⟩⟩))
   ·refine GX.wR ?_; intros
    exact rt1 () (vN fun h => g7 (e.1 h).2.1)
 by_cases h5 : i.op = 5
 ·have e : Step t u i ↔ rof u i.a = -2 ∧ rof u i.b = -2 ∧ (i.n = 12 ∨ i.n = 13) := by unfold Step; rw [if_neg h1, if_neg h2, if_neg h3, if_neg h4, if_pos h5]; exact ⟨fun h => h.2, fun h => ⟨hN, h⟩⟩
  by_cases g1 : rof u i.a = -2
  rotate_left
  ·refine GX.wR ?_; intros
   exact rt1 () (vN fun h => g1 (e.1 h).1)
  by_cases g2 : rof u i.b = -2
  rotate_left
  ·refine GX.wR ?_; intros
   exact rt1 () (vN fun h => g2 (e.1 h).2.1)
  by_cases g3 : i.n = 12
  ·refine GX.wR ?_; intros
   exact rt1 () (vY (e.2 ⟨g1, g2, .inl g3⟩))
  ·refine GX.wR ?_; intros
   exact rt1 () (vI (e.trans ⟨fun h => h.2.2.elim (fun h => absurd h g3) id, fun h => ⟨g1, g2, .inr h⟩⟩))
 by_cases h6 : i.op = 6
 ·have e : Step t u i ↔ rof u i.a ≠ -4 ∧ RtM.Has (record t (rof u i.b) i.c) (RInto (rof u i.a)) := by unfold Step; rw [if_neg h1, if_neg h2, if_neg h3, if_neg h4, if_neg h5, if_pos h6]; exact ⟨fun h => h.2, fun h => ⟨hN, h⟩⟩
  refine GX.wR ?_; intros
  refine GX.o (cl (record_spec _ t (rof u i.b) i.c hb) fun _ => ?_)
  unfold RtM.Has at e
  generalize record t (rof u i.b) i.c = r at *
  obtain ⟨x, any⟩ := r
  dsimp only at *
  by_cases f0 : rof u i.a = -4
  ·refine GX.wR ?_; intros
   exact rt1 () (vN fun h => (e.1 h).1 f0)
  cases any with
  | true =>
   refine GX.wR ?_; intros
   exact rt1 () (vY (e.2 ⟨f0, .inl rfl⟩))
  | false =>
   by_cases g : x = -4
   ·refine GX.wR ?_; intros
    exact rt1 () (vN fun h => (e.1 h).2.elim (fun h => by simp at h) (fun h => h.1 g))
   ·refine GX.wR ?_; intros
    refine GX.o (cl (rinto_spec _ x) fun _ => ?_)
    refine GX.wR ?_; intros
    exact rt1 () (vI (e.trans ⟨fun h => h.2.elim (fun h => by simp at h) (fun h => h.2), fun h => ⟨f0, .inr ⟨g, h⟩⟩⟩))
 by_cases h7 : i.op = 7
 ·have e : Step t u i ↔ rof u i.b ≠ -4 ∧ RtM.Has (record t (rof u i.a) i.c) (fun e => RInto e (rof u i.b)) := by unfold Step; rw [if_neg h1, if_neg h2, if_neg h3, if_neg h4, if_neg h5, if_neg h6, if_pos h7]; exact ⟨fun h => h.2, fun h => ⟨hN, h⟩⟩
  refine GX.wR ?_; intros
  refine GX.o (cl (record_spec _ t (rof u i.a) i.c ha) fun _ => ?_)
  unfold RtM.Has at e
  generalize record t (rof u i.a) i.c = r at *
  obtain ⟨x, any⟩ := r
  dsimp only at *
  by_cases f0 : rof u i.b = -4
  ·refine GX.wR ?_; intros
   exact rt1 () (vN fun h => (e.1 h).1 f0)
  cases any with
  | true =>
   refine GX.wR ?_; intros
   exact rt1 () (vY (e.2 ⟨f0, .inl rfl⟩))
  | false =>
   by_cases g : x = -4
   ·refine GX.wR ?_; intros
    exact rt1 () (vN fun h => (e.1 h).2.elim (fun h => by simp at h) (fun h => h.1 g))
   ·refine GX.wR ?_; intros
    refine GX.o (cl (rinto_spec x _) fun _ => ?_)
    refine GX.wR ?_; intros
    exact rt1 () (vI (e.trans ⟨fun h => h.2.elim (fun h => by simp at h) (fun h => h.2), fun h => ⟨f0, .inr ⟨g, h⟩⟩⟩))
 by_cases h8 : i.op = 8
 ·have e : Step t u i ↔ rof u i.a ≠ -4 ∧ rof u i.c = -2 ∧ RtM.Has (array t (rof u i.b)) (RInto (rof u i.a)) := by unfold Step; rw [if_neg h1, if_neg h2, if_neg h3, if_neg h4, if_neg h5, if_neg h6, if_neg h7, if_pos h8]; exact ⟨fun h => h.2, fun h => ⟨hN, h⟩⟩
  refine GX.wR ?_; intros
  refine GX.o (cl (array_spec _ t (rof u i.b) hb hl) fun _ => ?_)
  unfold RtM.Has at e
  generalize array t (rof u i.b) = r at *
  obtain ⟨x, any⟩ := r
  dsimp only at *
  by_cases f0 : rof u i.a = -4
  ·refine GX.wR ?_; intros
   exact rt1 () (vN fun h => (e.1 h).1 f0)
  by_cases f1 : rof u i.c = -2
  rotate_left
  ·refine GX.wR ?_; intros
   exact rt1 () (vN fun h => f1 (e.1 h).2.1)
  cases any with
  | true =>
   refine GX.wR ?_; intros
   exact rt1 () (vY (e.2 ⟨f0, f1, .inl rfl⟩))
  | false =>
   by_cases g : x = -4
   ·refine GX.wR ?_; intros
    exact rt1 () (vN fun h => (e.1 h).2.2.elim (fun h => by simp at h) (fun h => h.1 g))
   ·refine GX.wR ?_; intros
    refine GX.o (cl (rinto_spec _ x) fun _ => ?_)
    refine GX.wR ?_; intros
    exact rt1 () (vI (e.trans ⟨fun h => h.2.2.elim (fun h => by simp at h) (fun h => h.2), fun h => ⟨f0, f1, .inr ⟨g, h⟩⟩⟩))
 by_cases h9 : i.op = 9
 ·have e : Step t u i ↔ rof u i.c ≠ -4 ∧ rof u i.b = -2 ∧ RtM.Has (array t (rof u i.a)) (fun e => RInto e (rof u i.c)) := by unfold Step; rw [if_neg h1, if_neg h2, if_neg h3, if_neg h4, if_neg h5, if_neg h6, if_neg h7, if_neg h8, if_pos h9]; exact ⟨fun h => h.2, fun h => ⟨hN, h⟩⟩
  refine GX.wR ?_; intros
  refine GX.o (cl (array_spec _ t (rof u i.a) ha hl) fun _ => ?_)
  unfold RtM.Has at e
  generalize array t (rof u i.a) = r at *
  obtain ⟨x, any⟩ := r
  dsimp only at *
  by_cases f0 : rof u i.c = -4
  ·refine GX.wR ?_; intros
   exact rt1 () (vN fun h => (e.1 h).1 f0)
  by_cases f1 : rof u i.b = -2
  rotate_left
  ·refine GX.wR ?_; intros
   exact rt1 () (vN fun h => f1 (e.1 h).2.1)
  cases any with
  | true =>
   refine GX.wR ?_; intros
   exact rt1 () (vY (e.2 ⟨f0, f1, .inl rfl⟩))
  | false =>
   by_cases g : x = -4
   ·refine GX.wR ?_; intros
    exact rt1 () (vN fun h => (e.1 h).2.2.elim (fun h => by simp at h) (fun h => h.1 g))
   ·refine GX.wR ?_; intros
    refine GX.o (cl (rinto_spec x _) fun _ => ?_)
    refine GX.wR ?_; intros
    exact rt1 () (vI (e.trans ⟨fun h => h.2.2.elim (fun h => by simp at h) (fun h => h.2), fun h => ⟨f0, f1, .inr ⟨g, h⟩⟩⟩))
 by_cases h10 : i.op = 10
 ·have e : Step t u i ↔ rof u i.a = -2 ∧ RtM.Has (array t (rof u i.b)) (fun _ => True) := by unfold Step; rw [if_neg h1, if_neg h2, if_neg h3, if_neg h4, if_neg h5, if_neg h6, if_neg h7, if_neg h8, if_neg h9, if_pos h10]; exact ⟨fun h => h.2, fun h => ⟨hN, h⟩⟩
  refine GX.wR ?_; intros
  refine GX.o (cl (array_spec _ t (rof u i.b) hb hl) fun _ => ?_)
  unfold RtM.Has at e
  generalize array t (rof u i.b) = r at *
  obtain ⟨x, any⟩ := r
  dsimp only at *
  by_cases f0 : rof u i.a = -2
  rotate_left
  ·refine GX.wR ?_; intros
   exact rt1 () (vN fun h => f0 (e.1 h).1)
  cases any with
  | true =>
   refine GX.wR ?_; intros
   exact rt1 () (vY (e.2 ⟨f0, .inl rfl⟩))
  | false =>
   refine GX.wR ?_; intros
   exact rt1 () (vI (e.trans ⟨fun h => h.2.elim (fun h => by simp at h) (fun h => h.1), fun h => ⟨f0, .inr ⟨h, trivial⟩⟩⟩))
 by_cases h11 : i.op = 11
 ·have e : Step t u i ↔ RClass t i.n false ∧ rof u i.a = i.n := by unfold Step; rw [if_neg h1, if_neg h2, if_neg h3, if_neg h4, if_neg h5, if_neg h6, if_neg h7, if_neg h8, if_neg h9, if_neg h10, if_pos h11]; exact ⟨fun h => h.2, fun h => ⟨hN, h⟩⟩
  refine GX.wR ?_; intros
  refine GX.o (cl (rclass_spec _ t i.n false) fun _ => ?_)
  by_cases g1 : RClass t i.n false
  ·refine GX.wR ?_; intros
   exact rt1 () (vI (e.trans ⟨fun h => h.2, fun h => ⟨g1, h⟩⟩))
  ·refine GX.wR ?_; intros
   exact rt1 () (vN fun h => g1 (e.1 h).1)
 by_cases h12 : i.op = 12
 ·have e : Step t u i ↔ RClass t i.n true ∧ rof u i.a = i.n ∧ rof u i.b = -2 := by unfold Step; rw [if_neg h1, if_neg h2, if_neg h3, if_neg h4, if_neg h5, if_neg h6, if_neg h7, if_neg h8, if_neg h9, if_neg h10, if_neg h11, if_pos h12]; exact ⟨fun h => h.2, fun h => ⟨hN, h⟩⟩
  refine GX.wR ?_; intros
  refine GX.o (cl (rclass_spec _ t i.n true) fun _ => ?_)
  by_cases g1 : RClass t i.n true
  rotate_left
  ·refine GX.wR ?_; intros
   exact rt1 () (vN fun h => g1 (e.1 h).1)
  by_cases g2 : rof u i.a = i.n
  ·refine GX.wR ?_; intros
   exact rt1 () (vI (e.trans ⟨fun h => h.2.2, fun h => ⟨g1, g2, h⟩⟩))
  ·refine GX.wR ?_; intros
   exact rt1 () (vN fun h => g2 (e.1 h).2.1)
 by_cases h13 : i.op = 13
 ·have e : Step t u i ↔ RCall t u i := by unfold Step; rw [if_neg h1, if_neg h2, if_neg h3, if_neg h4, if_neg h5, if_neg h6, if_neg h7, if_neg h8, if_neg h9, if_neg h10, if_neg h11, if_neg h12, if_pos h13]; exact ⟨fun h => h.2, fun h => ⟨hN, h⟩⟩
  refine GX.wR ?_; intros
  refine GX.o (cl (rcall_spec _ _ _ t u i) fun _ => ?_)
  refine GX.wR ?_; intros
  exact rt1 () (vI e)
 by_cases h16 : i.op = 16
 ·have e : Step t u i ↔ RtM.Place u i.n := by unfold Step; rw [if_neg h1, if_neg h2, if_neg h3, if_neg h4, if_neg h5, if_neg h6, if_neg h7, if_neg h8, if_neg h9, if_neg h10, if_neg h11, if_neg h12, if_neg h13, if_pos h16]; exact ⟨fun h => h.2, fun h => ⟨hN, h⟩⟩
  by_cases g1 : 0 ≤ i.n
  ·refine GX.wR ?_; intros
   exact rt1 () (vI (e.trans ⟨fun h => h.2, fun h => ⟨g1, h⟩⟩))
  ·refine GX.wR ?_; intros
   exact rt1 () (vN fun h => g1 (e.1 h).1)
 by_cases h17 : i.op = 17
 ·have e : Step t u i ↔ rof u i.a = -2 ∧ RtM.Place u i.n ∧ RtM.Place u i.c := by unfold Step; rw [if_neg h1, if_neg h2, if_neg h3, if_neg h4, if_neg h5, if_neg h6, if_neg h7, if_neg h8, if_neg h9, if_neg h10, if_neg h11, if_neg h12, if_neg h13, if_neg h16, if_pos h17]; exact ⟨fun h => h.2, fun h => ⟨hN, h⟩⟩
  by_cases g1 : rof u i.a = -2
  rotate_left
  ·refine GX.wR ?_; intros
   exact rt1 () (vN fun h => g1 (e.1 h).1)
  by_cases g2 : 0 ≤ i.n
  rotate_left
  ·refine GX.wR ?_; intros
   exact rt1 () (vN fun h => g2 (e.1 h).2.1.1)
  by_cases g3 : i.n < (u.ins.length : Int)
  rotate_left
  ·refine GX.wR ?_; intros
   exact rt1 () (vN fun h => g3 (e.1 h).2.1.2)
  by_cases g4 : 0 ≤ i.c
  ·refine GX.wR ?_; intros
   exact rt1 () (vI (e.trans ⟨fun h => h.2.2.2, fun h => ⟨g1, ⟨g2, g3⟩, g4, h⟩⟩))
  ·refine GX.wR ?_; intros
   exact rt1 () (vN fun h => g4 (e.1 h).2.2.1)
 by_cases h18 : i.op = 18
 ·have e : Step t u i ↔ (if u.result = -3 then i.a = -1 else rof u i.a ≠ -4 ∧ RInto u.result (rof u i.a)) := by unfold Step; rw [if_neg h1, if_neg h2, if_neg h3, if_neg h4, if_neg h5, if_neg h6, if_neg h7, if_neg h8, if_neg h9, if_neg h10, if_neg h11, if_neg h12, if_neg h13, if_neg h16, if_neg h17, if_pos h18]; exact ⟨fun h => h.2, fun h => ⟨hN, h⟩⟩
  by_cases g1 : u.result = -3
  ·rw [if_pos g1] at e
   refine GX.wR ?_; intros
   exact rt1 () (vI e)
  ·rw [if_neg g1] at e
   by_cases g2 : rof u i.a = -4
   ·refine GX.wR ?_; intros
    exact rt1 () (vN fun h => (e.1 h).1 g2)
   ·refine GX.wR ?_; intros
    refine GX.o (cl (rinto_spec u.result _) fun _ => ?_)
    refine GX.wR ?_; intros
    exact rt1 () (vI (e.trans ⟨fun h => h.2, fun h => ⟨g2, h⟩⟩))
 by_cases h19 : i.op = 19
 ·have e : Step t u i ↔ rof u i.a ≠ -4 ∧ InG t i.n (fun g => RInto (rof u i.a) g) := by unfold Step; rw [if_neg h1, if_neg h2, if_neg h3, if_neg h4, if_neg h5, if_neg h6, if_neg h7, if_neg h8, if_neg h9, if_neg h10, if_neg h11, if_neg h12, if_neg h13, if_neg h16, if_neg h17, if_neg h18, if_pos h19]; exact ⟨fun h => h.2, fun h => ⟨hN, h⟩⟩
  by_cases g1 : rof u i.a = -4
  ·refine GX.wR ?_; intros
   exact rt1 () (vN fun h => (e.1 h).1 g1)
  by_cases g2 : i.n < 0
  ·have e2 : ¬ InG t i.n (fun g => RInto (rof u i.a) g) := by unfold InG; rw [gt_out (.inl g2)]; exact id
   refine GX.wR ?_; intros
   exact rt1 () (vN fun h => e2 (e.1 h).2)
  by_cases g3 : (t.globals.length : Int) ≤ i.n
  ·have e2 : ¬ InG t i.n (fun g => RInto (rof u i.a) g) := by unfold InG; rw [gt_out (.inr g3)]; exact id
   refine GX.wR ?_; intros
   exact rt1 () (vN fun h => e2 (e.1 h).2)
  obtain ⟨g, hg, k, hk, hkl, hg2⟩ := gt_in (l := t.globals) (n := i.n) ⟨by omega, by omega⟩
  have e2 : InG t i.n (fun g => RInto (rof u i.a) g) ↔ (fun g => RInto (rof u i.a) g) g := by unfold InG; rw [hg]
  refine GX.wR ?_; intros
  refine GX.o (cl (rinto_spec _ g) fun _ => ?_)
  refine GX.wR ?_; intros
  exact rt1 () (vI (e.trans ⟨fun h => e2.1 h.2, fun h => ⟨g1, e2.2 h⟩⟩))
 by_cases h20 : i.op = 20
 ·have e : Step t u i ↔ rof u i.a ≠ -4 ∧ InG t i.n (fun g => RInto g (rof u i.a)) := by unfold Step; rw [if_neg h1, if_neg h2, if_neg h3, if_neg h4, if_neg h5, if_neg h6, if_neg h7, if_neg h8, if_neg h9, if_neg h10, if_neg h11, if_neg h12, if_neg h13, if_neg h16, if_neg h17, if_neg h18, if_neg h19, if_pos h20]; exact ⟨fun h => h.2, fun h => ⟨hN, h⟩⟩
  by_cases g1 : rof u i.a = -4
  ·refine GX.wR ?_; intros
   exact rt1 () (vN fun h => (e.1 h).1 g1)
  by_cases g2 : i.n < 0
  ·have e2 : ¬ InG t i.n (fun g => RInto g (rof u i.a)) := by unfold InG; rw [gt_out (.inl g2)]; exact id
   refine GX.wR ?_; intros
   exact rt1 () (vN fun h => e2 (e.1 h).2)
  by_cases g3 : (t.globals.length : Int) ≤ i.n
  ·have e2 : ¬ InG t i.n (fun g => RInto g (rof u i.a)) := by unfold InG; rw [gt_out (.inr g3)]; exact id
   refine GX.wR ?_; intros
   exact rt1 () (vN fun h => e2 (e.1 h).2)
  obtain ⟨g, hg, k, hk, hkl, hg2⟩ := gt_in (l := t.globals) (n := i.n) ⟨by omega, by omega⟩
  have e2 : InG t i.n (fun g => RInto g (rof u i.a)) ↔ (fun g => RInto g (rof u i.a)) g := by unfold InG; rw [hg]
  refine GX.wR ?_; intros
  refine GX.o (cl (rinto_spec g _) fun _ => ?_)
  refine GX.wR ?_; intros
  exact rt1 () (vI (e.trans ⟨fun h => e2.1 h.2, fun h => ⟨g1, e2.2 h⟩⟩))
 by_cases h21 : i.op = 21 ∨ i.op = 22
 ·have e : Step t u i ↔ i.args ≠ [] ∧ Rise i.args ∧ ∀ n ∈ i.args, n ∈ u.owns := by unfold Step; rw [if_neg h1, if_neg h2, if_neg h3, if_neg h4, if_neg h5, if_neg h6, if_neg h7, if_neg h8, if_neg h9, if_neg h10, if_neg h11, if_neg h12, if_neg h13, if_neg h16, if_neg h17, if_neg h18, if_neg h19, if_neg h20, if_pos h21]; exact ⟨fun h => h.2, fun h => ⟨hN, h⟩⟩
  have ea : 0 < (i.args.length : Int) ↔ i.args ≠ [] := by rw [ne_eq, ← List.length_eq_zero_iff]; omega
  by_cases g1 : 0 < (i.args.length : Int)
  rotate_left
  ·rcases h21 with h21 | h21
   ·refine GX.wR ?_; intros
    exact rt1 () (vN fun h => g1 (ea.2 (e.1 h).1))
   ·refine GX.wR ?_; intros
    exact rt1 () (vN fun h => g1 (ea.2 (e.1 h).1))
  rcases h21 with h21 | h21
  ·refine GX.wR ?_; intros
   refine GX.nmS 406 ?_; rintro aA cA rfl rfl
   refine GX.o (cl (rrising_spec aA cA i.args) fun _ => ?_)
   by_cases g2 : Rise i.args
   ·refine GX.wR ?_; intros
    refine GX.nmS 411 ?_; rintro aB cB rfl rfl
    refine GX.nmS 413 ?_; rintro aO cO rfl rfl
    refine GX.o (cl (all2_spec aB aO cB cO i.args u.owns) fun _ => ?_)
    refine GX.wR ?_; intros
    exact rt1 () (vI (e.trans ⟨fun h => h.2.2, fun h => ⟨ea.1 g1, g2, h⟩⟩))
   ·refine GX.wR ?_; intros
    exact rt1 () (vN fun h => g2 (e.1 h).2.1)
  ·refine GX.wR ?_; intros
   refine GX.nmS 406 ?_; rintro aA cA rfl rfl
   refine GX.o (cl (rrising_spec aA cA i.args) fun _ => ?_)
   by_cases g2 : Rise i.args
   ·refine GX.wR ?_; intros
    refine GX.nmS 411 ?_; rintro aB cB rfl rfl
    refine GX.nmS 413 ?_; rintro aO cO rfl rfl
    refine GX.o (cl (all2_spec aB aO cB cO i.args u.owns) fun _ => ?_)
    refine GX.wR ?_; intros
    exact rt1 () (vI (e.trans ⟨fun h => h.2.2, fun h => ⟨ea.1 g1, g2, h⟩⟩))
   ·refine GX.wR ?_; intros
    exact rt1 () (vN fun h => g2 (e.1 h).2.1)
 have n21 : i.op ≠ 21 := fun h => h21 (.inl h)
 have n22 : i.op ≠ 22 := fun h => h21 (.inr h)
 have e : ¬ Step t u i := by unfold Step; rw [if_neg h1, if_neg h2, if_neg h3, if_neg h4, if_neg h5, if_neg h6, if_neg h7, if_neg h8, if_neg h9, if_neg h10, if_neg h11, if_neg h12, if_neg h13, if_neg h16, if_neg h17, if_neg h18, if_neg h19, if_neg h20, if_neg h21]; exact fun h => h.2
 refine GX.wR ?_; intros
 exact rt1 () (vN e)
theorem routU_spec (cs : List Value) (t : RTg) (hs : Small t) (k : Nat) (u : Unt) (hu : t.units[k]? = some u) : Does Tryz.prog 85 [.agg cs.toArray, .int .i64 (k : Int)] [Ag tyRTg cs t] []
  (fun s : Option Addr × Nat => .slice s.1 (outOf t u).length s.2) (fun s => [Sl Ty.int s.1 s.2 (outOf t u)]) (fun _ => []) := by
 have := rout_spec cs t hs k
 rw [out_some hu] at this
 exact this
set_option maxHeartbeats 4000000 in
theorem runit_spec (cs : List Value) (t : RTg) (hs : Small t) (k : Nat) (u : Unt) (hu : t.units[k]? = some u) : Does Tryz.prog 36 [.agg cs.toArray, .int .i64 (k : Int)] [Ag tyRTg cs t] [] (fun _ : Unit => .bool (decide (UnitHd t u))) (fun _ => []) (fun _ => []) := by
 refine enter Tryz.func36 rfl Tryz.ntmps36 rfl fun b => ?_
 have hkl := (List.getElem?_eq_some_iff.1 hu).1
 have hur := hs.unit u (List.mem_of_getElem? hu)
 refine GX.wRN ?_; intros
 apply GX.region
 refine GX.wRN ?_; intros
 apply GX.region
 refine GX.wRN ?_; intros
 refine GX.nmP 2 ?_; rintro b2 rfl
 refine GX.nmP 5 ?_; rintro b5 rfl
 refine frzB b5 ?_
 refine GX.cut (σ := Bool) (fun p => [(1, .int .i64 (k : Int)), (2, .pointer (some ⟨b2, 0, none⟩)), (5, .pointer (some ⟨b5, 0, none⟩)), (59, .bool p)]) (fun _ => []) (fun _ => []) (fun p => p = decide (¬ HdA t u)) ?_ (fun p hp => ?_)
 ·by_cases h1 : u.params < 0
  ·refine GX.wR ?_; intros
   exact meet true ⟨rfl, rfl, rfl, rfl, trivial⟩ (decide_eq_true (show ¬ HdA t u from fun h => by have := h.1.1; omega)).symm
  by_cases h2 : 6 < u.params
  ·refine GX.wR ?_; intros
   exact meet true ⟨rfl, rfl, rfl, rfl, trivial⟩ (decide_eq_true (show ¬ HdA t u from fun h => by have := h.1.2.1; omega)).symm
  by_cases h3 : (u.vars.length : Int) < u.params
  ·refine GX.wR ?_; intros
   exact meet true ⟨rfl, rfl, rfl, rfl, trivial⟩ (decide_eq_true (show ¬ HdA t u from fun h => by have := h.1.2.2.1; omega)).symm
  by_cases h4 : 4000 < (u.vars.length : Int)
  ·refine GX.wR ?_; intros
   exact meet true ⟨rfl, rfl, rfl, rfl, trivial⟩ (decide_eq_true (show ¬ HdA t u from fun h => by have := h.1.2.2.2; omega)).symm
  refine GX.wR ?_; intros
  refine GX.nmS 38 ?_; rintro aV cV rfl rfl
  refine GX.o (cl (rentries_spec _ t aV cV u.vars) fun _ => ?_)
  by_cases h5 : Entries t u.vars
  ·have h5' := Classical.not_not.2 h5
   have ei : (u.ins.length : Int) < 1 ↔ u.ins = [] := by rw [← List.length_eq_zero_iff]; omega
   by_cases h6 : u.result = -3
   ·have h6' := Classical.not_not.2 h6
    refine GX.wR ?_; intros
    refine meet _ ⟨rfl, rfl, rfl, rfl, trivial⟩ (decide_eq_decide.2 (ei.trans ⟨fun h7 h => h.2.2.2 h7, fun h => Classical.byContradiction fun h7 => h ⟨by omega, h5, .inl h6, h7⟩⟩))
   ·refine GX.wR ?_; intros
    refine GX.o (cl (entry_spec _ t u.result) fun _ => ?_)
    by_cases h7 : IsEntry t u.result
    ·have h7' := Classical.not_not.2 h7
     refine GX.wR ?_; intros
     refine meet _ ⟨rfl, rfl, rfl, rfl, trivial⟩ (decide_eq_decide.2 (ei.trans ⟨fun h7 h => h.2.2.2 h7, fun h => Classical.byContradiction fun h8 => h ⟨by omega, h5, .inr h7, h8⟩⟩))
    ·refine GX.wR ?_; intros
     exact meet true ⟨rfl, rfl, rfl, rfl, trivial⟩ (decide_eq_true (show ¬ HdA t u from fun h => h.2.2.1.elim h6 h7)).symm
  ·refine GX.wR ?_; intros
   exact meet true ⟨rfl, rfl, rfl, rfl, trivial⟩ (decide_eq_true (show ¬ HdA t u from fun h => h5 h.2.1)).symm
 refine GX.csb (fun hpt => ?_) (fun hpf => ?_)
 ·have hH : ¬ HdA t u := of_decide_eq_true (hp.symm.trans hpt)
  refine GX.wR ?_; intros
  exact rt1 () (vN fun h => hH ⟨h.1, h.2.1, h.2.2.1, h.2.2.2.1⟩)
 have hH : HdA t u := Classical.not_not.1 (of_decide_eq_false (hp.symm.trans hpf))
 refine GX.wR ?_; intros
 by_cases g1 : Rise u.takes
 rotate_left
 ·refine GX.drawn0  (fun j => !(List.contains [2, 7, 16] j)) [(0, true), (1, true), (2, false), (3, true), (4, true), (5, true), (6, true), (7, false), (8, true), (9, true), (10, true), (11, true), (12, true), (13, true), (14, true), (15, false), (16, false), (17, true), (18, true)] rfl (by kernel_rfl) (by kernel_rfl) GX.sA ?_; intro wd F hW hR
  refine GX.wT ?_; intros
  refine GX.nmS 61 ?_; rintro aT cT rfl rfl
  refine GX.gow ?_
  refine (cl (rrising_spec aT cT u.takes) fun _ => ?_)
  refine GX.wT ?_; intros
  refine GX.wR ?_; intros
  exact rt1 () (vN fun h => g1 h.2.2.2.2.1.1)
 have g1' := Classical.not_not.2 g1
 by_cases g2 : Rise u.owns
 rotate_left
 ·refine GX.drawn0  (fun j => !(List.contains [2, 7, 16] j)) [(0, true), (1, true), (2, false), (3, true), (4, true), (5, true), (6, true), (7, false), (8, true), (9, true), (10, true), (11, true), (12, true), (13, true), (14, true), (15, false), (16, false), (17, true), (18, true)] rfl (by kernel_rfl) (by kernel_rfl) GX.sA ?_; intro wd F hW hR
  refine GX.wT ?_; intros
  refine GX.nmS 61 ?_; rintro aT cT rfl rfl
  refine GX.gow ?_
  refine (cl (rrising_spec aT cT u.takes) fun _ => ?_)
  refine GX.wT ?_; intros
  refine GX.nmS 66 ?_; rintro aO cO rfl rfl
  refine GX.gow ?_
  refine (cl (rrising_spec aO cO u.owns) fun _ => ?_)
  refine GX.wT ?_; intros
  refine GX.wR ?_; intros
  exact rt1 () (vN fun h => g2 h.2.2.2.2.2.1.1)
 have g2' := Classical.not_not.2 g2
 refine GX.drawn0  (fun j => !(List.contains [2, 7, 16] j)) [(0, true), (1, true), (2, false), (3, true), (4, true), (5, true), (6, true), (7, false), (8, true), (9, true), (10, true), (11, true), (12, true), (13, true), (14, true), (15, false), (16, false), (17, true), (18, true)] rfl (by kernel_rfl) (by kernel_rfl) GX.sA ?_; intro wd F hW hR
 refine GX.wT ?_; intros
 refine GX.nmS 61 ?_; rintro aT cT rfl rfl
 refine GX.gow ?_
 refine (cl (rrising_spec aT cT u.takes) fun _ => ?_)
 refine GX.wT ?_; intros
 refine GX.nmS 66 ?_; rintro aO cO rfl rfl
 refine GX.gow ?_
 refine (cl (rrising_spec aO cO u.owns) fun _ => ?_)
 refine GX.wT ?_; intros
 refine GX.nmS 72 ?_; rintro aT2 cT2 rfl rfl
 refine GX.gow ?_
 refine (cl (routU_spec _ t hs k u hu) fun s => ?_)
 obtain ⟨aU, cU⟩ := s
 dsimp only
 refine GX.wT ?_; intros
 refine GX.gow ?_
 refine (cl (all2_spec aT2 aU cT2 cU u.takes (outOf t u)) fun _ => ?_)
 refine GX.wT ?_; intros
 by_cases g3 : ∀ c ∈ u.takes, c ∈ outOf t u
 rotate_left
 ·refine GX.wR ?_; intros
  exact rt1 () (vN fun h => g3 h.2.2.2.2.1.2)
 have g3' := Classical.not_not.2 g3
 refine GX.wR ?_; intros
 refine GX.loop (σ := Nat) (fun i => [(1, .int .i64 (k : Int)), (2, .pointer (some ⟨b2, 0, none⟩)), (5, .pointer (some ⟨b5, 0, none⟩)), (6, .int .i64 (i : Int))]) (fun _ => []) (fun _ => [])
  (fun i => i ≤ u.owns.length ∧ ∀ c ∈ u.owns.take i, IsClass t c ∧ c ∉ outOf t u ∧ c ∉ glob t) (fun i => u.owns.length - i) 0 ⟨rfl, rfl, rfl, rfl, trivial⟩ ⟨by omega, by simp⟩ (fun i hi => ?_)
 obtain ⟨hi, hA⟩ := hi
 by_cases hlt : i < u.owns.length
 ·obtain ⟨x, hx⟩ := get_lt hlt
  have hm := List.mem_of_getElem? hx
  have no : ¬ (IsClass t x ∧ x ∉ outOf t u ∧ x ∉ glob t) → ¬ UnitHd t u := fun h h2 => h (h2.2.2.2.2.2.1.2 x hm)
  by_cases q1 : x < 0
  ·refine GX.wR ?_; intros
   refine GX.drawn0  (fun j => !(List.contains [26, 36] j)) [(0, true), (1, true), (2, true), (3, true), (4, true), (5, true), (6, true), (7, true), (8, true), (9, true), (10, true), (11, true), (12, true), (13, true), (14, true), (15, true), (16, true), (17, true), (18, true), (19, true), (21, true), (22, true), (23, true), (24, true), (25, true), (20, false), (26, false), (27, true), (28, true), (29, true), (31, true), (32, true), (33, true), (34, true), (35, true), (30, false), (36, false), (37, true)] rfl (by kernel_rfl) (by kernel_rfl) GX.sA ?_; intro wd F hW hR
   refine GX.wT ?_; intros
   refine GX.wR ?_; intros
   exact rt1 () (vN (no fun h => by have := h.1.1; omega))
  by_cases q2 : (t.classes.length : Int) ≤ x
  ·refine GX.wR ?_; intros
   refine GX.drawn0  (fun j => !(List.contains [26, 36] j)) [(0, true), (1, true), (2, true), (3, true), (4, true), (5, true), (6, true), (7, true), (8, true), (9, true), (10, true), (11, true), (12, true), (13, true), (14, true), (15, true), (16, true), (17, true), (18, true), (19, true), (21, true), (22, true), (23, true), (24, true), (25, true), (20, false), (26, false), (27, true), (28, true), (29, true), (31, true), (32, true), (33, true), (34, true), (35, true), (30, false), (36, false), (37, true)] rfl (by kernel_rfl) (by kernel_rfl) GX.sA ?_; intro wd F hW hR
   refine GX.wT ?_; intros
   refine GX.wR ?_; intros
   exact rt1 () (vN (no fun h => by have := h.1.2; omega))
  by_cases q3 : x ∈ outOf t u
  ·refine GX.wR ?_; intros
   refine GX.drawn0  (fun j => !(List.contains [26, 36] j)) [(0, true), (1, true), (2, true), (3, true), (4, true), (5, true), (6, true), (7, true), (8, true), (9, true), (10, true), (11, true), (12, true), (13, true), (14, true), (15, true), (16, true), (17, true), (18, true), (19, true), (21, true), (22, true), (23, true), (24, true), (25, true), (20, false), (26, false), (27, true), (28, true), (29, true), (31, true), (32, true), (33, true), (34, true), (35, true), (30, false), (36, false), (37, true)] rfl (by kernel_rfl) (by kernel_rfl) GX.sA ?_; intro wd F hW hR
   refine GX.wT ?_; intros
   refine GX.gow ?_
   refine (cl (routU_spec _ t hs k u hu) fun s => ?_)
   obtain ⟨aP, cP⟩ := s
   dsimp only
   refine GX.wT ?_; intros
   refine GX.gow ?_
   refine (cl (in_spec aP cP (outOf t u) x) fun _ => ?_)
   refine GX.wT ?_; intros
   refine GX.wR ?_; intros
   exact rt1 () (vN (no fun h => h.2.1 q3))
  refine GX.wR ?_; intros
  refine GX.drawn0  (fun j => !(List.contains [26, 36] j)) [(0, true), (1, true), (2, true), (3, true), (4, true), (5, true), (6, true), (7, true), (8, true), (9, true), (10, true), (11, true), (12, true), (13, true), (14, true), (15, true), (16, true), (17, true), (18, true), (19, true), (21, true), (22, true), (23, true), (24, true), (25, true), (20, false), (26, false), (27, true), (28, true), (29, true), (31, true), (32, true), (33, true), (34, true), (35, true), (30, false), (36, false), (37, true)] rfl (by kernel_rfl) (by kernel_rfl) GX.sA ?_; intro wd F hW hR
  refine GX.wT ?_; intros
  refine GX.gow ?_
  refine (cl (routU_spec _ t hs k u hu) fun s => ?_)
  obtain ⟨aP, cP⟩ := s
  dsimp only
  refine GX.wT ?_; intros
  refine GX.gow ?_
  refine (cl (in_spec aP cP (outOf t u) x) fun _ => ?_)
  refine GX.wT ?_; intros
  refine GX.gow ?_
  refine (cl (rglobal_spec _ t hs) fun s => ?_)
  obtain ⟨aG, cG⟩ := s
  dsimp only
  refine GX.wT ?_; intros
  refine GX.gow ?_
  refine (cl (in_spec aG cG (glob t) x) fun _ => ?_)
  refine GX.wT ?_; intros
  by_cases q4 : x ∈ glob t
  ·refine GX.wR ?_; intros
   exact rt1 () (vN (no fun h => h.2.2 q4))
  ·refine GX.wR ?_; intros
   refine again (i + 1) ⟨rfl, rfl, rfl, rfl, trivial⟩ ⟨by omega, fun y hy => ?_⟩ (by omega)
   rw [List.take_add_one, hx, List.mem_append] at hy
   rcases hy with hy | hy
   ·exact hA y hy
   ·simp at hy; subst hy; exact ⟨⟨by omega, by omega⟩, q3, q4⟩
 ·rw [List.take_of_length_le (by omega)] at hA
  have hne : u.ins.length ≠ 0 := fun h => hH.2.2.2 (List.length_eq_zero_iff.1 h)
  obtain ⟨m, hm⟩ : ∃ m, u.ins.length = m + 1 := ⟨u.ins.length - 1, by omega⟩
  obtain ⟨x, hx⟩ := get_lt (show m < u.ins.length by omega)
  have hlo : lastOp u = x.op := by unfold lastOp; rw [hm, Nat.add_sub_cancel, hx]
  have all : (x.op = 16 ∨ x.op = 17 ∨ x.op = 18) ↔ UnitHd t u := ⟨fun h => ⟨hH.1, hH.2.1, hH.2.2.1, hH.2.2.2, ⟨g1, g3⟩, ⟨g2, hA⟩, by rw [hlo]; exact h⟩, fun h => by rw [← hlo]; exact h.2.2.2.2.2.2⟩
  by_cases g4 : x.op = 16
  ·refine GX.wR ?_; intros
   exact rt1 () (vY (all.1 (.inl g4)))
  ·by_cases g5 : x.op = 17
   ·refine GX.wR ?_; intros
    exact rt1 () (vY (all.1 (.inr (.inl g5))))
   ·refine GX.wR ?_; intros
    exact rt1 () (vI (all.symm.trans ⟨fun h => h.elim (fun h => absurd h g4) fun h => h.elim (fun h => absurd h g5) id, fun h => .inr (.inr h)⟩))
theorem hds_of {t : RTg} {u : Unt} (hu : u ∈ t.units) (h1 : ∀ L ∈ t.classes, LayoutOk t L) (h2 : Entries t t.globals) (h3 : ∀ u ∈ t.units, UnitHd t u) : Hds t u :=
 ⟨h1, (h3 u hu).2.1, (h3 u hu).2.2.1, h2, fun g hg => ⟨(h3 g hg).2.1, (h3 g hg).2.2.1, (h3 g hg).1.1⟩⟩
theorem right_ref {t : RTg} (h0 : t.classes.length ≤ 60 ∧ t.globals.length ≤ 8 ∧ t.units.length ≠ 0 ∧ t.units.length ≤ 16) (h1 : ∀ L ∈ t.classes, LayoutOk t L) (h2 : Entries t t.globals) (h3 : insOf t.units ≤ 16000) (h4 : ∀ u ∈ t.units, UnitHd t u) (h5 : ∀ u ∈ t.units, ∀ i ∈ u.ins, Step t u i) : RightP t ↔ MainOk t :=
 ⟨fun h => h.2.1, fun h => ⟨h0, h, h1, h2, h3, fun u hu => ⟨h4 u hu, fun i hi => (fits_step (hds_of hu h1 h2 h4) i).2 (h5 u hu i hi)⟩⟩⟩
theorem all_snoc {α : Type} {P : α → Prop} {l : List α} {i : Nat} {x : α} (hx : l[i]? = some x) (h : ∀ y ∈ l.take i, P y) (hp : P x) : ∀ y ∈ l.take (i + 1), P y := by
 intro y hy
 rw [List.take_add_one, hx, List.mem_append] at hy
 rcases hy with hy | hy
 ·exact h y hy
 ·simp at hy; subst hy; exact hp
set_option maxHeartbeats 4000000 in
theorem rright_spec (cs : List Value) (t : RTg) (hs : Small t) : Does Tryz.prog 13 [.agg cs.toArray] [Ag tyRTg cs t] [] (fun _ : Unit => .bool (decide (RightP t))) (fun _ => []) (fun _ => []) := by
 refine enter Tryz.func13 rfl Tryz.ntmps13 rfl fun b => ?_
 by_cases h1 : 60 < (t.classes.length : Int)
 ·refine GX.wR ?_; intros
  exact rt1 () (vN fun h => by have := h.1.1; omega)
 by_cases h2 : 8 < (t.globals.length : Int)
 ·refine GX.wR ?_; intros
  exact rt1 () (vN fun h => by have := h.1.2.1; omega)
 refine GX.wR ?_; intros
 refine GX.nmP 1 ?_; rintro b1 rfl
 refine GX.nmS 22 ?_; rintro aG cG rfl rfl
 refine GX.o (cl (rentries_spec _ t aG cG t.globals) fun _ => ?_)
 by_cases h3 : Entries t t.globals
 rotate_left
 ·refine GX.wR ?_; intros
  exact rt1 () (vN fun h => h3 h.2.2.2.1)
 have h3' := Classical.not_not.2 h3
 by_cases h4 : (t.units.length : Int) < 1
 ·refine GX.wR ?_; intros
  exact rt1 () (vN fun h => by have := h.1.2.2.1; omega)
 by_cases h5 : 16 < (t.units.length : Int)
 ·refine GX.wR ?_; intros
  exact rt1 () (vN fun h => by have := h.1.2.2.2; omega)
 have h0 : t.classes.length ≤ 60 ∧ t.globals.length ≤ 8 ∧ t.units.length ≠ 0 ∧ t.units.length ≤ 16 := by omega
 refine GX.wR ?_; intros
 refine GX.loop (σ := Nat) (fun i => [(1, .pointer (some ⟨b1, 0, none⟩)), (3, .int .i64 (i : Int))]) (fun _ => []) (fun _ => [])
  (fun i => i ≤ t.classes.length ∧ ∀ L ∈ t.classes.take i, LayoutOk t L) (fun i => t.classes.length - i) 0 ⟨rfl, rfl, trivial⟩ ⟨by omega, by simp⟩ (fun i hi => ?_)
 obtain ⟨hi, hA⟩ := hi
 by_cases hlt : i < t.classes.length
 ·obtain ⟨L, hL⟩ := get_lt hlt
  have hm := List.mem_of_getElem? hL
  by_cases g1 : 8 < (L.refs.length : Int)
  ·refine GX.wR ?_; intros
   exact rt1 () (vN fun h => by have := (h.2.2.1 L hm).1; omega)
  by_cases g2 : L.arr = true
  ·by_cases g3 : (L.refs.length : Int) = 1
   ·have g3' := Classical.not_not.2 g3
    refine GX.wR ?_; intros
    refine GX.nmS 67 ?_; rintro aR cR rfl rfl
    refine GX.o (cl (rentries_spec _ t aR cR L.refs) fun _ => ?_)
    by_cases g4 : Entries t L.refs
    ·have g4' := Classical.not_not.2 g4
     refine GX.wR ?_; intros
     exact again (i + 1) ⟨rfl, rfl, trivial⟩ ⟨by omega, all_snoc hL hA ⟨by omega, fun _ => by omega, g4⟩⟩ (by omega)
    ·refine GX.wR ?_; intros
     exact rt1 () (vN fun h => g4 (h.2.2.1 L hm).2.2)
   ·refine GX.wR ?_; intros
    exact rt1 () (vN fun h => g3 (by have := (h.2.2.1 L hm).2.1 g2; omega))
  ·have g2' : L.arr = false := by simpa using g2
   refine GX.wR ?_; intros
   refine GX.nmS 67 ?_; rintro aR cR rfl rfl
   refine GX.o (cl (rentries_spec _ t aR cR L.refs) fun _ => ?_)
   by_cases g4 : Entries t L.refs
   ·have g4' := Classical.not_not.2 g4
    refine GX.wR ?_; intros
    exact again (i + 1) ⟨rfl, rfl, trivial⟩ ⟨by omega, all_snoc hL hA ⟨by omega, fun h => absurd h g2, g4⟩⟩ (by omega)
   ·refine GX.wR ?_; intros
    exact rt1 () (vN fun h => g4 (h.2.2.1 L hm).2.2)
 rw [List.take_of_length_le (by omega)] at hA
 clear hi
 refine GX.wR ?_; intros
 refine GX.loop (σ := Nat) (fun i => [(1, .pointer (some ⟨b1, 0, none⟩)), (5, .int .i64 ((insOf (t.units.take i) : Nat) : Int)), (6, .int .i64 (i : Int))]) (fun _ => []) (fun _ => [])
  (fun i => i ≤ t.units.length ∧ insOf (t.units.take i) ≤ 16000 ∧ ∀ u ∈ t.units.take i, UnitHd t u) (fun i => t.units.length - i) 0 ⟨rfl, rfl, rfl, trivial⟩ ⟨by omega, by simp [insOf], by simp⟩ (fun k hk => ?_)
 obtain ⟨hk, hn, hU⟩ := hk
 by_cases hkl : k < t.units.length
 ·obtain ⟨u, hu⟩ := get_lt hkl
  have hm := List.mem_of_getElem? hu
  have hul := (hs.unit u hm).2
  have ht : t.units.take (k + 1) = t.units.take k ++ [u] := by rw [List.take_add_one, hu]; rfl
  have hsn : ((insOf (t.units.take k) : Nat) : Int) + (u.ins.length : Int) = ((insOf (t.units.take (k + 1)) : Nat) : Int) := by rw [ht, insOf_snoc]; omega
  have hle := insOf_take t.units (k + 1)
  refine GX.wR ?_; intros
  rw [hsn]
  by_cases g1 : 16000 < ((insOf (t.units.take (k + 1)) : Nat) : Int)
  ·refine GX.wR ?_; intros
   exact rt1 () (vN fun h => by have := h.2.2.2.2.1; omega)
  ·refine GX.wR ?_; intros
   refine GX.o (cl (runit_spec _ t hs k u hu) fun _ => ?_)
   by_cases g2 : UnitHd t u
   ·have g2' := Classical.not_not.2 g2
    refine GX.wR ?_; intros
    exact again (k + 1) ⟨rfl, rfl, rfl, trivial⟩ ⟨by omega, by omega, all_snoc hu hU g2⟩ (by omega)
   ·refine GX.wR ?_; intros
    exact rt1 () (vN fun h => g2 (h.2.2.2.2.2 u hm).1)
 have hkl : k = t.units.length := by omega
 subst hkl
 rw [List.take_length] at hn hU
 clear hk
 refine GX.wR ?_; intros
 refine GX.loop (σ := Nat) (fun i => [(1, .pointer (some ⟨b1, 0, none⟩)), (7, .int .i64 (i : Int))]) (fun _ => []) (fun _ => [])
  (fun i => i ≤ t.units.length ∧ ∀ u ∈ t.units.take i, ∀ x ∈ u.ins, Step t u x) (fun i => t.units.length - i) 0 ⟨rfl, rfl, trivial⟩ ⟨by omega, by simp⟩ (fun k hk => ?_)
 obtain ⟨hk, hS⟩ := hk
 by_cases hkl : k < t.units.length
 ·obtain ⟨u, hu⟩ := get_lt hkl
  have hm := List.mem_of_getElem? hu
  have hH := hds_of hm hA h3 hU
  refine GX.wR ?_; intros
  refine GX.loop (σ := Nat) (fun j => [(1, .pointer (some ⟨b1, 0, none⟩)), (7, .int .i64 (k : Int)), (8, .int .i64 (j : Int))]) (fun _ => []) (fun _ => [])
   (fun j => j ≤ u.ins.length ∧ ∀ x ∈ u.ins.take j, Step t u x) (fun j => u.ins.length - j) 0 ⟨rfl, rfl, rfl, trivial⟩ ⟨by omega, by simp⟩ (fun j hj => ?_)
  obtain ⟨hj, hT⟩ := hj
  have hul := (hs.unit u hm).2
  by_cases hjl : j < u.ins.length
  ·obtain ⟨x, hx⟩ := get_lt hjl
   refine GX.wR ?_; intros
   refine GX.drawn0  (fun j => !(List.contains [15] j)) [(0, true), (1, true), (2, true), (3, true), (4, true), (5, true), (6, true), (7, true), (8, true), (9, true), (10, true), (11, true), (12, true), (13, true), (14, true), (15, false), (16, true)] rfl (by kernel_rfl) (by kernel_rfl) GX.sA ?_; intro wd F hW hR
   refine GX.wT ?_; intros
   refine GX.gow ?_
   refine (cl (step_spec _ _ _ t u x hH) fun _ => ?_)
   refine GX.wT ?_; intros
   by_cases g1 : Step t u x
   ·have g1' := Classical.not_not.2 g1
    refine GX.wR ?_; intros
    exact again (j + 1) ⟨rfl, rfl, rfl, trivial⟩ ⟨by omega, all_snoc hx hT g1⟩ (by omega)
   ·refine GX.wR ?_; intros
    exact rt1 () (vN fun h => g1 ((fits_step hH x).1 ((h.2.2.2.2.2 u hm).2 x (List.mem_of_getElem? hx))))
  ·rw [List.take_of_length_le (by omega)] at hT
   refine GX.wR ?_; intros
   exact again (k + 1) ⟨rfl, rfl, trivial⟩ ⟨by omega, all_snoc hu hS hT⟩ (by omega)
 rw [List.take_of_length_le (by omega)] at hS
 clear hk
 have e := right_ref h0 hA h3 hn hU hS
 by_cases g1 : 0 ≤ t.main
 rotate_left
 ·have e2 : ¬ MainOk t := by unfold MainOk; rw [gt_out (.inl (by omega))]; exact id
  refine GX.wR ?_; intros
  exact rt1 () (vN fun h => e2 (e.1 h))
 by_cases g2 : t.main < (t.units.length : Int)
 rotate_left
 ·have e2 : ¬ MainOk t := by unfold MainOk; rw [gt_out (.inr (by omega))]; exact id
  refine GX.wR ?_; intros
  exact rt1 () (vN fun h => e2 (e.1 h))
 obtain ⟨u, hu, k, hk, hkl, hu2⟩ := gt_in (l := t.units) (n := t.main) ⟨by omega, by omega⟩
 have e2 : MainOk t ↔ u.params = 0 ∧ u.result = -3 := by unfold MainOk; rw [hu]
 by_cases g3 : u.params = 0
 ·refine GX.wR ?_; intros
  exact rt1 () (vI (e.trans (e2.trans ⟨fun h => h.2, fun h => ⟨g3, h⟩⟩)))
 ·refine GX.wR ?_; intros
  exact rt1 () (vN fun h => g3 (e2.1 (e.1 h)).1)
end Go.Proofs.YtomadjefdghliaaGreat
