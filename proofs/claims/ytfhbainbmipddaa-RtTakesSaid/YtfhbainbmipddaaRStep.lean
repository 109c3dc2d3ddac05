/- The walk over step of the reference of chapter 26. Written by wip/rstep.py. -/
import Derived.Test.YtfhbainbmipddaaRRt3
import Derived.Test.YtfhbainbmipddaaRtEq
namespace Go.Proofs.Ytfhbainbmipddaa
open Go Go.RR Go.RX Go.GX Go.Api Go.RiseM Go.ReachM Go.RtM
attribute [local irreducible] wpList Code.wp wpPlan Exit.then Exit.inBlock bodyPost NoPanic Went GX.Post GX.Again GX.Meet GX.RowR GX.Own GX.Owns GX.Box GX.Sl GX.Pt GX.Ag GX.MapR GX.Kept GX.Pin wpT GoK AtEnd Both

noncomputable instance (t : RTg) (u : Unt) (i : Ins) : Decidable (Step t u i) := Classical.propDecidable _
theorem rof_lt {t : RTg} {u : Unt} (h : Hds t u) (n : Int) : rof u n < (t.classes.length : Int) := by
  rcases var h n with ⟨e, _, h1, _, h2⟩ | ⟨_, h2⟩ <;> omega
theorem lay_arr {t : RTg} {u : Unt} (h : Hds t u) : ∀ L ∈ t.classes, L.arr = true → L.refs.length = 1 := fun L hL => (h.lay L hL).2.1
set_option maxHeartbeats 8000000 in
theorem step_spec (c1 c2 c3 : List Value) (t : RTg) (u : Unt) (i : Ins) (h : Hds t u) : Does Try.prog 33 [.agg c1.toArray, .agg c2.toArray, .agg c3.toArray] [Ag tyRTg c1 t, Ag tyUnt c2 u, Ag tyIns c3 i] []
    (fun _ : Unit => .bool (decide (Step t u i))) (fun _ => []) (fun _ => []) := by
  refine enter Try.func33 rfl Try.ntmps33 rfl fun b => ?_
  refine GX.wR ?_; intros
  refine GX.o (cl (named_spec _ i) fun _ => ?_)
  by_cases hN : Named i
  rotate_left
  · refine GX.wR ?_; intros
    exact rt1 () (vN fun h => hN h.1)
  have hN' := Classical.not_not.2 hN
  refine GX.wR ?_; intros
  refine GX.drawn0  (fun j => !(List.contains [11] j)) [(0, true), (1, true), (2, true), (4, true), (5, true), (6, true), (8, true), (9, true), (10, true), (3, false), (7, false), (11, false), (12, true), (13, true), (14, true)] rfl (by kernel_rfl) (by kernel_rfl) (by first | ((repeat (first | apply Go.GX.SelR.nil | apply Go.GX.SelR.cons | (with_reducible apply Go.GX.TakeR.head) | apply Go.GX.TakeR.tail)); done) | (repeat (first | apply Go.GX.SelR.nil | apply Go.GX.SelR.cons | apply Go.GX.TakeR.head | apply Go.GX.TakeR.tail))) ?_; intro wd F hW hR
  refine GX.wT ?_; intros
  refine GX.gow ?_
  refine (cl (rof_spec _ u i.a) fun _ => ?_)
  refine GX.wT ?_; intros
  refine GX.gow ?_
  refine (cl (rof_spec _ u i.b) fun _ => ?_)
  refine GX.wT ?_; intros
  refine GX.gow ?_
  refine (cl (rof_spec _ u i.c) fun _ => ?_)
  refine GX.wT ?_; intros
  have ha := rof_lt h i.a
  have hb := rof_lt h i.b
  have hl := lay_arr h
  refine GX.wRB ?_; intros
  refine GX.nmP 3 ?_; rintro b3 rfl
  refine GX.nmP 4 ?_; rintro b4 rfl
  refine GX.nmP 5 ?_; rintro b5 rfl
  refine less [(3, .pointer (some ⟨b3, 0, none⟩)), (4, .pointer (some ⟨b4, 0, none⟩)), (5, .pointer (some ⟨b5, 0, none⟩)), (7, .int .i64 (rof u i.a)), (8, .int .i64 (rof u i.b)), (9, .int .i64 (rof u i.c)), (10, .int .i64 (-2)), (37, .int .i64 i.op)] [Pt tyRTg b3 0 t, Pt tyUnt b4 0 u, Pt tyIns b5 0 i] [] ⟨rfl, rfl, rfl, rfl, rfl, rfl, rfl, rfl, trivial⟩ (AllIn.sub (by ((repeat (first | apply Go.GX.AllIn.nil | apply Go.GX.AllIn.cons | (with_reducible apply Go.GX.InP.head) | apply Go.GX.InP.tail)); done))) (List.nil_sublist _) ?_
  by_cases h1 : i.op = 1 ∨ i.op = 14 ∨ i.op = 15
  · have e : Step t u i ↔ rof u i.a = -2 := by unfold Step; rw [if_pos h1]; exact ⟨fun h => h.2, fun h => ⟨hN, h⟩⟩
    rcases h1 with h1 | h1 | h1
    · refine GX.wR ?_; intros
      exact rt1 () (vI e)
    · refine GX.wR ?_; intros
      exact rt1 () (vI e)
    · refine GX.wR ?_; intros
      exact rt1 () (vI e)
  have n1 : i.op ≠ 1 := fun h => h1 (.inl h)
  have n14 : i.op ≠ 14 := fun h => h1 (.inr (.inl h))
  have n15 : i.op ≠ 15 := fun h => h1 (.inr (.inr h))
  by_cases h2 : i.op = 2
  · have e : Step t u i ↔ -1 ≤ rof u i.a := by unfold Step; rw [if_neg h1, if_pos h2]; exact ⟨fun h => h.2, fun h => ⟨hN, h⟩⟩
    refine GX.wR ?_; intros
    exact rt1 () (vI e)
  by_cases h3 : i.op = 3
  · have e : Step t u i ↔ rof u i.a ≠ -4 ∧ rof u i.b ≠ -4 ∧ RInto (rof u i.a) (rof u i.b) := by unfold Step; rw [if_neg h1, if_neg h2, if_pos h3]; exact ⟨fun h => h.2, fun h => ⟨hN, h⟩⟩
    by_cases g1 : rof u i.a = -4
    · refine GX.wR ?_; intros
      exact rt1 () (vN fun h => (e.1 h).1 g1)
    by_cases g2 : rof u i.b = -4
    · refine GX.wR ?_; intros
      exact rt1 () (vN fun h => (e.1 h).2.1 g2)
    refine GX.wR ?_; intros
    refine GX.o (cl (rinto_spec _ _) fun _ => ?_)
    refine GX.wR ?_; intros
    exact rt1 () (vI (e.trans ⟨fun h => h.2.2, fun h => ⟨g1, g2, h⟩⟩))
  by_cases h4 : i.op = 4
  · have e : Step t u i ↔ (rof u i.a = -2 ∧ 14 ≤ i.n ∧ i.n ≤ 24) ∧ (if i.n = 21 ∨ i.n = 22 then rof u i.b ≠ -4 ∧ rof u i.c ≠ -4 ∧ (rof u i.b = -2 ↔ rof u i.c = -2) else rof u i.b = -2 ∧ rof u i.c = -2) := by unfold Step; rw [if_neg h1, if_neg h2, if_neg h3, if_pos h4]; exact ⟨fun h => h.2, fun h => ⟨hN, h⟩⟩
    by_cases g1 : rof u i.a = -2
    rotate_left
    · refine GX.wR ?_; intros
      exact rt1 () (vN fun h => g1 (e.1 h).1.1)
    have g1' := Classical.not_not.2 g1
    by_cases g2 : i.n < 14
    · refine GX.wR ?_; intros
      exact rt1 () (vN fun h => by have := (e.1 h).1; omega)
    by_cases g3 : 24 < i.n
    · refine GX.wR ?_; intros
      exact rt1 () (vN fun h => by have := (e.1 h).1; omega)
    have hh : rof u i.a = -2 ∧ 14 ≤ i.n ∧ i.n ≤ 24 := ⟨g1, by omega, by omega⟩
    by_cases g4 : i.n = 21 ∨ i.n = 22
    · rw [if_pos g4] at e
      by_cases g5 : rof u i.b = -4
      · rcases g4 with g4 | g4
        · refine GX.wR ?_; intros
          exact rt1 () (vN fun h => (e.1 h).2.1 g5)
        · refine GX.wR ?_; intros
          exact rt1 () (vN fun h => (e.1 h).2.1 g5)
      by_cases g6 : rof u i.c = -4
      · rcases g4 with g4 | g4
        · refine GX.wR ?_; intros
          exact rt1 () (vN fun h => (e.1 h).2.2.1 g6)
        · refine GX.wR ?_; intros
          exact rt1 () (vN fun h => (e.1 h).2.2.1 g6)
      have e2 : decide (Step t u i) = (decide (rof u i.b = -2) == decide (rof u i.c = -2)) := by
        rw [Bool.eq_iff_iff, decide_eq_true_eq, beq_iff_eq, decide_eq_decide, e]
        exact ⟨fun h => h.2.2.2, fun h => ⟨hh, g5, g6, h⟩⟩
      rw [e2]
      rcases g4 with g4 | g4
      · refine GX.wR ?_; intros
        exact rt1 () rfl
      · refine GX.wR ?_; intros
        exact rt1 () rfl
    · rw [if_neg g4] at e
      have g5 : i.n ≠ 21 := fun h => g4 (.inl h)
      have g6 : i.n ≠ 22 := fun h => g4 (.inr h)
      by_cases g7 : rof u i.b = -2
      · refine GX.wR ?_; intros
        exact rt1 () (vI (e.trans ⟨fun h => h.2.2, fun h => ⟨hh, g7, h⟩⟩))
      · refine GX.wR ?_; intros
        exact rt1 () (vN fun h => g7 (e.1 h).2.1)
  by_cases h5 : i.op = 5
  · have e : Step t u i ↔ rof u i.a = -2 ∧ rof u i.b = -2 ∧ (i.n = 12 ∨ i.n = 13) := by unfold Step; rw [if_neg h1, if_neg h2, if_neg h3, if_neg h4, if_pos h5]; exact ⟨fun h => h.2, fun h => ⟨hN, h⟩⟩
    by_cases g1 : rof u i.a = -2
    rotate_left
    · refine GX.wR ?_; intros
      exact rt1 () (vN fun h => g1 (e.1 h).1)
    by_cases g2 : rof u i.b = -2
    rotate_left
    · refine GX.wR ?_; intros
      exact rt1 () (vN fun h => g2 (e.1 h).2.1)
    by_cases g3 : i.n = 12
    · refine GX.wR ?_; intros
      exact rt1 () (vY (e.2 ⟨g1, g2, .inl g3⟩))
    · refine GX.wR ?_; intros
      exact rt1 () (vI (e.trans ⟨fun h => h.2.2.elim (fun h => absurd h g3) id, fun h => ⟨g1, g2, .inr h⟩⟩))
  by_cases h6 : i.op = 6
  · have e : Step t u i ↔ rof u i.a ≠ -4 ∧ RtM.Has (record t (rof u i.b) i.c) (RInto (rof u i.a)) := by unfold Step; rw [if_neg h1, if_neg h2, if_neg h3, if_neg h4, if_neg h5, if_pos h6]; exact ⟨fun h => h.2, fun h => ⟨hN, h⟩⟩
    refine GX.wR ?_; intros
    refine GX.o (cl (record_spec _ t (rof u i.b) i.c hb) fun _ => ?_)
    unfold RtM.Has at e
    generalize record t (rof u i.b) i.c = r at *
    obtain ⟨x, any⟩ := r
    dsimp only at *
    by_cases f0 : rof u i.a = -4
    · refine GX.wR ?_; intros
      exact rt1 () (vN fun h => (e.1 h).1 f0)
    cases any with
    | true =>
      refine GX.wR ?_; intros
      exact rt1 () (vY (e.2 ⟨f0, .inl rfl⟩))
    | false =>
      by_cases g : x = -4
      · refine GX.wR ?_; intros
        exact rt1 () (vN fun h => (e.1 h).2.elim (fun h => by simp at h) (fun h => h.1 g))
      · refine GX.wR ?_; intros
        refine GX.o (cl (rinto_spec _ x) fun _ => ?_)
        refine GX.wR ?_; intros
        exact rt1 () (vI (e.trans ⟨fun h => h.2.elim (fun h => by simp at h) (fun h => h.2), fun h => ⟨f0, .inr ⟨g, h⟩⟩⟩))
  by_cases h7 : i.op = 7
  · have e : Step t u i ↔ rof u i.b ≠ -4 ∧ RtM.Has (record t (rof u i.a) i.c) (fun e => RInto e (rof u i.b)) := by unfold Step; rw [if_neg h1, if_neg h2, if_neg h3, if_neg h4, if_neg h5, if_neg h6, if_pos h7]; exact ⟨fun h => h.2, fun h => ⟨hN, h⟩⟩
    refine GX.wR ?_; intros
    refine GX.o (cl (record_spec _ t (rof u i.a) i.c ha) fun _ => ?_)
    unfold RtM.Has at e
    generalize record t (rof u i.a) i.c = r at *
    obtain ⟨x, any⟩ := r
    dsimp only at *
    by_cases f0 : rof u i.b = -4
    · refine GX.wR ?_; intros
      exact rt1 () (vN fun h => (e.1 h).1 f0)
    cases any with
    | true =>
      refine GX.wR ?_; intros
      exact rt1 () (vY (e.2 ⟨f0, .inl rfl⟩))
    | false =>
      by_cases g : x = -4
      · refine GX.wR ?_; intros
        exact rt1 () (vN fun h => (e.1 h).2.elim (fun h => by simp at h) (fun h => h.1 g))
      · refine GX.wR ?_; intros
        refine GX.o (cl (rinto_spec x _) fun _ => ?_)
        refine GX.wR ?_; intros
        exact rt1 () (vI (e.trans ⟨fun h => h.2.elim (fun h => by simp at h) (fun h => h.2), fun h => ⟨f0, .inr ⟨g, h⟩⟩⟩))
  by_cases h8 : i.op = 8
  · have e : Step t u i ↔ rof u i.a ≠ -4 ∧ rof u i.c = -2 ∧ RtM.Has (array t (rof u i.b)) (RInto (rof u i.a)) := by unfold Step; rw [if_neg h1, if_neg h2, if_neg h3, if_neg h4, if_neg h5, if_neg h6, if_neg h7, if_pos h8]; exact ⟨fun h => h.2, fun h => ⟨hN, h⟩⟩
    refine GX.wR ?_; intros
    refine GX.o (cl (array_spec _ t (rof u i.b) hb hl) fun _ => ?_)
    unfold RtM.Has at e
    generalize array t (rof u i.b) = r at *
    obtain ⟨x, any⟩ := r
    dsimp only at *
    by_cases f0 : rof u i.a = -4
    · refine GX.wR ?_; intros
      exact rt1 () (vN fun h => (e.1 h).1 f0)
    by_cases f1 : rof u i.c = -2
    rotate_left
    · refine GX.wR ?_; intros
      exact rt1 () (vN fun h => f1 (e.1 h).2.1)
    cases any with
    | true =>
      refine GX.wR ?_; intros
      exact rt1 () (vY (e.2 ⟨f0, f1, .inl rfl⟩))
    | false =>
      by_cases g : x = -4
      · refine GX.wR ?_; intros
        exact rt1 () (vN fun h => (e.1 h).2.2.elim (fun h => by simp at h) (fun h => h.1 g))
      · refine GX.wR ?_; intros
        refine GX.o (cl (rinto_spec _ x) fun _ => ?_)
        refine GX.wR ?_; intros
        exact rt1 () (vI (e.trans ⟨fun h => h.2.2.elim (fun h => by simp at h) (fun h => h.2), fun h => ⟨f0, f1, .inr ⟨g, h⟩⟩⟩))
  by_cases h9 : i.op = 9
  · have e : Step t u i ↔ rof u i.c ≠ -4 ∧ rof u i.b = -2 ∧ RtM.Has (array t (rof u i.a)) (fun e => RInto e (rof u i.c)) := by unfold Step; rw [if_neg h1, if_neg h2, if_neg h3, if_neg h4, if_neg h5, if_neg h6, if_neg h7, if_neg h8, if_pos h9]; exact ⟨fun h => h.2, fun h => ⟨hN, h⟩⟩
    refine GX.wR ?_; intros
    refine GX.o (cl (array_spec _ t (rof u i.a) ha hl) fun _ => ?_)
    unfold RtM.Has at e
    generalize array t (rof u i.a) = r at *
    obtain ⟨x, any⟩ := r
    dsimp only at *
    by_cases f0 : rof u i.c = -4
    · refine GX.wR ?_; intros
      exact rt1 () (vN fun h => (e.1 h).1 f0)
    by_cases f1 : rof u i.b = -2
    rotate_left
    · refine GX.wR ?_; intros
      exact rt1 () (vN fun h => f1 (e.1 h).2.1)
    cases any with
    | true =>
      refine GX.wR ?_; intros
      exact rt1 () (vY (e.2 ⟨f0, f1, .inl rfl⟩))
    | false =>
      by_cases g : x = -4
      · refine GX.wR ?_; intros
        exact rt1 () (vN fun h => (e.1 h).2.2.elim (fun h => by simp at h) (fun h => h.1 g))
      · refine GX.wR ?_; intros
        refine GX.o (cl (rinto_spec x _) fun _ => ?_)
        refine GX.wR ?_; intros
        exact rt1 () (vI (e.trans ⟨fun h => h.2.2.elim (fun h => by simp at h) (fun h => h.2), fun h => ⟨f0, f1, .inr ⟨g, h⟩⟩⟩))
  by_cases h10 : i.op = 10
  · have e : Step t u i ↔ rof u i.a = -2 ∧ RtM.Has (array t (rof u i.b)) (fun _ => True) := by unfold Step; rw [if_neg h1, if_neg h2, if_neg h3, if_neg h4, if_neg h5, if_neg h6, if_neg h7, if_neg h8, if_neg h9, if_pos h10]; exact ⟨fun h => h.2, fun h => ⟨hN, h⟩⟩
    refine GX.wR ?_; intros
    refine GX.o (cl (array_spec _ t (rof u i.b) hb hl) fun _ => ?_)
    unfold RtM.Has at e
    generalize array t (rof u i.b) = r at *
    obtain ⟨x, any⟩ := r
    dsimp only at *
    by_cases f0 : rof u i.a = -2
    rotate_left
    · refine GX.wR ?_; intros
      exact rt1 () (vN fun h => f0 (e.1 h).1)
    cases any with
    | true =>
      refine GX.wR ?_; intros
      exact rt1 () (vY (e.2 ⟨f0, .inl rfl⟩))
    | false =>
      refine GX.wR ?_; intros
      exact rt1 () (vI (e.trans ⟨fun h => h.2.elim (fun h => by simp at h) (fun h => h.1), fun h => ⟨f0, .inr ⟨h, trivial⟩⟩⟩))
  by_cases h11 : i.op = 11
  · have e : Step t u i ↔ RClass t i.n false ∧ rof u i.a = i.n := by unfold Step; rw [if_neg h1, if_neg h2, if_neg h3, if_neg h4, if_neg h5, if_neg h6, if_neg h7, if_neg h8, if_neg h9, if_neg h10, if_pos h11]; exact ⟨fun h => h.2, fun h => ⟨hN, h⟩⟩
    refine GX.wR ?_; intros
    refine GX.o (cl (rclass_spec _ t i.n false) fun _ => ?_)
    by_cases g1 : RClass t i.n false
    · refine GX.wR ?_; intros
      exact rt1 () (vI (e.trans ⟨fun h => h.2, fun h => ⟨g1, h⟩⟩))
    · refine GX.wR ?_; intros
      exact rt1 () (vN fun h => g1 (e.1 h).1)
  by_cases h12 : i.op = 12
  · have e : Step t u i ↔ RClass t i.n true ∧ rof u i.a = i.n ∧ rof u i.b = -2 := by unfold Step; rw [if_neg h1, if_neg h2, if_neg h3, if_neg h4, if_neg h5, if_neg h6, if_neg h7, if_neg h8, if_neg h9, if_neg h10, if_neg h11, if_pos h12]; exact ⟨fun h => h.2, fun h => ⟨hN, h⟩⟩
    refine GX.wR ?_; intros
    refine GX.o (cl (rclass_spec _ t i.n true) fun _ => ?_)
    by_cases g1 : RClass t i.n true
    rotate_left
    · refine GX.wR ?_; intros
      exact rt1 () (vN fun h => g1 (e.1 h).1)
    by_cases g2 : rof u i.a = i.n
    · refine GX.wR ?_; intros
      exact rt1 () (vI (e.trans ⟨fun h => h.2.2, fun h => ⟨g1, g2, h⟩⟩))
    · refine GX.wR ?_; intros
      exact rt1 () (vN fun h => g2 (e.1 h).2.1)
  by_cases h13 : i.op = 13
  · have e : Step t u i ↔ RCall t u i := by unfold Step; rw [if_neg h1, if_neg h2, if_neg h3, if_neg h4, if_neg h5, if_neg h6, if_neg h7, if_neg h8, if_neg h9, if_neg h10, if_neg h11, if_neg h12, if_pos h13]; exact ⟨fun h => h.2, fun h => ⟨hN, h⟩⟩
    refine GX.wR ?_; intros
    refine GX.o (cl (rcall_spec _ _ _ t u i) fun _ => ?_)
    refine GX.wR ?_; intros
    exact rt1 () (vI e)
  by_cases h16 : i.op = 16
  · have e : Step t u i ↔ RtM.Place u i.n := by unfold Step; rw [if_neg h1, if_neg h2, if_neg h3, if_neg h4, if_neg h5, if_neg h6, if_neg h7, if_neg h8, if_neg h9, if_neg h10, if_neg h11, if_neg h12, if_neg h13, if_pos h16]; exact ⟨fun h => h.2, fun h => ⟨hN, h⟩⟩
    by_cases g1 : 0 ≤ i.n
    · refine GX.wR ?_; intros
      exact rt1 () (vI (e.trans ⟨fun h => h.2, fun h => ⟨g1, h⟩⟩))
    · refine GX.wR ?_; intros
      exact rt1 () (vN fun h => g1 (e.1 h).1)
  by_cases h17 : i.op = 17
  · have e : Step t u i ↔ rof u i.a = -2 ∧ RtM.Place u i.n ∧ RtM.Place u i.c := by unfold Step; rw [if_neg h1, if_neg h2, if_neg h3, if_neg h4, if_neg h5, if_neg h6, if_neg h7, if_neg h8, if_neg h9, if_neg h10, if_neg h11, if_neg h12, if_neg h13, if_neg h16, if_pos h17]; exact ⟨fun h => h.2, fun h => ⟨hN, h⟩⟩
    by_cases g1 : rof u i.a = -2
    rotate_left
    · refine GX.wR ?_; intros
      exact rt1 () (vN fun h => g1 (e.1 h).1)
    by_cases g2 : 0 ≤ i.n
    rotate_left
    · refine GX.wR ?_; intros
      exact rt1 () (vN fun h => g2 (e.1 h).2.1.1)
    by_cases g3 : i.n < (u.ins.length : Int)
    rotate_left
    · refine GX.wR ?_; intros
      exact rt1 () (vN fun h => g3 (e.1 h).2.1.2)
    by_cases g4 : 0 ≤ i.c
    · refine GX.wR ?_; intros
      exact rt1 () (vI (e.trans ⟨fun h => h.2.2.2, fun h => ⟨g1, ⟨g2, g3⟩, g4, h⟩⟩))
    · refine GX.wR ?_; intros
      exact rt1 () (vN fun h => g4 (e.1 h).2.2.1)
  by_cases h18 : i.op = 18
  · have e : Step t u i ↔ (if u.result = -3 then i.a = -1 else rof u i.a ≠ -4 ∧ RInto u.result (rof u i.a)) := by unfold Step; rw [if_neg h1, if_neg h2, if_neg h3, if_neg h4, if_neg h5, if_neg h6, if_neg h7, if_neg h8, if_neg h9, if_neg h10, if_neg h11, if_neg h12, if_neg h13, if_neg h16, if_neg h17, if_pos h18]; exact ⟨fun h => h.2, fun h => ⟨hN, h⟩⟩
    by_cases g1 : u.result = -3
    · rw [if_pos g1] at e
      refine GX.wR ?_; intros
      exact rt1 () (vI e)
    · rw [if_neg g1] at e
      by_cases g2 : rof u i.a = -4
      · refine GX.wR ?_; intros
        exact rt1 () (vN fun h => (e.1 h).1 g2)
      · refine GX.wR ?_; intros
        refine GX.o (cl (rinto_spec u.result _) fun _ => ?_)
        refine GX.wR ?_; intros
        exact rt1 () (vI (e.trans ⟨fun h => h.2, fun h => ⟨g2, h⟩⟩))
  by_cases h19 : i.op = 19
  · have e : Step t u i ↔ rof u i.a ≠ -4 ∧ InG t i.n (fun g => RInto (rof u i.a) g) := by unfold Step; rw [if_neg h1, if_neg h2, if_neg h3, if_neg h4, if_neg h5, if_neg h6, if_neg h7, if_neg h8, if_neg h9, if_neg h10, if_neg h11, if_neg h12, if_neg h13, if_neg h16, if_neg h17, if_neg h18, if_pos h19]; exact ⟨fun h => h.2, fun h => ⟨hN, h⟩⟩
    by_cases g1 : rof u i.a = -4
    · refine GX.wR ?_; intros
      exact rt1 () (vN fun h => (e.1 h).1 g1)
    by_cases g2 : i.n < 0
    · have e2 : ¬ InG t i.n (fun g => RInto (rof u i.a) g) := by unfold InG; rw [gt_out (.inl g2)]; exact id
      refine GX.wR ?_; intros
      exact rt1 () (vN fun h => e2 (e.1 h).2)
    by_cases g3 : (t.globals.length : Int) ≤ i.n
    · have e2 : ¬ InG t i.n (fun g => RInto (rof u i.a) g) := by unfold InG; rw [gt_out (.inr g3)]; exact id
      refine GX.wR ?_; intros
      exact rt1 () (vN fun h => e2 (e.1 h).2)
    obtain ⟨g, hg, k, hk, hkl, hg2⟩ := gt_in (l := t.globals) (n := i.n) ⟨by omega, by omega⟩
    have e2 : InG t i.n (fun g => RInto (rof u i.a) g) ↔ (fun g => RInto (rof u i.a) g) g := by unfold InG; rw [hg]
    refine GX.wR ?_; intros
    refine GX.o (cl (rinto_spec _ g) fun _ => ?_)
    refine GX.wR ?_; intros
    exact rt1 () (vI (e.trans ⟨fun h => e2.1 h.2, fun h => ⟨g1, e2.2 h⟩⟩))
  by_cases h20 : i.op = 20
  · have e : Step t u i ↔ rof u i.a ≠ -4 ∧ InG t i.n (fun g => RInto g (rof u i.a)) := by unfold Step; rw [if_neg h1, if_neg h2, if_neg h3, if_neg h4, if_neg h5, if_neg h6, if_neg h7, if_neg h8, if_neg h9, if_neg h10, if_neg h11, if_neg h12, if_neg h13, if_neg h16, if_neg h17, if_neg h18, if_neg h19, if_pos h20]; exact ⟨fun h => h.2, fun h => ⟨hN, h⟩⟩
    by_cases g1 : rof u i.a = -4
    · refine GX.wR ?_; intros
      exact rt1 () (vN fun h => (e.1 h).1 g1)
    by_cases g2 : i.n < 0
    · have e2 : ¬ InG t i.n (fun g => RInto g (rof u i.a)) := by unfold InG; rw [gt_out (.inl g2)]; exact id
      refine GX.wR ?_; intros
      exact rt1 () (vN fun h => e2 (e.1 h).2)
    by_cases g3 : (t.globals.length : Int) ≤ i.n
    · have e2 : ¬ InG t i.n (fun g => RInto g (rof u i.a)) := by unfold InG; rw [gt_out (.inr g3)]; exact id
      refine GX.wR ?_; intros
      exact rt1 () (vN fun h => e2 (e.1 h).2)
    obtain ⟨g, hg, k, hk, hkl, hg2⟩ := gt_in (l := t.globals) (n := i.n) ⟨by omega, by omega⟩
    have e2 : InG t i.n (fun g => RInto g (rof u i.a)) ↔ (fun g => RInto g (rof u i.a)) g := by unfold InG; rw [hg]
    refine GX.wR ?_; intros
    refine GX.o (cl (rinto_spec g _) fun _ => ?_)
    refine GX.wR ?_; intros
    exact rt1 () (vI (e.trans ⟨fun h => e2.1 h.2, fun h => ⟨g1, e2.2 h⟩⟩))
  by_cases h21 : i.op = 21 ∨ i.op = 22
  · have e : Step t u i ↔ i.args ≠ [] ∧ Rise i.args ∧ ∀ n ∈ i.args, n ∈ u.owns := by unfold Step; rw [if_neg h1, if_neg h2, if_neg h3, if_neg h4, if_neg h5, if_neg h6, if_neg h7, if_neg h8, if_neg h9, if_neg h10, if_neg h11, if_neg h12, if_neg h13, if_neg h16, if_neg h17, if_neg h18, if_neg h19, if_neg h20, if_pos h21]; exact ⟨fun h => h.2, fun h => ⟨hN, h⟩⟩
    have ea : 0 < (i.args.length : Int) ↔ i.args ≠ [] := by rw [ne_eq, ← List.length_eq_zero_iff]; omega
    by_cases g1 : 0 < (i.args.length : Int)
    rotate_left
    · rcases h21 with h21 | h21
      · refine GX.wR ?_; intros
        exact rt1 () (vN fun h => g1 (ea.2 (e.1 h).1))
      · refine GX.wR ?_; intros
        exact rt1 () (vN fun h => g1 (ea.2 (e.1 h).1))
    rcases h21 with h21 | h21
    · refine GX.wR ?_; intros
      refine GX.nmS 406 ?_; rintro aA cA rfl rfl
      refine GX.o (cl (rrising_spec aA cA i.args) fun _ => ?_)
      by_cases g2 : Rise i.args
      · refine GX.wR ?_; intros
        refine GX.nmS 411 ?_; rintro aB cB rfl rfl
        refine GX.nmS 413 ?_; rintro aO cO rfl rfl
        refine GX.o (cl (all2_spec aB aO cB cO i.args u.owns) fun _ => ?_)
        refine GX.wR ?_; intros
        exact rt1 () (vI (e.trans ⟨fun h => h.2.2, fun h => ⟨ea.1 g1, g2, h⟩⟩))
      · refine GX.wR ?_; intros
        exact rt1 () (vN fun h => g2 (e.1 h).2.1)
    · refine GX.wR ?_; intros
      refine GX.nmS 406 ?_; rintro aA cA rfl rfl
      refine GX.o (cl (rrising_spec aA cA i.args) fun _ => ?_)
      by_cases g2 : Rise i.args
      · refine GX.wR ?_; intros
        refine GX.nmS 411 ?_; rintro aB cB rfl rfl
        refine GX.nmS 413 ?_; rintro aO cO rfl rfl
        refine GX.o (cl (all2_spec aB aO cB cO i.args u.owns) fun _ => ?_)
        refine GX.wR ?_; intros
        exact rt1 () (vI (e.trans ⟨fun h => h.2.2, fun h => ⟨ea.1 g1, g2, h⟩⟩))
      · refine GX.wR ?_; intros
        exact rt1 () (vN fun h => g2 (e.1 h).2.1)
  have n21 : i.op ≠ 21 := fun h => h21 (.inl h)
  have n22 : i.op ≠ 22 := fun h => h21 (.inr h)
  have e : ¬ Step t u i := by unfold Step; rw [if_neg h1, if_neg h2, if_neg h3, if_neg h4, if_neg h5, if_neg h6, if_neg h7, if_neg h8, if_neg h9, if_neg h10, if_neg h11, if_neg h12, if_neg h13, if_neg h16, if_neg h17, if_neg h18, if_neg h19, if_neg h20, if_neg h21]; exact fun h => h.2
  refine GX.wR ?_; intros
  exact rt1 () (vN e)
end Go.Proofs.Ytfhbainbmipddaa
