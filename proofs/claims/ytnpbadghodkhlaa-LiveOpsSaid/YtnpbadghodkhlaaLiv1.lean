/- The walks over isVar, asked, Uses, Def of package live. -/
import Derived.Test.YtnpbadghodkhlaaFlow
import Derived.Test.YtnpbadghodkhlaaSlcCl
import Derived.Test.YtnpbadghodkhlaaLivMath
import Derived.Test.YtnpbadghodkhlaaGWalk
namespace Go.Proofs.Ytnpbadghodkhlaa
open Go Go.RR Go.RX Go.GX Go.Api Go.FlowM Go.RiseM Go.LivM
attribute [local irreducible] wpList Code.wp wpPlan Exit.then Exit.inBlock bodyPost NoPanic Went GX.Post GX.Again GX.Meet GX.RowR GX.Own GX.Owns GX.Box GX.Sl GX.Pt GX.Ag GX.MapR GX.Kept GX.Pin wpT GoK AtEnd Both

theorem isVar_spec (x : Int) : Does Try.prog 27 [.int .i64 x] [] [] (fun _ : Unit => .bool (decide (In 4000 x))) (fun _ => []) (fun _ => []) := by
  refine enter Try.func27 rfl Try.ntmps27 rfl fun b => ?_
  by_cases h1 : 0 ≤ x
  · refine GX.wR ?_; intros
    exact rt1 () (congrArg Value.bool (decide_eq_decide.2 ⟨fun h => h.2, fun h => ⟨h1, h⟩⟩))
  · refine GX.wR ?_; intros
    exact rt1 () (congrArg Value.bool (decide_eq_false fun h => h1 h.1))
theorem uses1_spec (x : Int) : Does Try.prog 26 [.int .i64 x] [] [] (fun _ : Unit => .bool (decide (¬ In 4000 x))) (fun _ => []) (fun _ => []) := by
  refine enter Try.func26 rfl Try.ntmps26 rfl fun b => ?_
  refine GX.wR ?_; intros
  refine GX.o (cl (isVar_spec x) fun _ => ?_)
  refine GX.wR ?_; intros
  exact rt1 () rfl
set_option maxHeartbeats 2000000 in
theorem asked_spec (cs : List Value) (x : Ins) (hx : x.args.length ≤ 17592186043904) : Does Try.prog 25 [.agg cs.toArray] [Ag tyIns cs x] [] (fun s : Option Addr × Nat => .slice s.1 (asks x).length s.2) (fun _ => []) (fun s => [Own 3 Ty.int s.1 s.2 (asks x)]) := by
  refine enter Try.func25 rfl Try.ntmps25 rfl fun b => ?_
  by_cases e3 : x.op = 3
  · rw [show asks x = [x.b] by simp [asks, e3]]
    refine GX.wRO ?_; intros
    exact rt1 (_, _) rfl
  by_cases e5 : x.op = 5
  · rw [show asks x = [x.b] by simp [asks, e5]]
    refine GX.wRO ?_; intros
    exact rt1 (_, _) rfl
  by_cases e6 : x.op = 6
  · rw [show asks x = [x.b] by simp [asks, e6]]
    refine GX.wRO ?_; intros
    exact rt1 (_, _) rfl
  by_cases e10 : x.op = 10
  · rw [show asks x = [x.b] by simp [asks, e10]]
    refine GX.wRO ?_; intros
    exact rt1 (_, _) rfl
  by_cases e12 : x.op = 12
  · rw [show asks x = [x.b] by simp [asks, e12]]
    refine GX.wRO ?_; intros
    exact rt1 (_, _) rfl
  by_cases e4 : x.op = 4
  · rw [show asks x = [x.b, x.c] by simp [asks, e4]]
    refine GX.wRO ?_; intros
    exact rt1 (_, _) rfl
  by_cases e8 : x.op = 8
  · rw [show asks x = [x.b, x.c] by simp [asks, e8]]
    refine GX.wRO ?_; intros
    exact rt1 (_, _) rfl
  by_cases e7 : x.op = 7
  · rw [show asks x = [x.a, x.b] by simp [asks, e7]]
    refine GX.wRO ?_; intros
    exact rt1 (_, _) rfl
  by_cases e9 : x.op = 9
  · rw [show asks x = [x.a, x.b, x.c] by simp [asks, e9]]
    refine GX.wRO ?_; intros
    exact rt1 (_, _) rfl
  by_cases e13 : x.op = 13
  · rw [show asks x = x.args by simp [asks, e13]]
    refine GX.wRO ?_; intros
    refine GX.o (cl (clone_spec _ _ x.args hx) fun s => ?_)
    obtain ⟨a, c⟩ := s
    dsimp only
    refine GX.wRO ?_; intros
    exact rt1 (_, _) rfl
  by_cases e15 : x.op = 15
  · rw [show asks x = [x.a] by simp [asks, e15]]
    refine GX.wRO ?_; intros
    exact rt1 (_, _) rfl
  by_cases e17 : x.op = 17
  · rw [show asks x = [x.a] by simp [asks, e17]]
    refine GX.wRO ?_; intros
    exact rt1 (_, _) rfl
  by_cases e18 : x.op = 18
  · rw [show asks x = [x.a] by simp [asks, e18]]
    refine GX.wRO ?_; intros
    exact rt1 (_, _) rfl
  by_cases e20 : x.op = 20
  · rw [show asks x = [x.a] by simp [asks, e20]]
    refine GX.wRO ?_; intros
    exact rt1 (_, _) rfl
  rw [show asks x = [] by simp [asks, e3, e5, e6, e10, e12, e4, e8, e7, e9, e13, e15, e17, e18, e20]]
  refine GX.wRO ?_; intros
  refine ownNil 3 Ty.int ?_
  exact rt1 (none, 0) rfl
set_option maxHeartbeats 1000000 in
theorem uses_spec (cs : List Value) (x : Ins) (hx : x.args.length ≤ 17592186043904) : Does Try.prog 13 [.agg cs.toArray] [Ag tyIns cs x] [] (fun s : Option Addr × Nat => .slice s.1 (uses x).length s.2) (fun s => [Sl Ty.int s.1 s.2 (uses x)]) (fun _ => []) := by
  refine enter Try.func13 rfl Try.ntmps13 rfl fun b => ?_
  refine GX.wR ?_; intros
  refine GX.o (cl (asked_spec _ x hx) fun s => ?_)
  obtain ⟨a, c⟩ := s
  dsimp only
  have h4 : (asks x).length ≤ 17592186043904 := by unfold asks; (repeat' split) <;> first | exact hx | (simp only [List.length_cons, List.length_nil]; omega)
  refine GX.wR ?_; intros
  refine GX.o (cl (deleteFunc_spec a c (asks x) 26 [] [] [] (fun y => decide (¬ In 4000 y)) (fun y _ => uses1_spec y)) fun _ => ?_)
  have h5 := kept_len (fun y => decide (¬ In 4000 y)) (asks x) (asks x).length (Nat.le_refl _)
  have e : uses x = once (sorted (kept (fun y => decide (¬ In 4000 y)) (asks x) (asks x).length)) := sorted_once.symm
  rw [e]
  obtain ⟨L, hL⟩ : ∃ L, L = kept (fun y => decide (¬ In 4000 y)) (asks x) (asks x).length := ⟨_, rfl⟩
  rw [← hL] at h5 ⊢
  refine GX.wR ?_; intros
  refine GX.o (cl (sort_spec a c L (by omega)) fun _ => ?_)
  have h6 := sorted_len L
  rw [← h6]
  refine GX.wR ?_; intros
  refine GX.o (cl (compact_spec a c (sorted L) (by omega)) fun _ => ?_)
  refine GX.wR ?_; intros
  refine frz a ?_
  exact rt1 (_, _) rfl
set_option maxHeartbeats 2000000 in
theorem def_spec (cs : List Value) (x : Ins) : Does Try.prog 15 [.agg cs.toArray] [Ag tyIns cs x] [] (fun _ : Unit => .int .i64 (def_ x)) (fun _ => []) (fun _ => []) := by
  refine enter Try.func15 rfl Try.ntmps15 rfl fun b => ?_
  refine GX.wR ?_; intros
  refine GX.nmP 1 ?_; rintro b1 rfl
  refine GX.cut (σ := Bool) (fun q => [(1, .pointer (some ⟨b1, 0, none⟩)), (4, .int .i64 x.op), (5, .bool q)]) (fun _ => []) (fun _ => []) (fun q => q = decide (Sets x.op)) ?_ (fun q hq => ?_)
  · by_cases e1 : x.op = 1
    · refine GX.wR ?_; intros
      exact meet _ ⟨rfl, rfl, rfl, trivial⟩ (by simp [Sets, e1])
    by_cases e2 : x.op = 2
    · refine GX.wR ?_; intros
      exact meet _ ⟨rfl, rfl, rfl, trivial⟩ (by simp [Sets, e2])
    by_cases e3 : x.op = 3
    · refine GX.wR ?_; intros
      exact meet _ ⟨rfl, rfl, rfl, trivial⟩ (by simp [Sets, e3])
    by_cases e4 : x.op = 4
    · refine GX.wR ?_; intros
      exact meet _ ⟨rfl, rfl, rfl, trivial⟩ (by simp [Sets, e4])
    by_cases e5 : x.op = 5
    · refine GX.wR ?_; intros
      exact meet _ ⟨rfl, rfl, rfl, trivial⟩ (by simp [Sets, e5])
    by_cases e6 : x.op = 6
    · refine GX.wR ?_; intros
      exact meet _ ⟨rfl, rfl, rfl, trivial⟩ (by simp [Sets, e6])
    by_cases e8 : x.op = 8
    · refine GX.wR ?_; intros
      exact meet _ ⟨rfl, rfl, rfl, trivial⟩ (by simp [Sets, e8])
    by_cases e10 : x.op = 10
    · refine GX.wR ?_; intros
      exact meet _ ⟨rfl, rfl, rfl, trivial⟩ (by simp [Sets, e10])
    by_cases e11 : x.op = 11
    · refine GX.wR ?_; intros
      exact meet _ ⟨rfl, rfl, rfl, trivial⟩ (by simp [Sets, e11])
    by_cases e12 : x.op = 12
    · refine GX.wR ?_; intros
      exact meet _ ⟨rfl, rfl, rfl, trivial⟩ (by simp [Sets, e12])
    by_cases e13 : x.op = 13
    · refine GX.wR ?_; intros
      exact meet _ ⟨rfl, rfl, rfl, trivial⟩ (by simp [Sets, e13])
    by_cases e14 : x.op = 14
    · refine GX.wR ?_; intros
      exact meet _ ⟨rfl, rfl, rfl, trivial⟩ (by simp [Sets, e14])
    by_cases e19 : x.op = 19
    · refine GX.wR ?_; intros
      exact meet _ ⟨rfl, rfl, rfl, trivial⟩ (by simp [Sets, e19])
    refine GX.wR ?_; intros
    exact meet _ ⟨rfl, rfl, rfl, trivial⟩ (by simp [Sets, e1, e2, e3, e4, e5, e6, e8, e10, e11, e12, e13, e14, e19])
  by_cases hs : Sets x.op
  · have hq1 : q = true := by rw [hq]; exact decide_eq_true hs
    by_cases hv : In 4000 x.a
    · rw [show def_ x = x.a from if_pos ⟨hs, hv⟩]
      refine GX.wR ?_; intros
      refine GX.o (cl (isVar_spec x.a) fun _ => ?_)
      refine GX.wR ?_; intros
      exact rt1 () rfl
    · rw [show def_ x = -1 from if_neg fun h => hv h.2]
      refine GX.wR ?_; intros
      refine GX.o (cl (isVar_spec x.a) fun _ => ?_)
      refine GX.wR ?_; intros
      exact rt1 () rfl
  · have hq1 : q = false := by rw [hq]; exact decide_eq_false hs
    rw [show def_ x = -1 from if_neg fun h => hs h.1]
    refine GX.wR ?_; intros
    exact rt1 () rfl
end Go.Proofs.Ytnpbadghodkhlaa
