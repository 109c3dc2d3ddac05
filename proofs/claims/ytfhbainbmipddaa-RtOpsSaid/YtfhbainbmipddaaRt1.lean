/- The walks over the small functions of package rt. -/
import Derived.Test.YtfhbainbmipddaaSlcCF
import Derived.Test.YtfhbainbmipddaaSlcIx
import Derived.Test.YtfhbainbmipddaaRtMath
import Derived.Test.YtfhbainbmipddaaGWalk
namespace Go.Proofs.Ytfhbainbmipddaa
open Go Go.RR Go.RX Go.GX Go.Api Go.RiseM Go.ReachM Go.RtM
attribute [local irreducible] wpList Code.wp wpPlan Exit.then Exit.inBlock bodyPost NoPanic Went GX.Post GX.Again GX.Meet GX.RowR GX.Own GX.Owns GX.Box GX.Sl GX.Pt GX.Ag GX.MapR GX.Kept GX.Pin wpT GoK AtEnd Both

theorem vY {P : Prop} [Decidable P] (h : P) : Value.bool (decide P) = .bool true := by rw [decide_eq_true h]
theorem vN {P : Prop} [Decidable P] (h : ¬ P) : Value.bool (decide P) = .bool false := by rw [decide_eq_false h]
theorem vI {P Q : Prop} [Decidable P] [Decidable Q] (h : P ↔ Q) : Value.bool (decide P) = .bool (decide Q) := by rw [decide_eq_decide.2 h]
theorem any_dec {P : Int → Prop} [DecidablePred P] (l : List Int) : (l.any fun x => decide (¬ P x)) = decide (¬ ∀ n ∈ l, P n) := by
  rw [Bool.eq_iff_iff, List.any_eq_true, decide_eq_true_eq]
  simp only [decide_eq_true_eq, Classical.not_forall, exists_prop]

theorem isClass_spec (cs : List Value) (t : RTg) (n : Int) : Does Try.prog 61 [.agg cs.toArray, .int .i64 n] [Ag tyRTg cs t] [] (fun _ : Unit => .bool (decide (IsClass t n))) (fun _ => []) (fun _ => []) := by
  refine enter Try.func61 rfl Try.ntmps61 rfl fun b => ?_
  by_cases h : 0 ≤ n
  · refine GX.wR ?_; intros
    exact rt1 () (vI ⟨fun h => h.2, fun h2 => ⟨h, h2⟩⟩)
  · refine GX.wR ?_; intros
    exact rt1 () (vN fun h2 => h h2.1)
theorem isEntry_spec (cs : List Value) (t : RTg) (n : Int) : Does Try.prog 44 [.agg cs.toArray, .int .i64 n] [Ag tyRTg cs t] [] (fun _ : Unit => .bool (decide (IsEntry t n))) (fun _ => []) (fun _ => []) := by
  refine enter Try.func44 rfl Try.ntmps44 rfl fun b => ?_
  refine GX.wR ?_; intros
  refine GX.o (cl (isClass_spec _ t n) fun _ => ?_)
  by_cases h : IsClass t n
  · refine GX.wR ?_; intros
    exact rt1 () (vY (.inl h))
  · by_cases h2 : n = -1
    · refine GX.wR ?_; intros
      exact rt1 () (vY (.inr (.inl h2)))
    · refine GX.wR ?_; intros
      exact rt1 () (vI ⟨fun h3 => h3.elim (fun h3 => absurd h3 h) fun h3 => h3.elim (fun h3 => absurd h3 h2) id, fun h3 => .inr (.inr h3)⟩)
theorem entries1_spec (bl : Nat) (t : RTg) (n : Int) : Does Try.prog 43 [.int .i64 n, .pointer (some ⟨bl, 0, none⟩)] [Pt tyRTg bl 0 t] [] (fun _ : Unit => .bool (decide (¬ IsEntry t n))) (fun _ => []) (fun _ => []) := by
  refine enter Try.func43 rfl Try.ntmps43 rfl fun b => ?_
  refine GX.wR ?_; intros
  refine GX.o (cl (isEntry_spec _ t n) fun _ => ?_)
  refine GX.wR ?_; intros
  exact rt1 () rfl
theorem entries_spec (cs : List Value) (t : RTg) (ao : Option Addr) (cap : Nat) (l : List Int) : Does Try.prog 29 [.agg cs.toArray, .slice ao l.length cap] [Sl Ty.int ao cap l, Ag tyRTg cs t] [] (fun _ : Unit => .bool (decide (Entries t l))) (fun _ => []) (fun _ => []) := by
  refine enter Try.func29 rfl Try.ntmps29 rfl fun b => ?_
  refine GX.wR ?_; intros
  refine GX.nmP 2 ?_; rintro b2 rfl
  refine GX.o (cl (containsFunc_spec ao cap l 43 [.pointer (some ⟨b2, 0, none⟩)] [Pt tyRTg b2 0 t] [] (fun n => decide (¬ IsEntry t n)) (fun n _ => entries1_spec b2 t n)) fun _ => ?_)
  rw [any_dec]
  refine GX.wR ?_; intros
  exact rt1 () (vI Classical.not_not.symm)
theorem isRef_spec (e : Int) : Does Try.prog 80 [.int .i64 e] [] [] (fun _ : Unit => .bool (decide (IsRef e))) (fun _ => []) (fun _ => []) := by
  refine enter Try.func80 rfl Try.ntmps80 rfl fun b => ?_
  refine GX.wR ?_; intros
  exact rt1 () rfl
theorem into_spec (a c : Int) : Does Try.prog 70 [.int .i64 a, .int .i64 c] [] [] (fun _ : Unit => .bool (decide (Into a c))) (fun _ => []) (fun _ => []) := by
  refine enter Try.func70 rfl Try.ntmps70 rfl fun b => ?_
  refine GX.wR ?_; intros
  refine GX.o (cl (isRef_spec a) fun _ => ?_)
  have e : Into a c ↔ if -1 ≤ a then -1 ≤ c ∧ (c = a ∨ c = -1) else a = -2 ∧ c = -2 := Iff.rfl
  by_cases h : IsRef a
  · rw [if_pos h] at e
    refine GX.wR ?_; intros
    refine GX.o (cl (isRef_spec c) fun _ => ?_)
    by_cases h2 : IsRef c
    · by_cases h3 : c = a
      · refine GX.wR ?_; intros
        exact rt1 () (vY (e.2 ⟨h2, .inl h3⟩))
      · refine GX.wR ?_; intros
        exact rt1 () (vI (e.trans ⟨fun h4 => h4.2.elim (fun h5 => absurd h5 h3) id, fun h4 => ⟨h2, .inr h4⟩⟩))
    · refine GX.wR ?_; intros
      exact rt1 () (vN fun h4 => h2 (e.1 h4).1)
  · rw [if_neg h] at e
    by_cases h2 : a = -2
    · refine GX.wR ?_; intros
      exact rt1 () (vI (e.trans ⟨fun h3 => h3.2, fun h3 => ⟨h2, h3⟩⟩))
    · refine GX.wR ?_; intros
      exact rt1 () (vN fun h4 => h2 (e.1 h4).1)
theorem of_spec (cs : List Value) (v : RtView) (n : Int) : Does Try.prog 71 [.agg cs.toArray, .int .i64 n] [Ag tyRtView cs v] [] (fun _ : Unit => .int .i64 (RtM.of v.u n)) (fun _ => []) (fun _ => []) := by
  refine enter Try.func71 rfl Try.ntmps71 rfl fun b => ?_
  by_cases h : n < 0
  · have e : RtM.of v.u n = -3 := by unfold RtM.of; rw [gt_out (.inl h)]; rfl
    rw [e]
    refine GX.wR ?_; intros
    exact rt1 () rfl
  · by_cases h2 : (v.u.vars.length : Int) ≤ n
    · have e : RtM.of v.u n = -3 := by unfold RtM.of; rw [gt_out (.inr h2)]; rfl
      rw [e]
      refine GX.wR ?_; intros
      exact rt1 () rfl
    · obtain ⟨x, hx, k, rfl, hk, hx2⟩ := gt_in (l := v.u.vars) (n := n) ⟨by omega, by omega⟩
      have e : RtM.of v.u k = x := by unfold RtM.of; rw [hx]; rfl
      rw [e]
      refine GX.wR ?_; intros
      exact rt1 () rfl
theorem plain1_spec (bl : Nat) (v : RtView) (n : Int) : Does Try.prog 78 [.int .i64 n, .pointer (some ⟨bl, 0, none⟩)] [Pt tyRtView bl 0 v] [] (fun _ : Unit => .bool (decide (¬ RtM.of v.u n = -2))) (fun _ => []) (fun _ => []) := by
  refine enter Try.func78 rfl Try.ntmps78 rfl fun b => ?_
  refine GX.wR ?_; intros
  refine GX.o (cl (of_spec _ v n) fun _ => ?_)
  refine GX.wR ?_; intros
  exact rt1 () rfl
theorem refs1_spec (bl : Nat) (v : RtView) (n : Int) : Does Try.prog 79 [.int .i64 n, .pointer (some ⟨bl, 0, none⟩)] [Pt tyRtView bl 0 v] [] (fun _ : Unit => .bool (decide (¬ IsRef (RtM.of v.u n)))) (fun _ => []) (fun _ => []) := by
  refine enter Try.func79 rfl Try.ntmps79 rfl fun b => ?_
  refine GX.wR ?_; intros
  refine GX.o (cl (of_spec _ v n) fun _ => ?_)
  refine GX.wR ?_; intros
  refine GX.o (cl (isRef_spec _) fun _ => ?_)
  refine GX.wR ?_; intros
  exact rt1 () rfl
theorem plain_spec (cs : List Value) (v : RtView) (ao : Option Addr) (cap m : Nat) (l : List Int) (hm : m = l.length) : Does Try.prog 68 [.agg cs.toArray, .slice ao m cap] [Sl Ty.int ao cap l, Ag tyRtView cs v] [] (fun _ : Unit => .bool (decide (Plain v.u l))) (fun _ => []) (fun _ => []) := by
  subst hm
  refine enter Try.func68 rfl Try.ntmps68 rfl fun b => ?_
  refine GX.wR ?_; intros
  refine GX.nmP 2 ?_; rintro b2 rfl
  refine GX.o (cl (containsFunc_spec ao cap l 78 [.pointer (some ⟨b2, 0, none⟩)] [Pt tyRtView b2 0 v] [] (fun n => decide (¬ RtM.of v.u n = -2)) (fun n _ => plain1_spec b2 v n)) fun _ => ?_)
  rw [any_dec]
  refine GX.wR ?_; intros
  exact rt1 () (vI Classical.not_not.symm)
theorem refs_spec (cs : List Value) (v : RtView) (ao : Option Addr) (cap m : Nat) (l : List Int) (hm : m = l.length) : Does Try.prog 69 [.agg cs.toArray, .slice ao m cap] [Sl Ty.int ao cap l, Ag tyRtView cs v] [] (fun _ : Unit => .bool (decide (Refs v.u l))) (fun _ => []) (fun _ => []) := by
  subst hm
  refine enter Try.func69 rfl Try.ntmps69 rfl fun b => ?_
  refine GX.wR ?_; intros
  refine GX.nmP 2 ?_; rintro b2 rfl
  refine GX.o (cl (containsFunc_spec ao cap l 79 [.pointer (some ⟨b2, 0, none⟩)] [Pt tyRtView b2 0 v] [] (fun n => decide (¬ IsRef (RtM.of v.u n))) (fun n _ => refs1_spec b2 v n)) fun _ => ?_)
  rw [any_dec]
  refine GX.wR ?_; intros
  exact rt1 () (vI Classical.not_not.symm)
theorem place_spec (cs : List Value) (v : RtView) (n : Int) : Does Try.prog 83 [.agg cs.toArray, .int .i64 n] [Ag tyRtView cs v] [] (fun _ : Unit => .bool (decide (RtM.Place v.u n))) (fun _ => []) (fun _ => []) := by
  refine enter Try.func83 rfl Try.ntmps83 rfl fun b => ?_
  by_cases h : 0 ≤ n
  · refine GX.wR ?_; intros
    exact rt1 () (vI ⟨fun h => h.2, fun h2 => ⟨h, h2⟩⟩)
  · refine GX.wR ?_; intros
    exact rt1 () (vN fun h2 => h h2.1)
end Go.Proofs.Ytfhbainbmipddaa
