import Derived.Test.YtomfpmbapdhbgaaGreatP1
import Derived.Test.YtomfpmbapdhbgaaGreatP10
import Derived.Test.YtomfpmbapdhbgaaGreatP14
import Derived.Test.YtomfpmbapdhbgaaGreatP15
import Derived.Test.YtomfpmbapdhbgaaGreatP16
/- The walks over guard's small functions: some, all, minus. -/
namespace Go.Proofs.YtomfpmbapdhbgaaGreat
open Go Go.RR Go.RX Go.GX Go.Api Go.GuaM
attribute [local irreducible] wpList Code.wp wpPlan Exit.then Exit.inBlock bodyPost NoPanic Went GX.Post GX.Again GX.Meet GX.RowR GX.Own GX.Owns GX.Box GX.Sl GX.Pt GX.Ag GX.MapR GX.Kept GX.Pin wpT GoK AtEnd Both
theorem any_dec' {P : Int → Prop} [DecidablePred P] (l : List Int) : (l.any fun x => decide (P x)) = decide (∃ n ∈ l, P n) := by
  rw [Bool.eq_iff_iff, List.any_eq_true, decide_eq_true_eq]
  simp only [decide_eq_true_eq]
theorem kept_minus (xs ys : List Int) : kept (fun n => decide (n ∈ ys)) xs xs.length = minus xs ys := by
  unfold kept minus
  rw [List.take_length]
  congr 1
  funext n
  by_cases h : n ∈ ys <;> simp [h]
theorem some1_spec (bl : Nat) (l : List Int) (n : Int) : Does Tryz.prog 116 [.int .i64 n, .pointer (some ⟨bl, 0, none⟩)] [Pt (Ty.slice Ty.int) bl 0 l] [] (fun _ : Unit => .bool (decide (n ∈ l))) (fun _ => []) (fun _ => []) := by
  refine enter Tryz.func116 rfl Tryz.ntmps116 rfl fun b => ?_
  refine GX.wR ?_; intros
  refine GX.o (cl (contains_spec _ _ l n) fun _ => ?_)
  refine GX.wR ?_; intros
  exact rt1 () rfl
theorem all1_spec (bl : Nat) (l : List Int) (n : Int) : Does Tryz.prog 123 [.int .i64 n, .pointer (some ⟨bl, 0, none⟩)] [Pt (Ty.slice Ty.int) bl 0 l] [] (fun _ : Unit => .bool (decide (¬ n ∈ l))) (fun _ => []) (fun _ => []) := by
  refine enter Tryz.func123 rfl Tryz.ntmps123 rfl fun b => ?_
  refine GX.wR ?_; intros
  refine GX.o (cl (contains_spec _ _ l n) fun _ => ?_)
  refine GX.wR ?_; intros
  exact rt1 () rfl
theorem minus1_spec (bl : Nat) (l : List Int) (n : Int) : Does Tryz.prog 122 [.int .i64 n, .pointer (some ⟨bl, 0, none⟩)] [Pt (Ty.slice Ty.int) bl 0 l] [] (fun _ : Unit => .bool (decide (n ∈ l))) (fun _ => []) (fun _ => []) := by
  refine enter Tryz.func122 rfl Tryz.ntmps122 rfl fun b => ?_
  refine GX.wR ?_; intros
  refine GX.o (cl (contains_spec _ _ l n) fun _ => ?_)
  refine GX.wR ?_; intros
  exact rt1 () rfl
theorem gsome_spec (a1 a2 : Option Addr) (c1 c2 : Nat) (l m : List Int) : Does Tryz.prog 85 [.slice a1 l.length c1, .slice a2 m.length c2] [Sl Ty.int a1 c1 l, Sl Ty.int a2 c2 m] []
    (fun _ : Unit => .bool (decide (∃ n ∈ l, n ∈ m))) (fun _ => []) (fun _ => []) := by
  refine enter Tryz.func85 rfl Tryz.ntmps85 rfl fun b => ?_
  refine GX.wR ?_; intros
  refine GX.nmP 3 ?_; rintro b3 rfl
  refine frzS b3 Ty.int m ?_
  refine GX.o (cl (containsFunc_spec a1 c1 l 116 [.pointer (some ⟨b3, 0, none⟩)] [Pt (Ty.slice Ty.int) b3 0 m] [] (fun n => decide (n ∈ m)) (fun n _ => some1_spec b3 m n)) fun _ => ?_)
  rw [any_dec']
  refine GX.wR ?_; intros
  exact rt1 () rfl
theorem gall_spec (a1 a2 : Option Addr) (c1 c2 : Nat) (l m : List Int) : Does Tryz.prog 89 [.slice a1 l.length c1, .slice a2 m.length c2] [Sl Ty.int a1 c1 l, Sl Ty.int a2 c2 m] []
    (fun _ : Unit => .bool (decide (∀ n ∈ l, n ∈ m))) (fun _ => []) (fun _ => []) := by
  refine enter Tryz.func89 rfl Tryz.ntmps89 rfl fun b => ?_
  refine GX.wR ?_; intros
  refine GX.nmP 3 ?_; rintro b3 rfl
  refine frzS b3 Ty.int m ?_
  refine GX.o (cl (containsFunc_spec a1 c1 l 123 [.pointer (some ⟨b3, 0, none⟩)] [Pt (Ty.slice Ty.int) b3 0 m] [] (fun n => decide (¬ n ∈ m)) (fun n _ => all1_spec b3 m n)) fun _ => ?_)
  have e : (l.any fun n => decide (¬ n ∈ m)) = decide (¬ ∀ n ∈ l, n ∈ m) := by
    rw [Bool.eq_iff_iff, List.any_eq_true]
    simp
  rw [e]
  refine GX.wR ?_; intros
  exact rt1 () (congrArg Value.bool (decide_eq_decide.2 Classical.not_not.symm))
theorem gminus_spec (a1 a2 : Option Addr) (c1 c2 : Nat) (l m : List Int) (hl : l.length ≤ 1000000) : Does Tryz.prog 88 [.slice a1 l.length c1, .slice a2 m.length c2] [Sl Ty.int a1 c1 l, Sl Ty.int a2 c2 m] []
    (fun s : Option Addr × Nat => .slice s.1 (minus l m).length s.2) (fun s => [Sl Ty.int s.1 s.2 (minus l m)]) (fun _ => []) := by
  refine enter Tryz.func88 rfl Tryz.ntmps88 rfl fun b => ?_
  refine GX.wR ?_; intros
  refine GX.nmP 3 ?_; rintro b3 rfl
  refine frzS b3 Ty.int m ?_
  refine GX.o (cl (clone_spec a1 c1 l (by omega)) fun s => ?_)
  obtain ⟨ao, cap⟩ := s
  dsimp only
  refine GX.wR ?_; intros
  refine GX.o (cl (deleteFunc_spec ao cap l 122 [.pointer (some ⟨b3, 0, none⟩)] [Pt (Ty.slice Ty.int) b3 0 m] [] (fun n => decide (n ∈ m)) (fun n _ => minus1_spec b3 m n)) fun _ => ?_)
  rw [kept_minus]
  refine frz ao ?_
  refine GX.wR ?_; intros
  exact rt1 (ao, cap) rfl
end Go.Proofs.YtomfpmbapdhbgaaGreat

/- The walks over the small functions of package rt. -/
namespace Go.Proofs.YtomfpmbapdhbgaaGreat
open Go Go.RR Go.RX Go.GX Go.Api Go.RiseM Go.ReachM Go.RtM
attribute [local irreducible] wpList Code.wp wpPlan Exit.then Exit.inBlock bodyPost NoPanic Went GX.Post GX.Again GX.Meet GX.RowR GX.Own GX.Owns GX.Box GX.Sl GX.Pt GX.Ag GX.MapR GX.Kept GX.Pin wpT GoK AtEnd Both

theorem vY {P : Prop} [Decidable P] (h : P) : Value.bool (decide P) = .bool true := by rw [decide_eq_true h]
theorem vN {P : Prop} [Decidable P] (h : ¬ P) : Value.bool (decide P) = .bool false := by rw [decide_eq_false h]
theorem vI {P Q : Prop} [Decidable P] [Decidable Q] (h : P ↔ Q) : Value.bool (decide P) = .bool (decide Q) := by rw [decide_eq_decide.2 h]
theorem any_dec {P : Int → Prop} [DecidablePred P] (l : List Int) : (l.any fun x => decide (¬ P x)) = decide (¬ ∀ n ∈ l, P n) := by
  rw [Bool.eq_iff_iff, List.any_eq_true, decide_eq_true_eq]
  simp only [decide_eq_true_eq, Classical.not_forall, exists_prop]

theorem isClass_spec (cs : List Value) (t : RTg) (n : Int) : Does Tryz.prog 70 [.agg cs.toArray, .int .i64 n] [Ag tyRTg cs t] [] (fun _ : Unit => .bool (decide (IsClass t n))) (fun _ => []) (fun _ => []) := by
  refine enter Tryz.func70 rfl Tryz.ntmps70 rfl fun b => ?_
  by_cases h : 0 ≤ n
  · refine GX.wR ?_; intros
    exact rt1 () (vI ⟨fun h => h.2, fun h2 => ⟨h, h2⟩⟩)
  · refine GX.wR ?_; intros
    exact rt1 () (vN fun h2 => h h2.1)
theorem isEntry_spec (cs : List Value) (t : RTg) (n : Int) : Does Tryz.prog 46 [.agg cs.toArray, .int .i64 n] [Ag tyRTg cs t] [] (fun _ : Unit => .bool (decide (IsEntry t n))) (fun _ => []) (fun _ => []) := by
  refine enter Tryz.func46 rfl Tryz.ntmps46 rfl fun b => ?_
  refine GX.wR ?_; intros
  refine GX.o (cl (isClass_spec _ t n) fun _ => ?_)
  by_cases h : IsClass t n
  · refine GX.wR ?_; intros
    exact rt1 () (vY (.inl h))
  · by_cases h2 : n = -1
    · refine GX.wR ?_; intros
      exact rt1 () (vY (.inr (.inl h2)))
    · refine GX.wR ?_; intros
      exact rt1 () (vI ⟨fun h3 => h3.elim (fun h3 => absurd h3 h) fun h3 => h3.elim (fun h3 => absurd h3 h2) id, fun h3 => .inr (.inr h3)⟩)
theorem entries1_spec (bl : Nat) (t : RTg) (n : Int) : Does Tryz.prog 45 [.int .i64 n, .pointer (some ⟨bl, 0, none⟩)] [Pt tyRTg bl 0 t] [] (fun _ : Unit => .bool (decide (¬ IsEntry t n))) (fun _ => []) (fun _ => []) := by
  refine enter Tryz.func45 rfl Tryz.ntmps45 rfl fun b => ?_
  refine GX.wR ?_; intros
  refine GX.o (cl (isEntry_spec _ t n) fun _ => ?_)
  refine GX.wR ?_; intros
  exact rt1 () rfl
theorem entries_spec (cs : List Value) (t : RTg) (ao : Option Addr) (cap : Nat) (l : List Int) : Does Tryz.prog 22 [.agg cs.toArray, .slice ao l.length cap] [Sl Ty.int ao cap l, Ag tyRTg cs t] [] (fun _ : Unit => .bool (decide (Entries t l))) (fun _ => []) (fun _ => []) := by
  refine enter Tryz.func22 rfl Tryz.ntmps22 rfl fun b => ?_
  refine GX.wR ?_; intros
  refine GX.nmP 2 ?_; rintro b2 rfl
  refine GX.o (cl (containsFunc_spec ao cap l 45 [.pointer (some ⟨b2, 0, none⟩)] [Pt tyRTg b2 0 t] [] (fun n => decide (¬ IsEntry t n)) (fun n _ => entries1_spec b2 t n)) fun _ => ?_)
  rw [any_dec]
  refine GX.wR ?_; intros
  exact rt1 () (vI Classical.not_not.symm)
theorem isRef_spec (e : Int) : Does Tryz.prog 126 [.int .i64 e] [] [] (fun _ : Unit => .bool (decide (IsRef e))) (fun _ => []) (fun _ => []) := by
  refine enter Tryz.func126 rfl Tryz.ntmps126 rfl fun b => ?_
  refine GX.wR ?_; intros
  exact rt1 () rfl
theorem into_spec (a c : Int) : Does Tryz.prog 104 [.int .i64 a, .int .i64 c] [] [] (fun _ : Unit => .bool (decide (Into a c))) (fun _ => []) (fun _ => []) := by
  refine enter Tryz.func104 rfl Tryz.ntmps104 rfl fun b => ?_
  refine GX.wR ?_; intros
  refine GX.o (cl (isRef_spec a) fun _ => ?_)
  have e : Into a c ↔ if -1 ≤ a then -1 ≤ c ∧ (c = a ∨ c = -1) else a = -2 ∧ c = -2 := Iff.rfl
  by_cases h : IsRef a
  · rw [if_pos h] at e
    refine GX.wR ?_; intros
    refine GX.o (cl (isRef_spec c) fun _ => ?_)
    by_cases h2 : IsRef c
    · by_cases h3 : c = a
      · refine GX.wR ?_; intros
        exact rt1 () (vY (e.2 ⟨h2, .inl h3⟩))
      · refine GX.wR ?_; intros
        exact rt1 () (vI (e.trans ⟨fun h4 => h4.2.elim (fun h5 => absurd h5 h3) id, fun h4 => ⟨h2, .inr h4⟩⟩))
    · refine GX.wR ?_; intros
      exact rt1 () (vN fun h4 => h2 (e.1 h4).1)
  · rw [if_neg h] at e
    by_cases h2 : a = -2
    · refine GX.wR ?_; intros
      exact rt1 () (vI (e.trans ⟨fun h3 => h3.2, fun h3 => ⟨h2, h3⟩⟩))
    · refine GX.wR ?_; intros
      exact rt1 () (vN fun h4 => h2 (e.1 h4).1)
theorem of_spec (cs : List Value) (v : RtView) (n : Int) : Does Tryz.prog 105 [.agg cs.toArray, .int .i64 n] [Ag tyRtView cs v] [] (fun _ : Unit => .int .i64 (RtM.of v.u n)) (fun _ => []) (fun _ => []) := by
  refine enter Tryz.func105 rfl Tryz.ntmps105 rfl fun b => ?_
  by_cases h : n < 0
  · have e : RtM.of v.u n = -3 := by unfold RtM.of; rw [gt_out (.inl h)]; rfl
    rw [e]
    refine GX.wR ?_; intros
    exact rt1 () rfl
  · by_cases h2 : (v.u.vars.length : Int) ≤ n
    · have e : RtM.of v.u n = -3 := by unfold RtM.of; rw [gt_out (.inr h2)]; rfl
      rw [e]
      refine GX.wR ?_; intros
      exact rt1 () rfl
    · obtain ⟨x, hx, k, rfl, hk, hx2⟩ := gt_in (l := v.u.vars) (n := n) ⟨by omega, by omega⟩
      have e : RtM.of v.u k = x := by unfold RtM.of; rw [hx]; rfl
      rw [e]
      refine GX.wR ?_; intros
      exact rt1 () rfl
theorem plain1_spec (bl : Nat) (v : RtView) (n : Int) : Does Tryz.prog 124 [.int .i64 n, .pointer (some ⟨bl, 0, none⟩)] [Pt tyRtView bl 0 v] [] (fun _ : Unit => .bool (decide (¬ RtM.of v.u n = -2))) (fun _ => []) (fun _ => []) := by
  refine enter Tryz.func124 rfl Tryz.ntmps124 rfl fun b => ?_
  refine GX.wR ?_; intros
  refine GX.o (cl (of_spec _ v n) fun _ => ?_)
  refine GX.wR ?_; intros
  exact rt1 () rfl
theorem refs1_spec (bl : Nat) (v : RtView) (n : Int) : Does Tryz.prog 125 [.int .i64 n, .pointer (some ⟨bl, 0, none⟩)] [Pt tyRtView bl 0 v] [] (fun _ : Unit => .bool (decide (¬ IsRef (RtM.of v.u n)))) (fun _ => []) (fun _ => []) := by
  refine enter Tryz.func125 rfl Tryz.ntmps125 rfl fun b => ?_
  refine GX.wR ?_; intros
  refine GX.o (cl (of_spec _ v n) fun _ => ?_)
  refine GX.wR ?_; intros
  refine GX.o (cl (isRef_spec _) fun _ => ?_)
  refine GX.wR ?_; intros
  exact rt1 () rfl
theorem plain_spec (cs : List Value) (v : RtView) (ao : Option Addr) (cap m : Nat) (l : List Int) (hm : m = l.length) : Does Tryz.prog 102 [.agg cs.toArray, .slice ao m cap] [Sl Ty.int ao cap l, Ag tyRtView cs v] [] (fun _ : Unit => .bool (decide (Plain v.u l))) (fun _ => []) (fun _ => []) := by
  subst hm
  refine enter Tryz.func102 rfl Tryz.ntmps102 rfl fun b => ?_
  refine GX.wR ?_; intros
  refine GX.nmP 2 ?_; rintro b2 rfl
  refine GX.o (cl (containsFunc_spec ao cap l 124 [.pointer (some ⟨b2, 0, none⟩)] [Pt tyRtView b2 0 v] [] (fun n => decide (¬ RtM.of v.u n = -2)) (fun n _ => plain1_spec b2 v n)) fun _ => ?_)
  rw [any_dec]
  refine GX.wR ?_; intros
  exact rt1 () (vI Classical.not_not.symm)
theorem refs_spec (cs : List Value) (v : RtView) (ao : Option Addr) (cap m : Nat) (l : List Int) (hm : m = l.length) : Does Tryz.prog 103 [.agg cs.toArray, .slice ao m cap] [Sl Ty.int ao cap l, Ag tyRtView cs v] [] (fun _ : Unit => .bool (decide (Refs v.u l))) (fun _ => []) (fun _ => []) := by
  subst hm
  refine enter Tryz.func103 rfl Tryz.ntmps103 rfl fun b => ?_
  refine GX.wR ?_; intros
  refine GX.nmP 2 ?_; rintro b2 rfl
  refine GX.o (cl (containsFunc_spec ao cap l 125 [.pointer (some ⟨b2, 0, none⟩)] [Pt tyRtView b2 0 v] [] (fun n => decide (¬ IsRef (RtM.of v.u n))) (fun n _ => refs1_spec b2 v n)) fun _ => ?_)
  rw [any_dec]
  refine GX.wR ?_; intros
  exact rt1 () (vI Classical.not_not.symm)
theorem place_spec (cs : List Value) (v : RtView) (n : Int) : Does Tryz.prog 129 [.agg cs.toArray, .int .i64 n] [Ag tyRtView cs v] [] (fun _ : Unit => .bool (decide (RtM.Place v.u n))) (fun _ => []) (fun _ => []) := by
  refine enter Tryz.func129 rfl Tryz.ntmps129 rfl fun b => ?_
  by_cases h : 0 ≤ n
  · refine GX.wR ?_; intros
    exact rt1 () (vI ⟨fun h => h.2, fun h2 => ⟨h, h2⟩⟩)
  · refine GX.wR ?_; intros
    exact rt1 () (vN fun h2 => h h2.1)
end Go.Proofs.YtomfpmbapdhbgaaGreat

/- The walks over From of package reach and of its reference. -/
namespace Go.Proofs.YtomfpmbapdhbgaaGreat
open Go Go.RR Go.RX Go.GX Go.RiseM Go.ReachM
attribute [local irreducible] wpList Code.wp wpPlan Exit.then Exit.inBlock bodyPost NoPanic Went GX.Post GX.Again GX.Meet GX.RowR GX.Own GX.Owns GX.Box GX.Sl GX.Pt GX.Ag GX.MapR GX.Kept GX.Pin wpT GoK AtEnd Both

theorem isClassR_spec (ao : Option Addr) (cap : Nat) (f : List (List Int)) (c : Int) : Does Tryz.prog 76 [.slice ao f.length cap, .int .i64 c] [Sl (Ty.slice Ty.int) ao cap f] []
    (fun _ : Unit => .bool (decide (0 ≤ c ∧ c < f.length))) (fun _ => []) (fun _ => []) := by
  refine enter Tryz.func76 rfl Tryz.ntmps76 rfl fun b => ?_
  by_cases h1 : 0 ≤ c
  · have e : decide (0 ≤ c ∧ c < f.length) = decide (c < f.length) := decide_eq_decide.2 ⟨fun h => h.2, fun h => ⟨h1, h⟩⟩
    rw [e]
    refine GX.wR ?_; intros
    exact rt1 () rfl
  · have e : decide (0 ≤ c ∧ c < f.length) = false := decide_eq_false fun h => h1 h.1
    rw [e]
    refine GX.wR ?_; intros
    exact rt1 () rfl
theorem below_spec (v n : Int) : Does Tryz.prog 93 [.int .i64 v, .int .i64 n] [] []
    (fun _ : Unit => .bool (decide (0 ≤ v ∧ v < n))) (fun _ => []) (fun _ => []) := by
  refine enter Tryz.func93 rfl Tryz.ntmps93 rfl fun b => ?_
  by_cases h1 : 0 ≤ v
  · have e : decide (0 ≤ v ∧ v < n) = decide (v < n) := decide_eq_decide.2 ⟨fun h => h.2, fun h => ⟨h1, h⟩⟩
    rw [e]
    refine GX.wR ?_; intros
    exact rt1 () rfl
  · have e : decide (0 ≤ v ∧ v < n) = false := decide_eq_false fun h => h1 h.1
    rw [e]
    refine GX.wR ?_; intros
    exact rt1 () rfl

structure RcS where
  m : List Bool
  w : List Int
  ao : Option Addr
  cap : Nat
structure LiS where
  i : Nat
  ao : Option Addr
  cap : Nat
/-- How much there is in all. -/
def total (f : List (List Int)) : Nat := (f.map List.length).sum

set_option maxHeartbeats 1000000 in
theorem from_spec (ao ar : Option Addr) (cap car : Nat) (f : List (List Int)) (r : List Int) (hf : f.length ≤ 1073741824) (ht : total f ≤ 1073741824) (hr : r.length ≤ 1073741824) : Does Tryz.prog 48 [.slice ao f.length cap, .slice ar r.length car] [Sl (Ty.slice Ty.int) ao cap f, Sl Ty.int ar car r] []
    (fun s : Option Addr × Nat => .slice s.1 (fromL f r).length s.2) (fun _ => []) (fun s => [GX.Own 3 Ty.int s.1 s.2 (fromL f r)]) := by
  refine enter Tryz.func48 rfl Tryz.ntmps48 rfl fun b => ?_
  refine GX.wR ?_; intros
  refine GX.nmB 5 ?_; rintro b5 rfl
  refine GX.o (cl (clone_spec ar car r (by omega)) fun s => ?_)
  obtain ⟨a6, c6⟩ := s
  dsimp only
  refine GX.wR ?_; intros
  have hw0 := wt_rep f f.length
  refine GX.loop (σ := RcS) (fun s => [(0, .slice ao f.length cap), (5, .slice (some ⟨b5, 0, none⟩) f.length f.length), (6, .slice s.ao s.w.length s.cap)]) (fun _ => [])
    (fun s => [GX.Own 4 Ty.bool (some ⟨b5, 0, none⟩) f.length s.m, GX.Own 3 Ty.int s.ao s.cap s.w]) (fun s => Wk f r s.m s.w ∧ s.w.length + wt f s.m ≤ r.length + total f) (fun s => s.w.length + wt f s.m)
    ⟨List.replicate f.length false, r, a6, c6⟩ ⟨rfl, rfl, rfl, trivial⟩ ⟨Wk.first f r, by dsimp only [total]; omega⟩ (fun s hs => ?_)
  obtain ⟨m, w, aw, cw⟩ := s
  obtain ⟨hW, hc⟩ := hs
  dsimp only at *
  have hll := hW.len
  rcases List.eq_nil_or_concat w with rfl | ⟨w, x, rfl⟩
  · rw [← hW.done, List.length_nil]
    refine GX.wR ?_; intros
    refine ownNil 3 Ty.int ?_
    rw [hll]
    refine GX.loop (σ := LiS) (fun s => [(8, .slice s.ao (marked m s.i).length s.cap), (49, .slice (some ⟨b5, 0, none⟩) f.length f.length), (50, .int .i64 (f.length : Int)), (51, .int .i64 (s.i : Int))]) (fun _ => [])
      (fun s => [GX.Own 4 Ty.bool (some ⟨b5, 0, none⟩) f.length m, GX.Own 3 Ty.int s.ao s.cap (marked m s.i)]) (fun s => s.i ≤ f.length) (fun s => f.length - s.i) ⟨0, none, 0⟩ ⟨rfl, rfl, rfl, rfl, trivial⟩ (by simp) (fun s hs => ?_)
    obtain ⟨i, al, cl'⟩ := s
    dsimp only at *
    have hml := marked_len m i
    have hms := marked_succ m i
    by_cases hlt : i < f.length
    · obtain ⟨v, hv⟩ := get_lt (show i < m.length by omega)
      cases v with
      | true =>
        rw [if_pos hv] at hms
        refine GX.wR ?_; intros
        rw [← hms]
        refine GX.nmS 8 ?_; rintro a8 c8 rfl rfl
        refine GX.wR ?_; intros
        exact again ⟨i + 1, a8, c8⟩ ⟨rfl, rfl, rfl, rfl, trivial⟩ (by dsimp only; omega) (by dsimp only; omega)
      | false =>
        rw [if_neg (by rw [hv]; simp), List.append_nil] at hms
        refine GX.wR ?_; intros
        exact again ⟨i + 1, al, cl'⟩ ⟨by dsimp only; rw [hms]; rfl, rfl, rfl, rfl, trivial⟩ (by dsimp only; omega) (by dsimp only; omega) (h2 := by dsimp only; rw [hms]; first | ((repeat (first | apply Go.GX.SelR.nil | apply Go.GX.SelR.cons | (with_reducible apply Go.GX.TakeR.head) | apply Go.GX.TakeR.tail)); done) | (repeat (first | apply Go.GX.SelR.nil | apply Go.GX.SelR.cons | apply Go.GX.TakeR.head | apply Go.GX.TakeR.tail)))
    · have hil : i = f.length := by omega
      subst hil
      refine GX.wR ?_; intros
      exact rt1 (al, cl') rfl
  · rw [List.concat_eq_append] at *
    have hwl : (w ++ [x]).length = w.length + 1 := by simp
    have hxi : (w ++ [x])[w.length]? = some x := by simp
    refine GX.opn aw fun g1 g2 ha => ?_
    obtain ⟨h1, _⟩ | ⟨g, rfl⟩ := ha
    · simp at h1
    rw [hwl] at hc g1 ⊢
    refine GX.wR ?_; intros
    refine GX.o (oh ?_)
    refine ownTake (some ⟨g, 0, none⟩) w.length ?_
    rw [List.take_left' rfl]
    refine GX.wR ?_; intros
    refine GX.o (cl (isClassR_spec ao cap f x) fun _ => ?_)
    by_cases hx : 0 ≤ x ∧ x < f.length
    · obtain ⟨c, rfl⟩ := Int.eq_ofNat_of_zero_le hx.1
      obtain ⟨l, hl⟩ := get_lt (show c < f.length by omega)
      obtain ⟨v, hv⟩ := get_lt (show c < m.length by omega)
      cases v with
      | true =>
        refine GX.wR ?_; intros
        exact again ⟨m, w, some ⟨g, 0, none⟩, cw⟩ ⟨rfl, rfl, rfl, trivial⟩ ⟨hW.drop fun d hd _ => (show c = d by omega) ▸ hv, by dsimp only; omega⟩ (by dsimp only; omega)
      | false =>
        have hws := wt_set hl hv
        have hwl2 : (w ++ l).length = w.length + l.length := List.length_append
        have htl : total f ≤ 1073741824 := ht
        refine GX.wR ?_; intros
        refine GX.nmS 6 ?_; rintro a8 c8 rfl rfl
        exact again ⟨m.set c true, w ++ l, a8, c8⟩ ⟨rfl, rfl, rfl, trivial⟩ ⟨hW.mark hl, by dsimp only; omega⟩ (by dsimp only; omega)
    · refine GX.wR ?_; intros
      exact again ⟨m, w, some ⟨g, 0, none⟩, cw⟩ ⟨rfl, rfl, rfl, trivial⟩ ⟨hW.drop fun d hd h => absurd ⟨by omega, by omega⟩ hx, by dsimp only; omega⟩ (by dsimp only; omega)

theorem list_spec (ao : Option Addr) (cap : Nat) (m : List Bool) (hm : m.length ≤ 1073741824) : Does Tryz.prog 94 [.slice ao m.length cap] [Sl Ty.bool ao cap m] []
    (fun s : Option Addr × Nat => .slice s.1 (marked m m.length).length s.2) (fun _ => []) (fun s => [GX.Own 3 Ty.int s.1 s.2 (marked m m.length)]) := by
  refine enter Tryz.func94 rfl Tryz.ntmps94 rfl fun b => ?_
  refine GX.wR ?_; intros
  refine ownNil 3 Ty.int ?_
  refine GX.loop (σ := LiS) (fun s => [(0, .slice ao m.length cap), (3, .slice s.ao (marked m s.i).length s.cap), (4, .int .i64 (s.i : Int))]) (fun _ => [])
    (fun s => [GX.Own 3 Ty.int s.ao s.cap (marked m s.i)]) (fun s => s.i ≤ m.length) (fun s => m.length - s.i) ⟨0, none, 0⟩ ⟨rfl, rfl, rfl, trivial⟩ (by simp) (fun s hs => ?_)
  obtain ⟨i, al, cl'⟩ := s
  dsimp only at *
  have hml := marked_len m i
  have hms := marked_succ m i
  by_cases hlt : i < m.length
  · obtain ⟨v, hv⟩ := get_lt hlt
    cases v with
    | true =>
      rw [if_pos hv] at hms
      refine GX.wR ?_; intros
      rw [← hms]
      refine GX.nmS 3 ?_; rintro a8 c8 rfl rfl
      refine GX.wR ?_; intros
      exact again ⟨i + 1, a8, c8⟩ ⟨rfl, rfl, rfl, trivial⟩ (by dsimp only; omega) (by dsimp only; omega)
    | false =>
      rw [if_neg (by rw [hv]; simp), List.append_nil] at hms
      refine GX.wR ?_; intros
      exact again ⟨i + 1, al, cl'⟩ ⟨rfl, by dsimp only; rw [hms]; rfl, rfl, trivial⟩ (by dsimp only; omega) (by dsimp only; omega) (h2 := by dsimp only; rw [hms]; first | ((repeat (first | apply Go.GX.SelR.nil | apply Go.GX.SelR.cons | (with_reducible apply Go.GX.TakeR.head) | apply Go.GX.TakeR.tail)); done) | (repeat (first | apply Go.GX.SelR.nil | apply Go.GX.SelR.cons | apply Go.GX.TakeR.head | apply Go.GX.TakeR.tail)))
  · have hil : i = m.length := by omega
    subst hil
    refine GX.wR ?_; intros
    exact rt1 (al, cl') rfl

structure RfS where
  more : Bool
  m : List Bool
  i : Nat
  j : Nat
structure Rt0 (f : List (List Int)) (r : List Int) (m : List Bool) (i : Nat) : Prop where
  len : m.length = f.length
  sound : ∀ c : Nat, m[c]? = some true → RC f r c
  roots : ∀ c : Nat, (c : Int) ∈ r.take i → c < f.length → m[c]? = some true
set_option maxHeartbeats 1000000 in
theorem rfrom_spec (ao ar : Option Addr) (cap car : Nat) (f : List (List Int)) (r : List Int) (hf : f.length ≤ 1073741824) : Does Tryz.prog 62 [.slice ao f.length cap, .slice ar r.length car] [Sl (Ty.slice Ty.int) ao cap f, Sl Ty.int ar car r] []
    (fun s : Option Addr × Nat => .slice s.1 (fromL f r).length s.2) (fun _ => []) (fun s => [GX.Own 3 Ty.int s.1 s.2 (fromL f r)]) := by
  refine enter Tryz.func62 rfl Tryz.ntmps62 rfl fun b => ?_
  refine sln ar fun hr1 hr2 _ => ?_
  refine GX.wR ?_; intros
  refine GX.nmB 5 ?_; rintro b5 rfl
  refine GX.loop (σ := RfS) (fun s => [(0, .slice ao f.length cap), (1, .slice ar r.length car), (5, .slice (some ⟨b5, 0, none⟩) f.length f.length), (6, .int .i64 (s.i : Int))]) (fun _ => [])
    (fun s => [GX.Own 4 Ty.bool (some ⟨b5, 0, none⟩) f.length s.m]) (fun s => s.i ≤ r.length ∧ Rt0 f r s.m s.i) (fun s => r.length - s.i)
    ⟨false, List.replicate f.length false, 0, 0⟩ ⟨rfl, rfl, rfl, rfl, trivial⟩ ⟨by simp, by simp, fun c h => by rw [List.getElem?_replicate] at h; split at h <;> simp at h, fun c h => by simp at h⟩ (fun s hs => ?_)
  obtain ⟨_, m, i, _⟩ := s
  obtain ⟨hi, hR⟩ := hs
  dsimp only at *
  have hll := hR.len
  by_cases hlt : i < r.length
  · obtain ⟨x, hx⟩ := get_lt hlt
    refine GX.wR ?_; intros
    refine GX.o (cl (below_spec x f.length) fun _ => ?_)
    have hout : ∀ c : Nat, (c : Int) ∈ r.take (i + 1) → (c : Int) ∈ r.take i ∨ (c : Int) = x := fun c h => by
      rw [List.take_add_one, hx, List.mem_append] at h
      exact h.imp id (fun h => by simpa using h)
    by_cases hb : 0 ≤ x ∧ x < (f.length : Int)
    · obtain ⟨c, rfl⟩ := Int.eq_ofNat_of_zero_le hb.1
      have hcl : c < m.length := by omega
      refine GX.wR ?_; intros
      refine again ⟨false, m.set c true, i + 1, 0⟩ ⟨rfl, rfl, rfl, rfl, trivial⟩ ⟨by dsimp only; omega, by rw [List.length_set]; exact hll, fun d hd => ?_, fun d hd hdl => ?_⟩ (by dsimp only; omega)
      · rcases ReachM.set_back hd with rfl | hd
        · exact .root (List.mem_of_getElem? hx) (by omega)
        · exact hR.sound d hd
      · rcases hout d hd with h | h
        · exact set_true (hR.roots d h hdl)
        · obtain rfl : d = c := by omega
          dsimp only
          rw [List.getElem?_set_self hcl]
    · refine GX.wR ?_; intros
      refine again ⟨false, m, i + 1, 0⟩ ⟨rfl, rfl, rfl, rfl, trivial⟩ ⟨by dsimp only; omega, hll, hR.sound, fun d hd hdl => ?_⟩ (by dsimp only; omega)
      rcases hout d hd with h | h
      · exact hR.roots d h hdl
      · exact absurd ⟨by omega, by omega⟩ hb
  · have hil : i = r.length := by omega
    subst hil
    have hroots := hR.roots
    rw [List.take_length] at hroots
    have hsound := hR.sound
    clear hR hi hlt
    refine GX.wR ?_; intros
    refine GX.loop (σ := RfS) (fun s => [(0, .slice ao f.length cap), (5, .slice (some ⟨b5, 0, none⟩) f.length f.length), (7, .bool s.more)]) (fun _ => [])
      (fun s => [GX.Own 4 Ty.bool (some ⟨b5, 0, none⟩) f.length s.m]) (fun s => s.m.length = f.length ∧ (∀ c : Nat, s.m[c]? = some true → RC f r c) ∧ (∀ c : Nat, (c : Int) ∈ r → c < f.length → s.m[c]? = some true) ∧ (s.more = false → marked s.m s.m.length = fromL f r)) (fun s => 2 * s.m.count false + (if s.more = true then 1 else 0))
      ⟨true, m, 0, 0⟩ ⟨rfl, rfl, rfl, trivial⟩ ⟨hll, hsound, hroots, fun h => by simp at h⟩ (fun s hs => ?_)
    clear hll hsound hroots
    obtain ⟨more, m, _, _⟩ := s
    obtain ⟨hll, hsound, hroots, hd⟩ := hs
    dsimp only at *
    cases more with
    | false =>
      rw [← hd rfl]
      refine GX.wR ?_; intros
      refine frz (some ⟨b5, 0, none⟩) ?_
      rw [← hll]
      refine GX.o (cl (list_spec (some ⟨b5, 0, none⟩) m.length m (by omega)) fun s => ?_)
      refine GX.wR ?_; intros
      exact rt1 s rfl
    | true =>
      clear hd
      refine GX.wR ?_; intros
      refine GX.loop (σ := RfS) (fun s => [(0, .slice ao f.length cap), (5, .slice (some ⟨b5, 0, none⟩) f.length f.length), (7, .bool s.more), (8, .int .i64 (s.i : Int))]) (fun _ => [])
        (fun s => [GX.Own 4 Ty.bool (some ⟨b5, 0, none⟩) f.length s.m]) (fun s => s.i ≤ f.length ∧ Ps f r (m.count false) s.more s.m s.i 0) (fun s => f.length - s.i)
        ⟨false, m, 0, 0⟩ ⟨rfl, rfl, rfl, rfl, trivial⟩ ⟨by simp, Ps.begin hll hsound hroots⟩ (fun s hs => ?_)
      obtain ⟨more, m2, i, _⟩ := s
      obtain ⟨hi, hP⟩ := hs
      dsimp only at *
      by_cases hlt : i < f.length
      · obtain ⟨l, hl⟩ := get_lt hlt
        refine GX.wR ?_; intros
        refine GX.loop (σ := RfS) (fun s => [(0, .slice ao f.length cap), (5, .slice (some ⟨b5, 0, none⟩) f.length f.length), (7, .bool s.more), (8, .int .i64 (i : Int)), (9, .int .i64 (s.j : Int))]) (fun _ => [])
          (fun s => [GX.Own 4 Ty.bool (some ⟨b5, 0, none⟩) f.length s.m]) (fun s => s.j ≤ l.length ∧ Ps f r (m.count false) s.more s.m i s.j) (fun s => l.length - s.j)
          ⟨more, m2, 0, 0⟩ ⟨rfl, rfl, rfl, rfl, rfl, trivial⟩ ⟨by simp, hP⟩ (fun s hs => ?_)
        clear hP
        obtain ⟨more, m2, _, j⟩ := s
        obtain ⟨hj, hP⟩ := hs
        dsimp only at *
        have hl2 := hP.len
        obtain ⟨v, hv⟩ := get_lt (show i < m2.length by omega)
        by_cases hjl : j < l.length
        · cases v with
          | false =>
            refine GX.wR ?_; intros
            exact again ⟨more, m2, i + 1, 0⟩ ⟨rfl, rfl, rfl, rfl, trivial⟩ ⟨by dsimp only; omega, hP.fin fun h => by rw [hv] at h; simp at h⟩ (by dsimp only; omega)
          | true =>
            obtain ⟨x, hx⟩ := get_lt hjl
            refine GX.wR ?_; intros
            refine GX.o (cl (below_spec x f.length) fun _ => ?_)
            by_cases hb : 0 ≤ x ∧ x < (f.length : Int)
            · obtain ⟨c, rfl⟩ := Int.eq_ofNat_of_zero_le hb.1
              obtain ⟨u, hu⟩ := get_lt (show c < m2.length by omega)
              cases u with
              | true =>
                refine GX.wR ?_; intros
                exact again ⟨more, m2, 0, j + 1⟩ ⟨rfl, rfl, rfl, rfl, rfl, trivial⟩ ⟨by dsimp only; omega, hP.old hl hx fun d hd _ => (show c = d by omega) ▸ hu⟩ (by dsimp only; omega)
              | false =>
                refine GX.wR ?_; intros
                exact again ⟨true, m2.set c true, 0, j + 1⟩ ⟨rfl, rfl, rfl, rfl, rfl, trivial⟩ ⟨by dsimp only; omega, hP.new hl hx hv hu⟩ (by dsimp only; omega)
            · refine GX.wR ?_; intros
              exact again ⟨more, m2, 0, j + 1⟩ ⟨rfl, rfl, rfl, rfl, rfl, trivial⟩ ⟨by dsimp only; omega, hP.old hl hx fun d hd h => absurd ⟨by omega, by omega⟩ hb⟩ (by dsimp only; omega)
        · refine GX.wR ?_; intros
          exact again ⟨more, m2, i + 1, 0⟩ ⟨rfl, rfl, rfl, rfl, trivial⟩ ⟨by dsimp only; omega, hP.fin fun _ k hk => by rw [hl] at hk; cases hk; omega⟩ (by dsimp only; omega)
      · have hil : i = f.length := by omega
        subst hil
        have hless := hP.less
        have hl2 := hP.len
        refine GX.wR ?_; intros
        refine again ⟨more, m2, 0, 0⟩ ⟨rfl, rfl, rfl, trivial⟩ ⟨hl2, hP.sound, hP.roots, fun e => ?_⟩ ?_
        · dsimp only at e; subst e; exact hP.done
        · dsimp only
          rw [if_pos rfl]
          split <;> rename_i e <;> simp only [e] at hless <;> simp at hless <;> omega
end Go.Proofs.YtomfpmbapdhbgaaGreat

/- The walks over package rt: Fields, Global, Out. -/
namespace Go.Proofs.YtomfpmbapdhbgaaGreat
open Go Go.RR Go.RX Go.GX Go.Api Go.RiseM Go.ReachM Go.RtM
attribute [local irreducible] wpList Code.wp wpPlan Exit.then Exit.inBlock bodyPost NoPanic Went GX.Post GX.Again GX.Meet GX.RowR GX.Own GX.Owns GX.Box GX.Sl GX.Pt GX.Ag GX.MapR GX.Kept GX.Pin wpT GoK AtEnd Both

theorem fields_spec (cs : List Value) (t : RTg) (hs : Small t) : Does Tryz.prog 26 [.agg cs.toArray] [Ag tyRTg cs t] []
    (fun s : Option Addr × Nat => .slice s.1 (flds t).length s.2) (fun s => [Sl (Ty.slice Ty.int) s.1 s.2 (flds t)]) (fun _ => []) := by
  have hc := hs.classes
  refine enter Tryz.func26 rfl Tryz.ntmps26 rfl fun b => ?_
  refine GX.wR ?_; intros
  refine GX.nmS 7 ?_; rintro aC cC rfl rfl
  refine ownNil 23 (Ty.slice Ty.int) ?_
  refine GX.loop (σ := Nat × Option Addr × Nat) (fun s => [(3, .slice s.2.1 ((flds t).take s.1).length s.2.2), (7, .slice aC t.classes.length cC), (8, .int .i64 (t.classes.length : Int)), (9, .int .i64 (s.1 : Int))]) (fun _ => [])
    (fun s => [GX.Own 23 (Ty.slice Ty.int) s.2.1 s.2.2 ((flds t).take s.1)]) (fun s => s.1 ≤ t.classes.length) (fun s => t.classes.length - s.1) (0, none, 0) ⟨rfl, rfl, rfl, rfl, trivial⟩ (by simp) (fun s hs2 => ?_)
  obtain ⟨i, aF, cF⟩ := s
  dsimp only at *
  have hfl := flds_len t
  have htl : ((flds t).take i).length = i := by rw [List.length_take]; omega
  by_cases hlt : i < t.classes.length
  · obtain ⟨L, hL⟩ := get_lt hlt
    have hr := hs.ref (List.mem_of_getElem? hL)
    have e : (flds t).take i ++ [L.refs] = (flds t).take (i + 1) := by
      rw [List.take_add_one]; unfold flds; rw [List.getElem?_map, hL]; rfl
    refine GX.wR ?_; intros
    refine GX.nmS 15 ?_; rintro aR cR rfl rfl
    refine GX.o (cl (clone_spec aR cR L.refs (by omega)) fun s => ?_)
    obtain ⟨aN, cN⟩ := s
    dsimp only
    refine frz aN ?_
    refine GX.wR ?_; intros
    rw [e]
    refine GX.nmS 18 ?_; rintro a3 c3 rfl rfl
    refine GX.wR ?_; intros
    exact again (i + 1, a3, c3) ⟨rfl, rfl, rfl, rfl, trivial⟩ (by dsimp only; omega) (by dsimp only; omega)
  · rw [List.take_of_length_le (by omega)]
    refine GX.wR ?_; intros
    refine frz aF ?_
    exact rt1 (aF, cF) rfl
theorem global_spec (cs : List Value) (t : RTg) (hs : Small t) : Does Tryz.prog 25 [.agg cs.toArray] [Ag tyRTg cs t] []
    (fun s : Option Addr × Nat => .slice s.1 (glob t).length s.2) (fun s => [Sl Ty.int s.1 s.2 (glob t)]) (fun _ => []) := by
  have hc := hs.classes
  have hg := hs.globals
  have hr := hs.refs
  have hfl := flds_len t
  refine enter Tryz.func25 rfl Tryz.ntmps25 rfl fun b => ?_
  refine GX.wR ?_; intros
  refine GX.drawn0  (fun j => !(List.contains [4] j)) [(0, true), (2, true), (3, true), (1, false), (4, false), (5, true)] rfl (by kernel_rfl) (by kernel_rfl) (by first | ((repeat (first | apply Go.GX.SelR.nil | apply Go.GX.SelR.cons | (with_reducible apply Go.GX.TakeR.head) | apply Go.GX.TakeR.tail)); done) | (repeat (first | apply Go.GX.SelR.nil | apply Go.GX.SelR.cons | apply Go.GX.TakeR.head | apply Go.GX.TakeR.tail))) ?_; intro wd F hW hR
  refine GX.wT ?_; intros
  refine GX.nmS 6 ?_; rintro aG cG rfl rfl
  refine GX.gow ?_
  refine (cl (fields_spec _ t hs) fun s => ?_)
  obtain ⟨aF, cF⟩ := s
  dsimp only
  refine GX.wT ?_; intros
  refine GX.gow ?_
  refine (cl (from_spec aF aG cF cG (flds t) t.globals (by omega) hr hg) fun s => ?_)
  obtain ⟨a2, c2⟩ := s
  dsimp only
  refine GX.wT ?_; intros
  refine GX.wR ?_; intros
  refine frz a2 ?_
  exact rt1 (a2, c2) rfl
theorem out1_spec (bl : Nat) (g : List Int) (n : Int) : Does Tryz.prog 50 [.int .i64 n, .pointer (some ⟨bl, 0, none⟩)] [Pt (Ty.slice Ty.int) bl 0 g] [] (fun _ : Unit => .bool (decide (n ∈ g))) (fun _ => []) (fun _ => []) := by
  refine enter Tryz.func50 rfl Tryz.ntmps50 rfl fun b => ?_
  refine GX.wR ?_; intros
  refine GX.nmS 4 ?_; rintro ao cap rfl rfl
  refine GX.o (cl (contains_spec ao cap g n) fun _ => ?_)
  refine GX.wR ?_; intros
  exact rt1 () rfl
theorem out_kept (t : RTg) (u : Unt) : kept (fun n => decide (n ∈ glob t)) (fromL (flds t) (roots u)) (fromL (flds t) (roots u)).length = outOf t u := by
  unfold kept outOf
  rw [List.take_length]
  exact List.filter_congr fun x _ => by by_cases h : x ∈ glob t <;> simp [h]
set_option maxHeartbeats 1000000 in
theorem out_spec (cs : List Value) (t : RTg) (hs : Small t) (k : Int) : Does Tryz.prog 24 [.agg cs.toArray, .int .i64 k] [Ag tyRTg cs t] []
    (fun s : Option Addr × Nat => .slice s.1 (out t k).length s.2) (fun s => [Sl Ty.int s.1 s.2 (out t k)]) (fun _ => []) := by
  by_cases h1 : k < 0
  · rw [out_none (.inl h1)]
    refine enter Tryz.func24 rfl Tryz.ntmps24 rfl fun b => ?_
    refine GX.wR ?_; intros
    refine slNil Ty.int ?_
    exact rt1 (none, 0) rfl
  by_cases h2 : (t.units.length : Int) ≤ k
  · rw [out_none (.inr h2)]
    refine enter Tryz.func24 rfl Tryz.ntmps24 rfl fun b => ?_
    refine GX.wR ?_; intros
    refine slNil Ty.int ?_
    exact rt1 (none, 0) rfl
  obtain ⟨k, rfl⟩ := Int.eq_ofNat_of_zero_le (show 0 ≤ k by omega)
  obtain ⟨u, hu⟩ := get_lt (show k < t.units.length by omega)
  rw [out_some hu]
  have hc := hs.classes
  have hr := hs.refs
  have hfl := flds_len t
  have hp := pars_le u
  have hul := (hs.unit u (List.mem_of_getElem? hu)).1
  have hpe : ((pars u : Nat) : Int) = min (max u.params 0) (u.vars.length : Int) := by unfold pars; omega
  have hrl := roots_len u
  have htk : (u.vars.take (min (max u.params 0) (u.vars.length : Int)).toNat).length ≤ 1073741824 := by rw [List.length_take]; omega
  have hro : u.vars.take (min (max u.params 0) (u.vars.length : Int)).toNat ++ [u.result] = roots u := rfl
  refine enter Tryz.func24 rfl Tryz.ntmps24 rfl fun b => ?_
  refine GX.wR ?_; intros
  refine GX.o (cl (global_spec _ t hs) fun s => ?_)
  obtain ⟨aG, cG⟩ := s
  dsimp only
  refine GX.wR ?_; intros
  refine GX.nmP 5 ?_; rintro b5 rfl
  refine GX.nmP 7 ?_; rintro b7 rfl
  refine frzB b5 ?_
  refine frzB b7 ?_
  refine GX.drawnT (fun j => !(List.contains [] j)) (.br [(0, true), (2, true), (3, true), (4, true), (5, true), (7, true), (8, true)] (.alt 1 (.br [] (.alt 6 (.lin [(9, false), (10, false), (11, false), (12, true)]) (.alt 9 (.lin [(6, false), (10, false), (11, false), (12, true)]) .nil))) (.alt 9 (.lin [(1, false), (6, false), (10, false), (11, false), (12, true)]) .nil))) (by kernel_rfl) (by kernel_rfl) ?_; intro wd F hW hR
  refine GX.wT ?_; intros
  refine GX.treeA ?_ ?_
  · refine GX.gok ?_
    refine (cl (fields_spec _ t hs) fun s => ?_)
    obtain ⟨aF, cF⟩ := s
    dsimp only
    refine GX.wT ?_; intros
    refine GX.treeA ?_ ?_
    · refine GX.gok ?_
      refine (cl (clone_spec _ _ (u.vars.take (min (max u.params 0) (u.vars.length : Int)).toNat) (by omega)) fun s => ?_)
      obtain ⟨aV, cV⟩ := s
      dsimp only
      refine GX.wT ?_; intros
      refine GX.nmS 42 ?_; rintro aL cL rfl rfl
      rw [hro]
      refine frz aL ?_
      refine GX.gow ?_
      refine (cl (from_spec aF aL cF cL (flds t) (roots u) (by omega) hr (by omega)) fun s => ?_)
      obtain ⟨aR, cR⟩ := s
      dsimp only
      refine GX.wT ?_; intros
      refine GX.wR ?_; intros
      refine GX.o (cl (deleteFunc_spec aR cR (fromL (flds t) (roots u)) 50 [.pointer (some ⟨b7, 0, none⟩)] [Pt (Ty.slice Ty.int) b7 0 (glob t)] [] (fun n => decide (n ∈ glob t)) (fun n _ => out1_spec b7 (glob t) n)) fun _ => ?_)
      rw [out_kept]
      refine GX.wR ?_; intros
      refine frz aR ?_
      exact rt1 (aR, cR) rfl
    · refine GX.wT ?_; intros
      refine GX.gow ?_
      refine (cl (clone_spec _ _ (u.vars.take (min (max u.params 0) (u.vars.length : Int)).toNat) (by omega)) fun s => ?_)
      obtain ⟨aV, cV⟩ := s
      dsimp only
      refine GX.wT ?_; intros
      refine GX.nmS 42 ?_; rintro aL cL rfl rfl
      rw [hro]
      refine frz aL ?_
      refine GX.gow ?_
      refine (cl (from_spec aF aL cF cL (flds t) (roots u) (by omega) hr (by omega)) fun s => ?_)
      obtain ⟨aR, cR⟩ := s
      dsimp only
      refine GX.wT ?_; intros
      refine GX.wR ?_; intros
      refine GX.o (cl (deleteFunc_spec aR cR (fromL (flds t) (roots u)) 50 [.pointer (some ⟨b7, 0, none⟩)] [Pt (Ty.slice Ty.int) b7 0 (glob t)] [] (fun n => decide (n ∈ glob t)) (fun n _ => out1_spec b7 (glob t) n)) fun _ => ?_)
      rw [out_kept]
      refine GX.wR ?_; intros
      refine frz aR ?_
      exact rt1 (aR, cR) rfl
  · refine GX.wT ?_; intros
    refine GX.gow ?_
    refine (cl (fields_spec _ t hs) fun s => ?_)
    obtain ⟨aF, cF⟩ := s
    dsimp only
    refine GX.wT ?_; intros
    refine GX.gow ?_
    refine (cl (clone_spec _ _ (u.vars.take (min (max u.params 0) (u.vars.length : Int)).toNat) (by omega)) fun s => ?_)
    obtain ⟨aV, cV⟩ := s
    dsimp only
    refine GX.wT ?_; intros
    refine GX.nmS 42 ?_; rintro aL cL rfl rfl
    rw [hro]
    refine frz aL ?_
    refine GX.gow ?_
    refine (cl (from_spec aF aL cF cL (flds t) (roots u) (by omega) hr (by omega)) fun s => ?_)
    obtain ⟨aR, cR⟩ := s
    dsimp only
    refine GX.wT ?_; intros
    refine GX.wR ?_; intros
    refine GX.o (cl (deleteFunc_spec aR cR (fromL (flds t) (roots u)) 50 [.pointer (some ⟨b7, 0, none⟩)] [Pt (Ty.slice Ty.int) b7 0 (glob t)] [] (fun n => decide (n ∈ glob t)) (fun n _ => out1_spec b7 (glob t) n)) fun _ => ?_)
    rw [out_kept]
    refine GX.wR ?_; intros
    refine frz aR ?_
    exact rt1 (aR, cR) rfl
end Go.Proofs.YtomfpmbapdhbgaaGreat
