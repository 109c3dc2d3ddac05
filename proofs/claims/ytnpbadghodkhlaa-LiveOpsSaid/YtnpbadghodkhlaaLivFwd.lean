/- Codes that only lead on: what is live. No program in sight. -/
import Derived.Test.YtnpbadghodkhlaaLivMath
namespace Go.LivM
open Go.RiseM Go.Api Go.FlowM
theorem befores_fwd {ins : List Ins} {l : List (List Int)} (hf : ∀ i j : Nat, (j : Int) ∈ next ins i → i < j) (hl : l.length = ins.length) (hr : ∀ s ∈ l, Rise s)
    (hx : ∀ (i : Nat) s x, l[i]? = some s → ins[i]? = some x → ∀ v, v ∈ s ↔ v ∈ uses x ∨ def_ x ≠ v ∧ ∃ j : Nat, (j : Int) ∈ next ins i ∧ ∃ s2, l[j]? = some s2 ∧ v ∈ s2) : befores ins = l := by
  have key : ∀ d i : Nat, ins.length - i ≤ d → ∀ s, l[i]? = some s → ∀ v, v ∈ s ↔ Live ins i v := by
    intro d
    induction d with
    | zero =>
      intro i hi s hs
      have := (List.getElem?_eq_some_iff.1 hs).1
      omega
    | succ d ih =>
      intro i hi s hs v
      have hil := (List.getElem?_eq_some_iff.1 hs).1
      have hil2 : i < ins.length := by omega
      have hxi : ins[i]? = some ins[i] := List.getElem?_eq_getElem hil2
      rw [hx i s _ hs hxi]
      constructor
      · rintro (h | ⟨h, j, hj, s2, hs2, hv⟩)
        · exact .use hxi h
        · exact .pass hxi h hj ((ih j (by have := hf i j hj; omega) s2 hs2 v).1 hv)
      · intro h
        cases h with
        | use h2 h3 => rw [hxi] at h2; cases h2; exact .inl h3
        | pass h2 h3 h4 h5 =>
          rename_i j y
          rw [hxi] at h2; cases h2
          have hj := h5.lt
          exact .inr ⟨h3, j, h4, l[j], List.getElem?_eq_getElem (by omega), (ih j (by have := hf i j h4; omega) _ (List.getElem?_eq_getElem (by omega)) v).2 h5⟩
  exact (befores_of hl fun i s hs => ⟨hr s (List.mem_of_getElem? hs), key _ i (Nat.le_refl _) s hs⟩).symm
def c16 : Api.Code := ⟨0, [], false, ⟨0, 0, 0⟩, [⟨1, 1, 0, 0, 0, []⟩, ⟨15, 1, 0, 0, 0, []⟩, ⟨18, 0, 0, 0, 0, []⟩]⟩
theorem c16_before : befores c16.ins = [[0], [0, 1], [0]] := by
  have n0 : next c16.ins ((0 : Nat) : Int) = [1] := by decide
  have n1 : next c16.ins ((1 : Nat) : Int) = [2] := by decide
  have n2 : next c16.ins ((2 : Nat) : Int) = [] := by decide
  refine befores_fwd (fun i j h => ?_) rfl (by decide) (fun i s x hs hx v => ?_)
  · match i with
    | 0 => rw [n0] at h; simp at h; omega
    | 1 => rw [n1] at h; simp at h; omega
    | 2 => rw [n2] at h; simp at h
    | i + 3 => rw [next_none (.inr (by show (3 : Int) ≤ _; omega))] at h; simp at h
  · match i with
    | 0 =>
      cases hs; cases hx
      rw [n0, show uses ⟨1, 1, 0, 0, 0, []⟩ = [] by decide, show def_ ⟨1, 1, 0, 0, 0, []⟩ = 1 by decide]
      constructor
      · intro h
        simp at h
        exact .inr ⟨by omega, 1, by simp, [0, 1], rfl, by simp [h]⟩
      · rintro (h | ⟨h, j, hj, s2, hs2, hv⟩)
        · simp at h
        · simp at hj
          obtain rfl : j = 1 := by omega
          cases hs2
          simp at hv
          rcases hv with hv | hv
          · simp [hv]
          · omega
    | 1 =>
      cases hs; cases hx
      rw [n1, show uses ⟨15, 1, 0, 0, 0, []⟩ = [1] by decide, show def_ ⟨15, 1, 0, 0, 0, []⟩ = -1 by decide]
      constructor
      · intro h
        simp at h
        rcases h with h | h
        · exact .inr ⟨by omega, 2, by simp, [0], rfl, by simp [h]⟩
        · exact .inl (by simp [h])
      · rintro (h | ⟨h, j, hj, s2, hs2, hv⟩)
        · simp at h; simp [h]
        · simp at hj
          obtain rfl : j = 2 := by omega
          cases hs2
          simp at hv
          simp [hv]
    | 2 =>
      cases hs; cases hx
      rw [n2, show uses ⟨18, 0, 0, 0, 0, []⟩ = [0] by decide]
      simp
    | i + 3 => simp at hs
/-- A line of copies. -/
def lineI (n : Nat) : List Ins := ((List.range n).map fun i : Nat => (⟨3, (i : Int) + 1, (i : Int), 0, 0, []⟩ : Ins)) ++ [⟨18, (n : Int), 0, 0, 0, []⟩]
theorem lineI_len (n : Nat) : (lineI n).length = n + 1 := by simp [lineI]
theorem lineI_get {n i : Nat} (h : i < n) : (lineI n)[i]? = some ⟨3, (i : Int) + 1, (i : Int), 0, 0, []⟩ := by
  unfold lineI
  rw [List.getElem?_append_left (by simp; exact h), List.getElem?_map, List.getElem?_range h]; rfl
theorem lineI_last (n : Nat) : (lineI n)[n]? = some ⟨18, (n : Int), 0, 0, 0, []⟩ := by
  unfold lineI
  rw [List.getElem?_append_right (by simp)]
  simp
theorem line_before {n : Nat} (hn : n ≤ 60) : befores (lineI n) = (List.range (n + 1)).map fun i : Nat => [(i : Int)] := by
  have nx : ∀ i : Nat, i < n → next (lineI n) (i : Int) = [(i : Int) + 1] := fun i hi => by
    rw [next_some (lineI_get hi)]
    unfold nextOf targets
    have h1 : In (lineI n).length ((i : Int) + 1) := ⟨by omega, by rw [lineI_len]; omega⟩
    simp only [show ¬ (3 : Int) = 18 by decide, show ¬ (3 : Int) = 16 by decide, show ¬ (3 : Int) = 17 by decide, if_false]
    rw [show [(i : Int) + 1].filter (fun y => decide (In (lineI n).length y)) = [(i : Int) + 1] by rw [List.filter_cons, if_pos (decide_eq_true h1)]; rfl]
    rfl
  have nl : next (lineI n) (n : Int) = [] := by
    rw [next_some (lineI_last n)]
    rfl
  have hg : ∀ i : Nat, i < n + 1 → ((List.range (n + 1)).map fun i => [((i : Nat) : Int)])[i]? = some [(i : Int)] := fun i hi => by
    rw [List.getElem?_map, List.getElem?_range hi]; rfl
  refine befores_fwd (fun i j h => ?_) (by rw [lineI_len]; simp) (fun s hs => ?_) (fun i s x hs hx v => ?_)
  · by_cases hi : i < n
    · rw [nx i hi] at h
      simp at h
      omega
    · by_cases hi2 : i = n
      · rw [hi2, nl] at h; simp at h
      · rw [next_none (.inr (by rw [lineI_len]; omega))] at h; simp at h
  · obtain ⟨i, _, rfl⟩ := List.mem_map.1 hs
    exact List.pairwise_singleton _ _
  · have hil : i < n + 1 := by
      have := (List.getElem?_eq_some_iff.1 hs).1
      simpa using this
    rw [hg i hil] at hs
    cases hs
    by_cases hi : i < n
    · rw [lineI_get hi] at hx
      cases hx
      have hu : ∀ w : Int, w ∈ uses ⟨3, (i : Int) + 1, (i : Int), 0, 0, []⟩ ↔ w = i := fun w => by
        rw [uses_in]
        simp only [asks, true_or, if_true, List.mem_singleton]
        exact ⟨fun h => h.1, fun h => ⟨h, ⟨by omega, by omega⟩⟩⟩
      have hd : def_ ⟨3, (i : Int) + 1, (i : Int), 0, 0, []⟩ = (i : Int) + 1 := if_pos ⟨.inr (.inr (.inl rfl)), ⟨by dsimp only; omega, by dsimp only; omega⟩⟩
      rw [hu, hd, nx i hi]
      simp only [List.mem_singleton]
      constructor
      · exact fun h => .inl h
      · rintro (h | ⟨h, j, hj, s2, hs2, hv⟩)
        · exact h
        · obtain rfl : j = i + 1 := by omega
          rw [hg _ (by omega)] at hs2
          cases hs2
          simp at hv
          omega
    · obtain rfl : i = n := by omega
      rw [lineI_last] at hx
      cases hx
      have hu : ∀ w : Int, w ∈ uses ⟨18, (i : Int), 0, 0, 0, []⟩ ↔ w = i := fun w => by
        rw [uses_in]
        simp [asks]
        omega
      rw [hu, nl]
      simp
end Go.LivM
