/- The plain mathematics of chapter 15: from where one comes. No program in sight. -/
import Derived.Test.YtacokkcbbmpdcaaFlowMath
namespace Go.FlowM
open Go.RiseM Go.Api

/-- From which of the first i instructions one comes to m. -/
def bk (ins : List Ins) (i m : Nat) : List Int := ((List.range i).filter fun j : Nat => decide ((m : Int) ∈ next ins (j : Int))).map fun j : Nat => (j : Int)
def backTo (ins : List Ins) (i : Nat) : List (List Int) := (List.range ins.length).map (bk ins i)
/-- The same, and of the first j that come behind i. -/
def mid (ins : List Ins) (i j : Nat) : List (List Int) := (List.range ins.length).map fun m => bk ins i m ++ (if (m : Int) ∈ (next ins i).take j then [(i : Int)] else [])
def back (ins : List Ins) : List (List Int) := backTo ins ins.length
theorem backTo_len (ins : List Ins) (i : Nat) : (backTo ins i).length = ins.length := by simp [backTo]
theorem mid_len (ins : List Ins) (i j : Nat) : (mid ins i j).length = ins.length := by simp [mid]
theorem bk_len (ins : List Ins) (i m : Nat) : (bk ins i m).length ≤ i := by
  have := List.length_filter_le (fun j : Nat => decide ((m : Int) ∈ next ins (j : Int))) (List.range i)
  unfold bk; rw [List.length_map]; rw [List.length_range] at this; exact this
theorem backTo_zero (ins : List Ins) : backTo ins 0 = List.replicate ins.length [] := by
  unfold backTo bk; simp [List.eq_replicate_iff]
theorem mid_zero (ins : List Ins) (i : Nat) : mid ins i 0 = backTo ins i := by
  unfold mid backTo; simp
theorem mid_all (ins : List Ins) (i j : Nat) (hj : (next ins i).length ≤ j) : mid ins i j = backTo ins (i + 1) := by
  unfold mid backTo
  refine List.map_congr_left fun m _ => ?_
  unfold bk
  rw [List.take_of_length_le hj, List.range_succ, List.filter_append, List.map_append]
  congr 1
  by_cases h : (m : Int) ∈ next ins i <;> simp [h]
theorem mid_step {ins : List Ins} {i j y : Nat} (h : (next ins i)[j]? = some (y : Int)) : y < ins.length ∧ (mid ins i j)[y]? = some (bk ins i y) ∧ mid ins i (j + 1) = (mid ins i j).set y (bk ins i y ++ [(i : Int)]) := by
  have hy := next_in (List.mem_of_getElem? h)
  have hyl : y < ins.length := by omega
  have hr := next_rise ins i
  have hn : (y : Int) ∉ (next ins i).take j := fun hm => by
    obtain ⟨k, hk, e⟩ := List.mem_take_iff_getElem.1 hm
    obtain ⟨h1, h2⟩ := List.getElem?_eq_some_iff.1 h
    have := List.pairwise_iff_getElem.1 hr k j (by omega) h1 (by omega)
    omega
  have hm : (mid ins i j)[y]? = some (bk ins i y) := by
    unfold mid
    rw [List.getElem?_map, List.getElem?_range hyl, Option.map_some, if_neg hn, List.append_nil]
  refine ⟨hyl, hm, List.ext_getElem? fun m => ?_⟩
  by_cases e : m = y
  · subst e
    rw [List.getElem?_set_self (by rw [mid_len]; exact hyl)]
    unfold mid
    rw [List.getElem?_map, List.getElem?_range hyl, Option.map_some, List.take_add_one, h, if_pos (by simp)]
  · rw [List.getElem?_set_ne (by omega)]
    unfold mid
    rw [List.getElem?_map, List.getElem?_map]
    by_cases hml : m < ins.length
    · rw [List.getElem?_range hml, Option.map_some, Option.map_some, List.take_add_one, h]
      have : ((m : Int) ∈ (next ins i).take j ++ (some (y : Int)).toList) ↔ (m : Int) ∈ (next ins i).take j := by
        rw [List.mem_append]; simp; intro h; omega
      simp only [this]
    · rw [List.getElem?_eq_none (by simp; omega)]; rfl
theorem back_get {ins : List Ins} {k : Nat} (hk : k < ins.length) : (back ins)[k]? = some (bk ins ins.length k) := by
  unfold back backTo; rw [List.getElem?_map, List.getElem?_range hk]; rfl
theorem bk_mem {ins : List Ins} {i k : Nat} (hi : i < ins.length) : ((i : Int) ∈ bk ins ins.length k) ↔ (k : Int) ∈ next ins i := by
  unfold bk
  simp only [List.mem_map, List.mem_filter, List.mem_range, decide_eq_true_eq]
  constructor
  · rintro ⟨j, ⟨_, h⟩, e⟩
    obtain rfl : j = i := by omega
    exact h
  · intro h; exact ⟨i, ⟨hi, h⟩, rfl⟩
end Go.FlowM
