/- A code without jumps, and one whose first instruction branches. No program in sight. -/
import Derived.Test.YtacokkcbbmpdcaaMetMath
namespace Go.FlowM
open Go.RiseM Go.Api

def ins0 : Ins := ⟨1, 0, 0, 0, 0, []⟩
def insR : Ins := ⟨18, -1, 0, 0, 0, []⟩
def line (n r : Nat) : List Ins := (List.replicate n ins0).set r insR
theorem line_len (n r : Nat) : (line n r).length = n := by simp [line]
theorem line_get {n r k : Nat} (hk : k < n) : (line n r)[k]? = some (if k = r then insR else ins0) := by
  unfold line
  by_cases e : k = r
  · subst e; rw [List.getElem?_set_self (by simpa using hk), if_pos rfl]
  · rw [List.getElem?_set_ne (by omega), List.getElem?_replicate, if_pos hk, if_neg e]
theorem puts_one (x : Int) : puts [x] = [x] := by simp [puts, put]
theorem line_next {n r k : Nat} (hk : k < n) : next (line n r) k = if k = r then [] else if k + 1 < n then [((k + 1 : Nat) : Int)] else [] := by
  rw [next_some (line_get hk)]
  by_cases e : k = r
  · rw [if_pos e, if_pos e]; rfl
  · rw [if_neg e, if_neg e]
    show puts (([(k : Int) + 1] : List Int).filter fun y => decide (In (line n r).length y)) = _
    rw [line_len]
    by_cases h : k + 1 < n
    · rw [if_pos h, List.filter_cons, if_pos (by simp [In]; omega)]
      exact puts_one _
    · rw [if_neg h, List.filter_cons, if_neg (by simp [In]; omega)]; rfl
theorem line_reach {n r k : Nat} (hr : r < n) : Reach (line n r) k ↔ k ≤ r := by
  constructor
  · intro h
    induction h with
    | zero _ => omega
    | @step i k hi hk ih =>
      have hil := hi.lt
      rw [line_len] at hil
      rw [line_next hil] at hk
      split at hk
      · simp at hk
      · split at hk
        · simp at hk; omega
        · simp at hk
  · intro h
    induction k with
    | zero => exact .zero (by rw [line_len]; omega)
    | succ k ih =>
      refine .step (ih (by omega)) ?_
      rw [line_next (by omega), if_neg (by omega), if_pos (by omega)]; simp
theorem line_met {n r k : Nat} (hr : r < n) (hk : k < n) : (met (line n r))[k]? = some (decide ((k : Int) ≤ (r : Int))) := by
  unfold met
  rw [List.getElem?_map, List.getElem?_range (by rw [line_len]; exact hk), Option.map_some]
  congr 1
  rw [decide_eq_decide, line_reach hr]; omega

/-- What a branch goes on at. -/
def wild (a b : Int) (n : Nat) : List Ins := (List.replicate n ⟨0, 0, 0, 0, 0, []⟩).set 0 ⟨17, 0, 0, b, a, []⟩
theorem wild_len (a b : Int) (n : Nat) : (wild a b n).length = n := by simp [wild]
theorem wild_next {a b : Int} {n : Nat} (hn : 0 < n) : next (wild a b n) 0 = puts (([a, b] : List Int).filter fun y => decide (In n y)) := by
  have h : (wild a b n)[0]? = some ⟨17, 0, 0, b, a, []⟩ := by unfold wild; rw [List.getElem?_set_self (by simpa using hn)]
  have e : next (wild a b n) 0 = nextOf ⟨17, 0, 0, b, a, []⟩ (wild a b n).length (0 : Nat) := next_some h
  rw [e, wild_len]
  rfl
theorem jump_next (a : Int) : (next [⟨16, 0, 0, 0, a, []⟩] 0).length = if a = 0 then 1 else 0 := by
  have h : ([⟨16, 0, 0, 0, a, []⟩] : List Ins)[0]? = some ⟨16, 0, 0, 0, a, []⟩ := rfl
  have e := next_some h
  have e : next [⟨16, 0, 0, 0, a, []⟩] 0 = nextOf ⟨16, 0, 0, 0, a, []⟩ 1 (0 : Nat) := e
  rw [e]
  show (puts (([a] : List Int).filter fun y => decide (In 1 y))).length = _
  by_cases h : a = 0
  · subst h; rw [if_pos rfl, List.filter_cons, if_pos (by simp [In])]
    show (puts [0]).length = 1
    rw [puts_one]; rfl
  · rw [if_neg h, List.filter_cons, if_neg (by simp [In]; omega)]; rfl
end Go.FlowM
