/- The plain mathematics of chapter 15: what comes next. No program in sight. -/
import Derived.Test.YtnpbadghodkhlaaRise
import Derived.Test.YtnpbadghodkhlaaApi
namespace Go.FlowM
open Go.RiseM Go.Api

/-- Where an instruction may go on, whether there or not. -/
def targets (x : Ins) (i : Int) : List Int := if x.op = 18 then [] else if x.op = 16 then [x.n] else if x.op = 17 then [x.n, x.c] else [i + 1]
/-- A number that is below n. -/
abbrev In (n : Nat) (x : Int) : Prop := 0 ≤ x ∧ x < (n : Int)
/-- What is next to an instruction that there is. -/
def nextOf (x : Ins) (n : Nat) (i : Int) : List Int := puts ((targets x i).filter fun y => decide (In n y))
def next (ins : List Ins) (i : Int) : List Int := match (if 0 ≤ i then ins[i.toNat]? else none) with
  | some x => nextOf x ins.length i
  | none => []
theorem next_some {ins : List Ins} {i : Nat} {x : Ins} (h : ins[i]? = some x) : next ins (i : Int) = nextOf x ins.length i := by
  unfold next; rw [if_pos (by omega), Int.toNat_natCast, h]
theorem next_none {ins : List Ins} {i : Int} (h : i < 0 ∨ (ins.length : Int) ≤ i) : next ins i = [] := by
  unfold next
  split
  · rename_i x hx
    split at hx
    · have := (List.getElem?_eq_some_iff.1 hx).1; omega
    · cases hx
  · rfl
theorem next_rise (ins : List Ins) (i : Int) : Rise (next ins i) := by
  unfold next nextOf
  split
  · exact (puts_spec _).1
  · exact List.Pairwise.nil
theorem next_in {ins : List Ins} {i x : Int} (h : x ∈ next ins i) : In ins.length x ∧ In ins.length i := by
  unfold next at h
  split at h
  · rename_i y hy
    unfold nextOf at h
    rw [(puts_spec _).2, List.mem_filter] at h
    split at hy
    · have := (List.getElem?_eq_some_iff.1 hy).1
      exact ⟨by simpa using h.2, by omega⟩
    · cases hy
  · simp at h
theorem next_len (ins : List Ins) (i : Int) : (next ins i).length ≤ 2 := by
  unfold next nextOf
  split
  · rename_i x _
    have h2 : ∀ l : List Int, (puts l).length ≤ l.length := by
      intro l
      have key : ∀ (l acc : List Int), (l.foldl put acc).length ≤ acc.length + l.length := by
        intro l
        induction l with
        | nil => intro acc; simp
        | cons y l ih =>
          intro acc
          have h1 := ih (put acc y)
          have h2 : (put acc y).length ≤ acc.length + 1 := by
            unfold put
            split
            · omega
            · rename_i hn
              rw [List.length_append, List.length_cons]
              have e2 : ∀ (l : List Int), (l.filter fun x => decide (x < y)).length + (l.filter fun x => decide (y < x)).length ≤ l.length := by
                intro l
                induction l with
                | nil => simp
                | cons z l ih =>
                  rw [List.filter_cons, List.filter_cons]
                  by_cases c : z < y
                  · have : ¬ y < z := by omega
                    simp [c, this]; omega
                  · by_cases c2 : y < z
                    · simp [c, c2]; omega
                    · simp [c, c2]; omega
              have := e2 acc
              omega
          rw [List.foldl_cons, List.length_cons]; omega
      have := key l []
      simpa [puts] using this
    have h3 := h2 ((targets x i).filter fun y => decide (In ins.length y))
    have h4 := List.length_filter_le (fun y => decide (In ins.length y)) (targets x i)
    have h5 : (targets x i).length ≤ 2 := by unfold targets; (repeat' split) <;> simp
    omega
  · simp
end Go.FlowM
