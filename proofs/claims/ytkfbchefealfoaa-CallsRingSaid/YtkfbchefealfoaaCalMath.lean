/- Who calls whom: plain. No program in sight. -/
import Derived.Test.YtkfbchefealfoaaApi
import Derived.Test.YtkfbchefealfoaaTarMath
namespace Go.CalM
open Go.Api Go.TarM

def cIns (c : Int) : Ins := ⟨13, -1, 0, c, 0, []⟩
def cCode (l : List Int) : Api.Code := ⟨0, [], false, ⟨0, 0, 0⟩, l.map cIns⟩
/-- Codes that call as they are told. -/
def cProg (e : List (List Int)) : IR := ⟨[], [], e.map cCode, [], 0⟩

def Calls_ (n : Nat) (acc : List Int) (i : Ins) : Prop := i.op = 13 ∧ 0 ≤ i.c ∧ i.c < (n : Int) ∧ i.c ∉ acc
instance (n : Nat) (acc : List Int) (i : Ins) : Decidable (Calls_ n acc i) := by unfold Calls_; infer_instance
def addI (n : Nat) (acc : List Int) (i : Ins) : List Int := if Calls_ n acc i then acc ++ [i.c] else acc
def edI (n : Nat) (l : List Ins) : List Int := l.foldl (addI n) []
/-- Of each code the codes that it calls. -/
def edges (x : IR) : List (List Int) := x.codes.map fun c => edI x.codes.length c.ins
theorem edges_len (x : IR) : (edges x).length = x.codes.length := by simp [edges]
theorem edI_snoc {n : Nat} {l : List Ins} {k : Nat} {i : Ins} (h : l[k]? = some i) : edI n (l.take (k + 1)) = addI n (edI n (l.take k)) i := by
  unfold edI; rw [List.take_add_one, h, List.foldl_append]; rfl
theorem edI_len (n : Nat) (l : List Ins) : ∀ k, (edI n (l.take k)).length ≤ k := by
  intro k
  induction k with
  | zero => simp [edI]
  | succ k ih =>
    cases h : l[k]? with
    | none =>
      rw [List.take_of_length_le (by have := List.getElem?_eq_none_iff.1 h; omega), ← List.take_of_length_le (l := l) (i := k) (by have := List.getElem?_eq_none_iff.1 h; omega)]; omega
    | some i =>
      rw [edI_snoc h]; unfold addI
      split
      · rw [List.length_append, List.length_singleton]; omega
      · omega
/-- What is made so far: the first i whole, of the next one the first k instructions. -/
def edTo (x : IR) (i k : Nat) : List (List Int) := (List.range x.codes.length).map fun j => if j < i then ((x.codes[j]?).map fun c => edI x.codes.length c.ins).getD [] else if j = i then ((x.codes[j]?).map fun c => edI x.codes.length (c.ins.take k)).getD [] else []
theorem edTo_len (x : IR) (i k : Nat) : (edTo x i k).length = x.codes.length := by simp [edTo]
theorem edTo_zero (x : IR) : edTo x 0 0 = List.replicate x.codes.length [] := by
  apply List.ext_getElem
  · simp [edTo]
  · intro j h1 h2
    simp only [edTo, List.getElem_map, List.getElem_range, List.getElem_replicate, List.take_zero, Nat.not_lt_zero, if_false]
    split
    · cases x.codes[j]? <;> rfl
    · rfl
theorem edTo_get {x : IR} {i k : Nat} {c : Api.Code} (h : x.codes[i]? = some c) : (edTo x i k)[i]? = some (edI x.codes.length (c.ins.take k)) := by
  have hl := (List.getElem?_eq_some_iff.1 h).1
  simp only [edTo, List.getElem?_map, List.getElem?_range hl, Option.map_some, Nat.lt_irrefl, if_false, if_true, h, Option.getD_some]
theorem edTo_set {x : IR} {i k : Nat} {c : Api.Code} (h : x.codes[i]? = some c) : (edTo x i k).set i (edI x.codes.length (c.ins.take (k + 1))) = edTo x i (k + 1) := by
  apply List.ext_getElem
  · simp [edTo]
  · intro j h1 h2
    rw [List.getElem_set]
    split
    · rename_i e; subst e
      have := edTo_get (k := k + 1) h
      rw [List.getElem?_eq_getElem h2] at this
      exact (Option.some.inj this).symm
    · rename_i e
      simp only [edTo, List.getElem_map, List.getElem_range]
      split
      · rfl
      · rw [if_neg (Ne.symm e), if_neg (Ne.symm e)]
theorem edTo_next {x : IR} {i k : Nat} {c : Api.Code} (h : x.codes[i]? = some c) (hk : c.ins.length ≤ k) : edTo x i k = edTo x (i + 1) 0 := by
  apply List.ext_getElem
  · simp [edTo]
  · intro j h1 h2
    simp only [edTo, List.getElem_map, List.getElem_range]
    by_cases h3 : j < i
    · rw [if_pos h3, if_pos (by omega)]
    · rw [if_neg h3]
      by_cases h4 : j = i
      · subst h4
        rw [if_pos rfl, if_pos (by omega), h, Option.map_some, Option.map_some, List.take_of_length_le hk]
      · rw [if_neg h4, if_neg (by omega)]
        split
        · cases x.codes[j]? <;> rfl
        · rfl
theorem edTo_all (x : IR) : edTo x x.codes.length 0 = edges x := by
  apply List.ext_getElem
  · simp [edTo, edges]
  · intro j h1 h2
    have hj : j < x.codes.length := by simpa [edTo] using h1
    simp only [edTo, edges, List.getElem_map, List.getElem_range]
    rw [if_pos hj, List.getElem?_eq_getElem hj]; rfl
theorem addI_yes {n : Nat} {acc : List Int} {i : Ins} (h : Calls_ n acc i) : addI n acc i = acc ++ [i.c] := if_pos h
theorem addI_no {n : Nat} {acc : List Int} {i : Ins} (h : ¬ Calls_ n acc i) : addI n acc i = acc := if_neg h
theorem set_get {α : Type} {l : List α} {i : Nat} {x : α} (h : l[i]? = some x) : l.set i x = l := by
  apply List.ext_getElem
  · simp
  · intro j h1 h2
    rw [List.getElem_set]
    split
    · rename_i e; subst e
      exact Option.some.inj (h.symm.trans (List.getElem?_eq_getElem h2))
    · rfl
end Go.CalM
