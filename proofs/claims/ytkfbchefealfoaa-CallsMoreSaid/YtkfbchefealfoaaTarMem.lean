/- How the walk in depth lies in memory: plain lists. No program in sight. -/
import Derived.Test.YtkfbchefealfoaaCalMath
namespace Go.TarM
open Go.RiseM

def zs (l : List Nat) : List Int := l.map fun k : Nat => (k : Int)
theorem zs_len (l : List Nat) : (zs l).length = l.length := by simp [zs]
theorem zs_get {l : List Nat} {i x : Nat} (h : l[i]? = some x) : (zs l)[i]? = some (x : Int) := by unfold zs; rw [List.getElem?_map, h]; rfl
theorem zs_set (l : List Nat) (i v : Nat) : (zs l).set i (v : Int) = zs (l.set i v) := by unfold zs; rw [List.map_set]
theorem zs_app (l m : List Nat) : zs (l ++ m) = zs l ++ zs m := by simp [zs]
theorem zs_one (x : Nat) : zs [x] = [(x : Int)] := rfl
theorem zs_take (l : List Nat) (i : Nat) : (zs l).take i = zs (l.take i) := by simp [zs, List.map_take]
theorem zs_drop (l : List Nat) (i : Nat) : (zs l).drop i = zs (l.drop i) := by simp [zs, List.map_drop]
theorem zs_mem {l : List Nat} {x : Nat} : (x : Int) ∈ zs l ↔ x ∈ l := by
  unfold zs; rw [List.mem_map]
  constructor
  · rintro ⟨y, h1, h2⟩; rw [← Int.ofNat_inj.1 h2]; exact h1
  · intro h; exact ⟨x, h, rfl⟩
theorem zs_mem' {l : List Nat} {x : Int} : x ∈ zs l ↔ ∃ k : Nat, x = k ∧ k ∈ l := by
  unfold zs; rw [List.mem_map]
  constructor
  · rintro ⟨y, h1, h2⟩; exact ⟨y, h2.symm, h1⟩
  · rintro ⟨k, rfl, h⟩; exact ⟨k, h, rfl⟩
theorem zs_nodup {l : List Nat} (h : l.Nodup) : (zs l).Nodup := by
  unfold zs List.Nodup; rw [List.pairwise_map]
  exact h.imp fun h1 h2 => h1 (Int.ofNat_inj.1 h2)

theorem kids_get {e : List (List Nat)} {f : Nat} (h : f < e.length) : (e.map zs)[f]? = some (zs (kids e f)) := by
  unfold kids; rw [List.getElem?_map, List.getElem?_eq_getElem h]; rfl
def metL (n : Nat) (M : List Nat) : List Int := (List.range n).map fun i => (num M i : Int)
theorem metL_len (n : Nat) (M : List Nat) : (metL n M).length = n := by simp [metL]
theorem metL_get {n : Nat} {M : List Nat} {f : Nat} (h : f < n) : (metL n M)[f]? = some (num M f : Int) := by unfold metL; rw [List.getElem?_map, List.getElem?_range h]; rfl
theorem metL_nil (n : Nat) : metL n [] = List.replicate n 0 := by
  apply List.ext_getElem
  · simp [metL]
  · intro i h1 h2; simp [metL, num]
theorem metL_set {n : Nat} {M : List Nat} {f : Nat} (hf : f ∉ M) : (metL n M).set f ((M.length : Int) + 1) = metL n (M ++ [f]) := by
  apply List.ext_getElem
  · simp [metL]
  · intro i h1 h2
    rw [List.getElem_set]
    simp only [metL, List.getElem_map, List.getElem_range]
    split
    · rename_i e; subst e
      have := num_head (S := []) hf
      rw [this]; rfl
    · rename_i e
      by_cases hm : i ∈ M
      · rw [num_app hm]
      · rw [num_out hm, num_out]
        intro h3
        rcases List.mem_append.1 h3 with h3 | h3
        · exact hm h3
        · simp at h3; exact e h3.symm
def doneL (n : Nat) (C : List (List Nat)) : List Bool := (List.range n).map fun i => decide (i ∈ C.flatten)
def doneG (n : Nat) (C : List (List Nat)) (l : List Nat) : List Bool := (List.range n).map fun i => decide (i ∈ C.flatten ∨ i ∈ l)
theorem doneL_len (n : Nat) (C : List (List Nat)) : (doneL n C).length = n := by simp [doneL]
theorem doneG_len (n : Nat) (C : List (List Nat)) (l : List Nat) : (doneG n C l).length = n := by simp [doneG]
theorem doneL_get {n : Nat} {C : List (List Nat)} {f : Nat} (h : f < n) : (doneL n C)[f]? = some (decide (f ∈ C.flatten)) := by unfold doneL; rw [List.getElem?_map, List.getElem?_range h]; rfl
theorem doneL_nil (n : Nat) : doneL n [] = List.replicate n false := by
  apply List.ext_getElem
  · simp [doneL]
  · intro i h1 h2; simp [doneL]
theorem doneG_nil (n : Nat) (C : List (List Nat)) : doneG n C [] = doneL n C := by simp [doneG, doneL]
theorem doneG_all (n : Nat) (C : List (List Nat)) (l : List Nat) : doneG n C l = doneL n (C ++ [l]) := by simp [doneG, doneL]
theorem doneG_set (n : Nat) (C : List (List Nat)) (l : List Nat) (x : Nat) : (doneG n C l).set x true = doneG n C (l ++ [x]) := by
  apply List.ext_getElem
  · simp [doneG]
  · intro i h1 h2
    rw [List.getElem_set]
    simp only [doneG, List.getElem_map, List.getElem_range]
    split
    · rename_i e; subst e; simp
    · rename_i e
      have e2 : ¬ i = x := fun h => e h.symm
      simp [e2]

/-- Those that are met and in no list yet, in the order in which they were met. -/
def opn (s : TS) : List Nat := s.met.filter fun x => decide (x ∉ s.comps.flatten)
theorem opn_meet {s : TS} {f : Nat} (h : f ∉ s.comps.flatten) : opn (meetS s f) = opn s ++ [f] := by
  show (s.met ++ [f]).filter (fun x => decide (x ∉ s.comps.flatten)) = _
  have e1 : [f].filter (fun x => decide (x ∉ s.comps.flatten)) = [f] := by rw [List.filter_cons, if_pos (decide_eq_true h)]; rfl
  rw [List.filter_append, e1]; rfl
theorem opn_len (s : TS) : (opn s).length ≤ s.met.length := List.length_filter_le _ _
theorem scc_rise (e : List (List Nat)) (f : Nat) : Rise (zs (scc e f)) := by
  unfold Rise zs scc
  rw [List.pairwise_map]
  exact (List.pairwise_lt_range.filter _).imp fun h => by omega
theorem scc_len (e : List (List Nat)) (f : Nat) : (scc e f).length ≤ e.length := by
  unfold scc; exact Nat.le_trans (List.length_filter_le _ _) (by simp)
/-- What is open from f on. -/
theorem Mid.split {e : List (List Nat)} {gray : List Nat} {f : Nat} {s0 s : TS} (h : Mid e gray f s0 (kids e f) s (s0.met.length + 1)) (hf : f < e.length) :
    ∃ A B, opn s = A ++ f :: B ∧ f ∉ A ∧ opn (endS e s f) = A ∧ (∀ x, x ∈ f :: B ↔ x ∈ scc e f) ∧ (f :: B).Nodup := by
  obtain ⟨S, hS⟩ := h.ext
  have hof : Op s f := h.inv.gop (by simp)
  have hs := h.sccE hf
  have hnf := h.numf
  have hnd := h.inv.nodup
  rw [hS] at hnd
  obtain ⟨_, hnd2, hnd3⟩ := List.nodup_append.1 hnd
  have mem2 : ∀ x, x ∈ (f :: S) → num s.met f ≤ num s.met x := fun x hx => by
    rw [hnf]
    refine h.num1 (fun h2 => ?_) (by rw [hS]; exact List.mem_append_right _ hx)
    exact hnd3 x h2 x hx rfl
  have mem1 : ∀ x, x ∈ s0.met → num s.met x < num s.met f := fun x hx => by
    rw [h.num0 hx, hnf]; have := @num_le s0.met x; omega
  have hff : (f :: S).filter (fun x => decide (x ∉ s.comps.flatten)) = f :: S.filter (fun x => decide (x ∉ s.comps.flatten)) := by
    rw [List.filter_cons, if_pos (by simpa using hof.2)]
  refine ⟨s0.met.filter (fun x => decide (x ∉ s.comps.flatten)), S.filter (fun x => decide (x ∉ s.comps.flatten)), ?_, fun h2 => h.fnew ((List.mem_filter.1 h2).1), ?_, fun x => ?_, ?_⟩
  · unfold opn; rw [hS, List.filter_append, hff]
  · have e1 : opn (endS e s f) = s.met.filter fun x => decide (x ∉ (s.comps ++ [scc e f]).flatten) := rfl
    rw [e1, hS, List.filter_append]
    have e2 : (f :: S).filter (fun x => decide (x ∉ (s.comps ++ [scc e f]).flatten)) = [] := by
      rw [List.filter_eq_nil_iff]
      intro x hx
      simp only [decide_eq_true_eq, Classical.not_not, List.flatten_append, List.mem_append]
      by_cases hd : x ∈ s.comps.flatten
      · exact .inl hd
      · refine .inr ?_
        simp only [List.flatten_cons, List.flatten_nil, List.append_nil]
        exact (hs x).2 ⟨⟨by rw [hS]; exact List.mem_append_right _ hx, hd⟩, mem2 x hx⟩
    rw [e2, List.append_nil]
    apply List.filter_congr
    intro x hx
    rw [decide_eq_decide]
    simp only [List.flatten_append, List.mem_append, List.flatten_cons, List.flatten_nil, List.append_nil, not_or]
    constructor
    · exact fun h2 => h2.1
    · exact fun h2 => ⟨h2, fun h3 => by have := ((hs x).1 h3).2; have := mem1 x hx; omega⟩
  · rw [← hff, List.mem_filter, decide_eq_true_eq, hs]
    constructor
    · rintro ⟨h1, h2⟩
      exact ⟨⟨by rw [hS]; exact List.mem_append_right _ h1, h2⟩, mem2 x h1⟩
    · rintro ⟨h1, h2⟩
      refine ⟨?_, h1.2⟩
      have := h1.1
      rw [hS] at this
      rcases List.mem_append.1 this with h3 | h3
      · have := mem1 x h3; omega
      · exact h3
  · rw [← hff]; exact hnd2.filter _
end Go.TarM
