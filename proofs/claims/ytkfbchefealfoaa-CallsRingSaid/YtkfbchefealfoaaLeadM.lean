/- Which codes lead to which, as a table, made closed again and again. No program in sight. -/
import Derived.Test.YtkfbchefealfoaaTarTop
namespace Go.TarM

def row (M : List (List Bool)) (f : Nat) : List Bool := (M[f]?).getD []
def at2 (M : List (List Bool)) (f g : Nat) : Prop := (row M f)[g]? = some true
theorem row_get {M : List (List Bool)} {f : Nat} (h : f < M.length) : M[f]? = some (row M f) := by unfold row; rw [List.getElem?_eq_getElem h]; rfl
/-- What is known of the table while it is made closed. -/
structure Mat (e : List (List Nat)) (M : List (List Bool)) : Prop where
  len : M.length = e.length
  rows : ∀ r ∈ M, r.length = e.length
  diag : ∀ f, f < e.length → at2 M f f
  sound : ∀ f g, at2 M f g → R e f g
theorem Mat.rowl {e : List (List Nat)} {M : List (List Bool)} (h : Mat e M) {f : Nat} (hf : f < e.length) : (row M f).length = e.length :=
  h.rows _ (List.mem_of_getElem? (row_get (by rw [h.len]; exact hf)))
theorem at2_lt {M : List (List Bool)} {f g : Nat} (h : at2 M f g) : f < M.length := by
  unfold at2 row at h
  cases hm : M[f]? with
  | none => rw [hm] at h; simp at h
  | some r => exact (List.getElem?_eq_some_iff.1 hm).1
def mark (M : List (List Bool)) (f g : Nat) : List (List Bool) := M.set f ((row M f).set g true)
theorem row_mark {M : List (List Bool)} {f g i : Nat} (hf : f < M.length) : row (mark M f g) i = if i = f then (row M f).set g true else row M i := by
  unfold mark
  split
  · rename_i h; subst h
    conv => lhs; unfold row
    rw [List.getElem?_set_self hf]; rfl
  · rename_i h
    conv => lhs; unfold row
    rw [List.getElem?_set_ne (Ne.symm h)]; rfl
theorem at2_mark {M : List (List Bool)} {f g i j : Nat} (hf : f < M.length) (h : at2 (mark M f g) i j) : at2 M i j ∨ (i = f ∧ j = g) := by
  unfold at2 at h
  rw [row_mark hf] at h
  split at h
  · rename_i hi; subst hi
    by_cases hj : g = j
    · exact .inr ⟨rfl, hj.symm⟩
    · rw [List.getElem?_set_ne hj] at h; exact .inl h
  · exact .inl h
theorem at2_old {M : List (List Bool)} {f g i j : Nat} (hf : f < M.length) (h : at2 M i j) : at2 (mark M f g) i j := by
  unfold at2
  rw [row_mark hf]
  split
  · rename_i hi; subst hi
    by_cases hj : g = j
    · subst hj
      rw [List.getElem?_set_self (List.getElem?_eq_some_iff.1 h).1]
    · rw [List.getElem?_set_ne hj]; exact h
  · exact h
theorem Mat.mark {e : List (List Nat)} {M : List (List Bool)} (h : Mat e M) {f g : Nat} (hf : f < e.length) (hr : R e f g) : Mat e (mark M f g) where
  len := by unfold TarM.mark; rw [List.length_set]; exact h.len
  rows := fun r hr2 => by
    unfold TarM.mark at hr2
    rcases List.mem_or_eq_of_mem_set hr2 with h2 | h2
    · exact h.rows r h2
    · rw [h2, List.length_set]; exact h.rowl hf
  diag := fun i hi => at2_old (by rw [h.len]; exact hf) (h.diag i hi)
  sound := fun i j hij => by
    rcases at2_mark (by rw [h.len]; exact hf) hij with h2 | ⟨rfl, rfl⟩
    · exact h.sound i j h2
    · exact hr
def cnt (M : List (List Bool)) : Nat := (M.map fun r => r.count false).sum
theorem count_set : ∀ {m : List Bool} {k : Nat}, m[k]? = some false → (m.set k true).count false + 1 = m.count false
  | [], _, h => by simp at h
  | b :: m, 0, h => by simp at h; subst h; simp
  | b :: m, k + 1, h => by
    have := count_set (m := m) (k := k) (by simpa using h)
    rw [List.set_cons_succ, List.count_cons, List.count_cons]; omega
theorem sum_set : ∀ {l : List Nat} {i x y : Nat}, l[i]? = some x → (l.set i y).sum + x = l.sum + y
  | [], _, _, _, h => by simp at h
  | a :: l, 0, x, y, h => by simp at h; subst h; simp; omega
  | a :: l, i + 1, x, y, h => by
    have := sum_set (l := l) (i := i) (x := x) (y := y) (by simpa using h)
    rw [List.set_cons_succ, List.sum_cons, List.sum_cons]; omega
theorem cnt_mark {M : List (List Bool)} {f g : Nat} (hf : f < M.length) (h : (row M f)[g]? = some false) : cnt (mark M f g) < cnt M := by
  unfold cnt mark
  rw [List.map_set]
  have h1 : (M.map fun r => r.count false)[f]? = some ((row M f).count false) := by rw [List.getElem?_map, row_get hf]; rfl
  have h2 := sum_set (y := ((row M f).set g true).count false) h1
  have h3 := count_set h
  omega
def SeenF (e : List (List Nat)) (M : List (List Bool)) (f : Nat) : Prop := ∀ f' < f, ∀ (k h : Nat) (g : Nat), (kids e f')[k]? = some h → at2 M h g → at2 M f' g
def SeenK (e : List (List Nat)) (M : List (List Bool)) (f k : Nat) : Prop := ∀ k' < k, ∀ (h g : Nat), (kids e f)[k']? = some h → at2 M h g → at2 M f g
def SeenG (M : List (List Bool)) (f h g : Nat) : Prop := ∀ g' < g, at2 M h g' → at2 M f g'
theorem SeenG.all {e : List (List Nat)} {M : List (List Bool)} {f h k : Nat} (hm : Mat e M) (hg : SeenG M f h e.length) (hk : (kids e f)[k]? = some h) (hs : SeenK e M f k) : SeenK e M f (k + 1) := by
  intro k' hk' h' g h1 h2
  by_cases he : k' = k
  · subst he
    obtain rfl : h' = h := Option.some.inj (h1.symm.trans hk)
    have hl := (List.getElem?_eq_some_iff.1 h2).1
    rw [hm.rowl (by rw [← hm.len]; exact at2_lt h2)] at hl
    exact hg g hl h2
  · exact hs k' (by omega) h' g h1 h2
theorem SeenK.all {e : List (List Nat)} {M : List (List Bool)} {f : Nat} (hk : SeenK e M f (kids e f).length) (hs : SeenF e M f) : SeenF e M (f + 1) := by
  intro f' hf' k h g h1 h2
  by_cases he : f' = f
  · subst he; exact hk k (List.getElem?_eq_some_iff.1 h1).1 h g h1 h2
  · exact hs f' (by omega) k h g h1 h2
theorem kids_lt {e : List (List Nat)} {f y : Nat} (h : y ∈ kids e f) : f < e.length := by
  unfold kids at h
  cases hf : e[f]? with
  | none => rw [hf] at h; simp at h
  | some l => exact (List.getElem?_eq_some_iff.1 hf).1
theorem Mat.closed {e : List (List Nat)} {M : List (List Bool)} (h : Mat e M) (hs : SeenF e M e.length) {f g : Nat} (hg : g < e.length) : at2 M f g ↔ R e f g := by
  refine ⟨h.sound f g, fun hr => ?_⟩
  have key : ∀ {x y : Nat}, R e x y → ∀ z, at2 M y z → at2 M x z := by
    intro x y hxy
    induction hxy with
    | refl => exact fun z hz => hz
    | @step y w _ hk ih =>
      intro z hz
      obtain ⟨k, hkk⟩ := List.mem_iff_getElem?.1 hk
      exact ih z (hs y (kids_lt hk) k w z hkk hz)
  exact key hr g (h.diag g hg)
open Classical in
/-- Which codes lead to which. -/
noncomputable def leadT (e : List (List Nat)) : List (List Bool) := (List.range e.length).map fun f => (List.range e.length).map fun g => decide (R e f g)
theorem leadT_len (e : List (List Nat)) : (leadT e).length = e.length := by simp [leadT]
theorem Mat.eq {e : List (List Nat)} {M : List (List Bool)} (h : Mat e M) (hs : SeenF e M e.length) : M = leadT e := by
  apply List.ext_getElem
  · rw [h.len, leadT_len]
  · intro f h1 h2
    have hf : f < e.length := by rw [← h.len]; exact h1
    have hr : M[f] = row M f := by have := row_get h1; rw [List.getElem?_eq_getElem h1] at this; exact Option.some.inj this
    rw [hr]
    apply List.ext_getElem
    · rw [h.rowl hf]; simp [leadT]
    · intro g h3 h4
      have hg : g < e.length := by rw [← h.rowl hf]; exact h3
      have := h.closed hs (f := f) hg
      unfold at2 at this
      rw [List.getElem?_eq_getElem h3] at this
      simp only [leadT, List.getElem_map, List.getElem_range]
      by_cases hR : R e f g
      · have := this.2 hR
        simpa [hR] using this
      · have h5 : ¬ some (row M f)[g] = some true := fun h6 => hR (this.1 h6)
        simpa [hR] using h5
theorem leadT_get {e : List (List Nat)} {f : Nat} (h : f < e.length) : (leadT e)[f]? = some (row (leadT e) f) := row_get (by rw [leadT_len]; exact h)
open Classical in
theorem leadT_at {e : List (List Nat)} {f g : Nat} (hf : f < e.length) (hg : g < e.length) : (row (leadT e) f)[g]? = some (decide (R e f g)) := by
  unfold row leadT
  rw [List.getElem?_map, List.getElem?_range hf]
  simp only [Option.map_some, Option.getD_some]
  rw [List.getElem?_map, List.getElem?_range hg]; rfl
/-- The first rows are made. -/
def begM (n i : Nat) : List (List Bool) := (List.range n).map fun j => if j < i then (List.replicate n false).set j true else []
theorem begM_len (n i : Nat) : (begM n i).length = n := by simp [begM]
theorem begM_zero (n : Nat) : begM n 0 = List.replicate n [] := by
  apply List.ext_getElem
  · simp [begM]
  · intro j h1 h2; simp [begM]
theorem begM_get {n i : Nat} (h : i < n) : (begM n i)[i]? = some [] := by
  unfold begM; rw [List.getElem?_map, List.getElem?_range h]; simp
theorem begM_set {n i : Nat} : (begM n i).set i ((List.replicate n false).set i true) = begM n (i + 1) := by
  apply List.ext_getElem
  · simp [begM]
  · intro j h1 h2
    rw [List.getElem_set]
    simp only [begM, List.getElem_map, List.getElem_range]
    split
    · rename_i e; subst e; rw [if_pos (by omega)]
    · rename_i e
      by_cases h3 : j < i
      · rw [if_pos h3, if_pos (by omega)]
      · rw [if_neg h3, if_neg (by omega)]
theorem begM_row {n f : Nat} (h : f < n) : row (begM n n) f = (List.replicate n false).set f true := by
  unfold row begM
  rw [List.getElem?_map, List.getElem?_range h]
  simp [h]
theorem begM_mat (e : List (List Nat)) : Mat e (begM e.length e.length) where
  len := begM_len _ _
  rows := fun r hr => by
    obtain ⟨j, hj, rfl⟩ := List.mem_map.1 hr
    rw [if_pos (List.mem_range.1 hj)]; simp
  diag := fun f hf => by
    unfold at2
    rw [begM_row hf, List.getElem?_set_self (by simpa using hf)]
  sound := fun f g h => by
    have hf : f < e.length := by have := at2_lt h; rwa [begM_len] at this
    unfold at2 at h
    rw [begM_row hf] at h
    by_cases hfg : f = g
    · subst hfg; exact .refl f
    · rw [List.getElem?_set_ne hfg] at h
      have := List.mem_of_getElem? h
      rw [List.mem_replicate] at this
      exact absurd this.2 (by simp)
end Go.TarM
