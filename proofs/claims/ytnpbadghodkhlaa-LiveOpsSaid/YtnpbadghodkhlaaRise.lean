/- Rising lists of ints: what put, sorting and striking out make of them. No program in sight. -/
import Derived.Lib.SlicesCompact
namespace Go.RiseM
open Go

/-- A list that rises. -/
def Rise (l : List Int) : Prop := l.Pairwise (· < ·)
instance (l : List Int) : Decidable (Rise l) := by unfold Rise; infer_instance
theorem Rise.eq : ∀ {l m : List Int}, Rise l → Rise m → (∀ x, x ∈ l ↔ x ∈ m) → l = m
  | [], [], _, _, _ => rfl
  | [], y :: m, _, _, h => absurd ((h y).2 (by simp)) (by simp)
  | x :: l, [], _, _, h => absurd ((h x).1 (by simp)) (by simp)
  | x :: l, y :: m, h1, h2, h => by
    have a1 := List.pairwise_cons.1 h1
    have a2 := List.pairwise_cons.1 h2
    have e : x = y := by
      rcases List.mem_cons.1 ((h x).1 (by simp)) with c | c
      · exact c
      · rcases List.mem_cons.1 ((h y).2 (by simp)) with d | d
        · exact d.symm
        · have := a2.1 x c; have := a1.1 y d; omega
    subst e
    congr 1
    refine Rise.eq a1.2 a2.2 fun z => ⟨fun hz => ?_, fun hz => ?_⟩
    · rcases List.mem_cons.1 ((h z).1 (List.mem_cons_of_mem _ hz)) with c | c
      · subst c; have := a1.1 z hz; omega
      · exact c
    · rcases List.mem_cons.1 ((h z).2 (List.mem_cons_of_mem _ hz)) with c | c
      · subst c; have := a2.1 z hz; omega
      · exact c
theorem compactUpTo_rise {xs : List Int} (h : xs.Pairwise (· ≤ ·)) : ∀ m, m ≤ xs.length → Rise (Lib.compactUpTo xs.toArray m) ∧ (∀ x, x ∈ Lib.compactUpTo xs.toArray m ↔ x ∈ xs.take m) := by
  intro m
  induction m with
  | zero => intro _; exact ⟨List.Pairwise.nil, by simp [Lib.compactUpTo]⟩
  | succ m ih =>
    intro hm
    obtain ⟨h1, h2⟩ := ih (by omega)
    have hx : xs.toArray[m]! = xs[m] := by rw [getElem!_pos xs.toArray m (by simp; omega)]; simp
    have ht : xs.take (m + 1) = xs.take m ++ [xs[m]] := by rw [List.take_add_one, List.getElem?_eq_getElem (by omega)]; rfl
    have hle : ∀ y ∈ xs.take m, y ≤ xs[m] := fun y hy => by
      obtain ⟨j, hj, rfl⟩ := List.mem_take_iff_getElem.1 hy
      exact List.pairwise_iff_getElem.1 h j m (by omega) (by omega) (by omega)
    rw [Lib.compactUpTo_succ, ht, hx]
    by_cases hk : Lib.keeps xs.toArray m = true
    · rw [if_pos hk]
      refine ⟨List.pairwise_append.2 ⟨h1, by simp, fun a ha c hc => ?_⟩, fun x => by rw [List.mem_append, List.mem_append, h2]⟩
      obtain rfl : c = xs[m] := by simpa using hc
      have ha2 := (h2 a).1 ha
      obtain ⟨j, hj, rfl⟩ := List.mem_take_iff_getElem.1 ha2
      simp only [Lib.keeps, decide_eq_true_eq] at hk
      have hm0 : m ≠ 0 := by omega
      have hne : xs.toArray[m]! ≠ xs.toArray[m - 1]! := by rcases hk with c | c; exact absurd c hm0; exact c
      rw [hx, getElem!_pos xs.toArray (m - 1) (by simp; omega)] at hne
      have hne : xs[m] ≠ xs[m - 1] := by simpa using hne
      have h3 := List.pairwise_iff_getElem.1 h (m - 1) m (by omega) (by omega) (by omega)
      have h4 : xs[j] ≤ xs[m - 1] := by
        by_cases e : j = m - 1
        · subst e; exact Int.le_refl _
        · exact List.pairwise_iff_getElem.1 h j (m - 1) (by omega) (by omega) (by omega)
      omega
    · rw [if_neg hk, List.append_nil]
      refine ⟨h1, fun x => ?_⟩
      rw [h2, List.mem_append]
      refine ⟨.inl, fun hx2 => ?_⟩
      rcases hx2 with c | c
      · exact c
      · obtain rfl : x = xs[m] := by simpa using c
        simp only [Lib.keeps, decide_eq_true_eq] at hk
        have hm0 : m ≠ 0 := fun e => hk (.inl e)
        have he : xs.toArray[m]! = xs.toArray[m - 1]! := Classical.not_not.1 fun e => hk (.inr e)
        rw [hx, getElem!_pos xs.toArray (m - 1) (by simp; omega)] at he
        have he : xs[m] = xs[m - 1] := by simpa using he
        rw [he]
        exact List.mem_take_iff_getElem.2 ⟨m - 1, by omega, rfl⟩
theorem compact_rise {xs : List Int} (h : xs.Pairwise (· ≤ ·)) : Rise (Lib.compact xs) ∧ ∀ x, x ∈ Lib.compact xs ↔ x ∈ xs := by
  have := compactUpTo_rise h xs.length (Nat.le_refl _)
  rwa [List.take_length] at this

/-- A number into a rising list, once. -/
def put (l : List Int) (v : Int) : List Int := if v ∈ l then l else l.filter (· < v) ++ v :: l.filter (v < ·)
theorem put_mem {l : List Int} {v x : Int} : x ∈ put l v ↔ x = v ∨ x ∈ l := by
  unfold put
  split
  · rename_i h
    constructor
    · exact .inr
    · rintro (rfl | h2)
      · exact h
      · exact h2
  · rename_i h
    rw [List.mem_append, List.mem_cons, List.mem_filter, List.mem_filter]
    simp only [decide_eq_true_eq]
    constructor
    · rintro (⟨h1, _⟩ | h1 | ⟨h1, _⟩)
      · exact .inr h1
      · exact .inl h1
      · exact .inr h1
    · rintro (h1 | h1)
      · exact .inr (.inl h1)
      · rcases Int.lt_trichotomy x v with c | c | c
        · exact .inl ⟨h1, c⟩
        · exact .inr (.inl c)
        · exact .inr (.inr ⟨h1, c⟩)
theorem Rise.put {l : List Int} (h : Rise l) (v : Int) : Rise (put l v) := by
  unfold RiseM.put
  split
  · exact h
  · refine List.pairwise_append.2 ⟨h.filter _, List.pairwise_cons.2 ⟨fun x hx => ?_, h.filter _⟩, fun a ha c hc => ?_⟩
    · simpa using (List.mem_filter.1 hx).2
    · have h1 : a < v := by simpa using (List.mem_filter.1 ha).2
      rcases List.mem_cons.1 hc with rfl | hc
      · exact h1
      · have h2 : v < c := by simpa using (List.mem_filter.1 hc).2
        omega
/-- How 'put' finds the place. -/
theorem put_at {l : List Int} (h : Rise l) {v : Int} {k : Nat} (h1 : ∀ x ∈ l.take k, x < v) (h2 : ∀ x ∈ l.drop k, v < x) : put l v = l.take k ++ v :: l.drop k := by
  have hn : v ∉ l := fun hv => by
    rw [← List.take_append_drop k l, List.mem_append] at hv
    rcases hv with c | c
    · have := h1 v c; omega
    · have := h2 v c; omega
  unfold put
  rw [if_neg hn]
  have e1 : l.filter (· < v) = l.take k := by
    conv => lhs; rw [← List.take_append_drop k l]
    rw [List.filter_append, List.filter_eq_self.2 (fun x hx => by simpa using h1 x hx), List.filter_eq_nil_iff.2 (fun x hx => by have := h2 x hx; simp; omega), List.append_nil]
  have e2 : l.filter (v < ·) = l.drop k := by
    conv => lhs; rw [← List.take_append_drop k l]
    have a1 : (l.drop k).filter (v < ·) = l.drop k := List.filter_eq_self.2 (fun x hx => by simpa using h2 x hx)
    have a2 : (l.take k).filter (v < ·) = [] := List.filter_eq_nil_iff.2 (fun x hx => by have := h1 x hx; simp; omega)
    rw [List.filter_append, a1, a2, List.nil_append]
  rw [e1, e2]
theorem put_len (l : List Int) (v : Int) : (put l v).length ≤ l.length + 1 := by
  unfold put
  split
  · omega
  · rw [List.length_append, List.length_cons]
    have e2 : ∀ (l : List Int), (l.filter fun x => decide (x < v)).length + (l.filter fun x => decide (v < x)).length ≤ l.length := by
      intro l
      induction l with
      | nil => simp
      | cons z l ih =>
        rw [List.filter_cons, List.filter_cons]
        by_cases c : z < v
        · have : ¬ v < z := by omega
          simp [c, this]; omega
        · by_cases c2 : v < z
          · simp [c, c2]; omega
          · simp [c, c2]; omega
    have := e2 l
    omega
/-- All of a list, one after the other. -/
def puts (l : List Int) : List Int := l.foldl put []
theorem puts_snoc (l : List Int) (x : Int) : puts (l ++ [x]) = put (puts l) x := by simp [puts, List.foldl_append]
theorem puts_spec (l : List Int) : Rise (puts l) ∧ ∀ x, x ∈ puts l ↔ x ∈ l := by
  have key : ∀ (l acc : List Int), Rise acc → Rise (l.foldl put acc) ∧ ∀ x, x ∈ l.foldl put acc ↔ x ∈ acc ∨ x ∈ l := by
    intro l
    induction l with
    | nil => intro acc h; exact ⟨h, by simp⟩
    | cons y l ih =>
      intro acc h
      obtain ⟨h1, h2⟩ := ih (put acc y) (h.put y)
      refine ⟨h1, fun x => ?_⟩
      rw [List.foldl_cons, h2, put_mem, List.mem_cons]
      constructor
      · rintro ((h | h) | h)
        · exact .inr (.inl h)
        · exact .inl h
        · exact .inr (.inr h)
      · rintro (h | h | h)
        · exact .inl (.inr h)
        · exact .inl (.inl h)
        · exact .inr h
  obtain ⟨h1, h2⟩ := key l [] List.Pairwise.nil
  exact ⟨h1, fun x => by rw [puts, h2]; simp⟩
end Go.RiseM
