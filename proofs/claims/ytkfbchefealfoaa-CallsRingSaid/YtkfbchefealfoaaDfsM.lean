/- What the walk in depth meets, plainly. No program in sight. -/
import Derived.Test.YtkfbchefealfoaaTarTop
namespace Go.TarM
/-- Those that were met are codes, each once. -/
def MetOk (e : List (List Nat)) (M : List Nat) : Prop := M.Nodup ∧ ∀ x ∈ M, x < e.length
theorem MetOk.le {e : List (List Nat)} {M : List Nat} (h : MetOk e M) : M.length ≤ e.length := by
  have := nodup_len (m := List.range e.length) h.1 (fun x hx => List.mem_range.2 (h.2 x hx))
  rwa [List.length_range] at this
theorem MetOk.snoc {e : List (List Nat)} {M : List Nat} (h : MetOk e M) {f : Nat} (hf : f < e.length) (hn : f ∉ M) : MetOk e (M ++ [f]) :=
  ⟨List.nodup_append.2 ⟨h.1, by simp, fun a ha b hb => by simp at hb; subst hb; exact (ne_mem ha hn).symm⟩, fun x hx => by
    rcases List.mem_append.1 hx with hx | hx
    · exact h.2 x hx
    · simp at hx; omega⟩
theorem fold_ok {e : List (List Nat)} {k : Nat} (hd : ∀ (f : Nat) (s : List Nat × List Nat), MetOk e s.1 → f < e.length → f ∉ s.1 → MetOk e (dfs e k f s).1 ∧ ∃ S, (dfs e k f s).1 = s.1 ++ S) :
    ∀ (p : List Nat) (s : List Nat × List Nat), (∀ g ∈ p, g < e.length) → MetOk e s.1 → MetOk e (p.foldl (step e k) s).1 ∧ ∃ S, (p.foldl (step e k) s).1 = s.1 ++ S
  | [], s, _, h => ⟨h, [], by simp⟩
  | g :: p, s, hp, h => by
    rw [List.foldl_cons]
    have h1 : MetOk e (step e k s g).1 ∧ ∃ S, (step e k s g).1 = s.1 ++ S := by
      unfold step
      split
      · exact ⟨h, [], by simp⟩
      · exact hd g s h (hp g (by simp)) ‹_›
    obtain ⟨h2, S, hS⟩ := h1
    obtain ⟨h3, T, hT⟩ := fold_ok hd p (step e k s g) (fun x hx => hp x (by simp [hx])) h2
    exact ⟨h3, S ++ T, by rw [hT, hS, List.append_assoc]⟩
theorem dfs_ok {e : List (List Nat)} (hE : ∀ x, ∀ y ∈ kids e x, y < e.length) : ∀ (k f : Nat) (s : List Nat × List Nat), MetOk e s.1 → f < e.length → f ∉ s.1 → MetOk e (dfs e k f s).1 ∧ ∃ S, (dfs e k f s).1 = s.1 ++ S
  | 0, f, s, h, _, _ => ⟨h, [], by simp [dfs]⟩
  | k + 1, f, s, h, hf, hn => by
    rw [dfs_succ]
    obtain ⟨h1, S, hS⟩ := fold_ok (dfs_ok hE k) (kids e f) (s.1 ++ [f], s.2) (hE f) (h.snoc hf hn)
    exact ⟨h1, [f] ++ S, by rw [hS, List.append_assoc]⟩
theorem step_ok {e : List (List Nat)} (hE : ∀ x, ∀ y ∈ kids e x, y < e.length) {k : Nat} {s : List Nat × List Nat} {g : Nat} (h : MetOk e s.1) (hg : g < e.length) : MetOk e (step e k s g).1 ∧ ∃ S, (step e k s g).1 = s.1 ++ S := by
  unfold step
  split
  · exact ⟨h, [], by simp⟩
  · exact dfs_ok hE k g s h hg ‹_›
theorem fold_len {e : List (List Nat)} {k : Nat} (hd : ∀ (f : Nat) (s : List Nat × List Nat), (dfs e k f s).1.length + s.2.length = (dfs e k f s).2.length + s.1.length) :
    ∀ (p : List Nat) (s : List Nat × List Nat), (p.foldl (step e k) s).1.length + s.2.length = (p.foldl (step e k) s).2.length + s.1.length
  | [], s => by simp; omega
  | g :: p, s => by
    rw [List.foldl_cons]
    have h1 : (step e k s g).1.length + s.2.length = (step e k s g).2.length + s.1.length := by
      unfold step
      split
      · omega
      · exact hd g s
    have h2 := fold_len hd p (step e k s g)
    omega
theorem dfs_len {e : List (List Nat)} : ∀ (k f : Nat) (s : List Nat × List Nat), (dfs e k f s).1.length + s.2.length = (dfs e k f s).2.length + s.1.length
  | 0, f, s => by simp [dfs]; omega
  | k + 1, f, s => by
    rw [dfs_succ]
    have := fold_len (e := e) (dfs_len (e := e) k) (kids e f) (s.1 ++ [f], s.2)
    simp only [List.length_append, List.length_singleton] at this ⊢
    omega
/-- Behind the first j kids. -/
def fo (e : List (List Nat)) (k f : Nat) (s : List Nat × List Nat) (j : Nat) : List Nat × List Nat := ((kids e f).take j).foldl (step e k) (s.1 ++ [f], s.2)
theorem fo_zero (e : List (List Nat)) (k f : Nat) (s : List Nat × List Nat) : fo e k f s 0 = (s.1 ++ [f], s.2) := rfl
theorem fo_succ {e : List (List Nat)} {k f : Nat} {s : List Nat × List Nat} {j g : Nat} (h : (kids e f)[j]? = some g) : fo e k f s (j + 1) = step e k (fo e k f s j) g := by
  unfold fo; rw [List.take_add_one, h, List.foldl_append]; rfl
theorem fo_all {e : List (List Nat)} {k f : Nat} {s : List Nat × List Nat} {j : Nat} (h : (kids e f).length ≤ j) : dfs e (k + 1) f s = ((fo e k f s j).1, (fo e k f s j).2 ++ [f]) := by
  rw [dfs_succ]; unfold fo; rw [List.take_of_length_le h]
theorem fo_ok {e : List (List Nat)} (hE : ∀ x, ∀ y ∈ kids e x, y < e.length) {k f : Nat} {s : List Nat × List Nat} (h : MetOk e s.1) (hf : f < e.length) (hn : f ∉ s.1) (j : Nat) : MetOk e (fo e k f s j).1 ∧ ∃ S, (fo e k f s j).1 = (s.1 ++ [f]) ++ S :=
  fold_ok (dfs_ok hE k) ((kids e f).take j) (s.1 ++ [f], s.2) (fun g hg => hE f g (List.mem_of_mem_take hg)) (h.snoc hf hn)
theorem fo_len (e : List (List Nat)) (k f : Nat) (s : List Nat × List Nat) (j : Nat) : (fo e k f s j).1.length + s.2.length = (fo e k f s j).2.length + (s.1.length + 1) := by
  have := fold_len (e := e) (k := k) (dfs_len k) ((kids e f).take j) (s.1 ++ [f], s.2)
  simp only [List.length_append, List.length_singleton] at this
  exact this
theorem dfs_mem {e : List (List Nat)} (hE : ∀ x, ∀ y ∈ kids e x, y < e.length) {k f : Nat} {s : List Nat × List Nat} (h : MetOk e s.1) (hf : f < e.length) (hn : f ∉ s.1) : f ∈ (dfs e (k + 1) f s).1 := by
  obtain ⟨_, S, hS⟩ := fo_ok hE (k := k) h hf hn (kids e f).length
  rw [fo_all (Nat.le_refl _), hS]; simp
theorem topN_ok {e : List (List Nat)} (hE : ∀ x, ∀ y ∈ kids e x, y < e.length) : ∀ k, k ≤ e.length → MetOk e (topN e k).1 ∧ (topN e k).2.length = (topN e k).1.length ∧ ∀ g, g < k → g ∈ (topN e k).1
  | 0, _ => ⟨⟨List.nodup_nil, by simp [topN]⟩, rfl, by omega⟩
  | k + 1, hk => by
    obtain ⟨h1, h2, h3⟩ := topN_ok hE k (by omega)
    rw [topN_succ]
    obtain ⟨h4, S, hS⟩ := step_ok hE (k := e.length) h1 (show k < e.length by omega)
    refine ⟨h4, ?_, fun g hg => ?_⟩
    · unfold step
      split
      · exact h2
      · have := dfs_len (e := e) e.length k (topN e k); omega
    · by_cases hgk : g = k
      · subst hgk
        unfold step
        split
        · assumption
        · rename_i hn
          obtain ⟨m, hm⟩ : ∃ m, e.length = m + 1 := ⟨e.length - 1, by omega⟩
          have := dfs_mem (k := m) hE h1 (show g < e.length by omega) hn
          rw [← hm] at this; exact this
      · rw [hS]; exact List.mem_append_left _ (h3 g (by omega))
def Sub2 (s t : List Nat × List Nat) : Prop := (∀ x ∈ t.2, x ∈ t.1) ∧ ∀ x ∈ s.1, x ∈ t.1
theorem fold_sub {e : List (List Nat)} {k : Nat} (hd : ∀ (f : Nat) (s : List Nat × List Nat), (∀ x ∈ s.2, x ∈ s.1) → Sub2 s (dfs e k f s)) : ∀ (p : List Nat) (s : List Nat × List Nat), (∀ x ∈ s.2, x ∈ s.1) → Sub2 s (p.foldl (step e k) s)
  | [], s, h => ⟨h, fun _ h => h⟩
  | g :: p, s, h => by
    rw [List.foldl_cons]
    have h1 : Sub2 s (step e k s g) := by
      unfold step
      split
      · exact ⟨h, fun _ h => h⟩
      · exact hd g s h
    have h2 := fold_sub hd p (step e k s g) h1.1
    exact ⟨h2.1, fun x hx => h2.2 x (h1.2 x hx)⟩
theorem dfs_sub {e : List (List Nat)} : ∀ (k f : Nat) (s : List Nat × List Nat), (∀ x ∈ s.2, x ∈ s.1) → Sub2 s (dfs e k f s)
  | 0, f, s, h => ⟨h, fun _ h => h⟩
  | k + 1, f, s, h => by
    rw [dfs_succ]
    have h1 := fold_sub (e := e) (dfs_sub (e := e) k) (kids e f) (s.1 ++ [f], s.2) (fun x hx => List.mem_append_left _ (h x hx))
    refine ⟨fun x hx => ?_, fun x hx => h1.2 x (List.mem_append_left _ hx)⟩
    rcases List.mem_append.1 hx with hx | hx
    · exact h1.1 x hx
    · simp at hx; subst hx; exact h1.2 x (by simp)
theorem topN_sub (e : List (List Nat)) (k : Nat) : ∀ x ∈ (topN e k).2, x ∈ (topN e k).1 :=
  (fold_sub (e := e) (dfs_sub (e := e) e.length) (List.range k) ([], []) (by simp)).1
open Classical in
/-- The first one behind j that leads to f and back; f: there is none. -/
noncomputable def firstOf (e : List (List Nat)) (f : Nat) (M : List Nat) (j : Nat) : Nat := ((M.drop j).find? fun g => decide (R e f g ∧ R e g f)).getD f
theorem firstOf_yes {e : List (List Nat)} {f g : Nat} {M : List Nat} {j : Nat} (h : M[j]? = some g) (hr : R e f g ∧ R e g f) : firstOf e f M j = g := by
  unfold firstOf
  have hd : M.drop j = g :: M.drop (j + 1) := by
    rw [List.drop_eq_getElem_cons (List.getElem?_eq_some_iff.1 h).1, (List.getElem?_eq_some_iff.1 h).2]
  rw [hd, List.find?_cons_of_pos (by simpa using hr)]; rfl
theorem firstOf_no {e : List (List Nat)} {f g : Nat} {M : List Nat} {j : Nat} (h : M[j]? = some g) (hr : ¬ (R e f g ∧ R e g f)) : firstOf e f M j = firstOf e f M (j + 1) := by
  unfold firstOf
  have hd : M.drop j = g :: M.drop (j + 1) := by
    rw [List.drop_eq_getElem_cons (List.getElem?_eq_some_iff.1 h).1, (List.getElem?_eq_some_iff.1 h).2]
  rw [hd, List.find?_cons_of_neg (by simpa using hr)]
theorem firstOf_end (e : List (List Nat)) (f : Nat) (M : List Nat) : firstOf e f M M.length = f := by
  unfold firstOf; rw [List.drop_length]; rfl
theorem firstOf_root {e : List (List Nat)} {f : Nat} {M : List Nat} (hf : f ∈ M) : firstOf e f M 0 = f ↔ IsRoot e M f := by
  unfold firstOf
  rw [List.drop_zero]
  generalize hfi : List.find? _ M = o
  cases o with
  | none =>
    have := List.find?_eq_none.1 hfi f hf
    simp only [decide_eq_true_eq] at this
    exact absurd ⟨R.refl f, R.refl f⟩ this
  | some g0 =>
    obtain ⟨h1, A, B, h2, h3⟩ := List.find?_eq_some_iff_append.1 hfi
    simp only [decide_eq_true_eq] at h1
    have hA : ∀ a ∈ A, ¬ (R e f a ∧ R e a f) := fun a ha => by simpa using h3 a ha
    have hg0 : g0 ∉ A := fun h => hA g0 h h1
    have hfA : f ∉ A := fun h => hA f h ⟨.refl f, .refl f⟩
    have hn0 : num M g0 = A.length + 1 := by rw [h2]; exact num_head hg0
    have big : ∀ x ∈ M, x ∉ A → A.length + 1 ≤ num M x := fun x hx hxA => by
      rw [h2] at hx ⊢
      exact num_new hxA ((List.mem_append.1 hx).resolve_left hxA)
    show g0 = f ↔ _
    constructor
    · intro h g hg h4 h5
      rw [← h, hn0]
      exact big g hg fun h6 => hA g h6 ⟨h4, h5⟩
    · intro h
      have h4 := h g0 (by rw [h2]; simp) h1.1 h1.2
      have h5 := big f hf hfA
      exact num_inj (M := M) (by rw [h2]; simp) hf (by omega)
end Go.TarM
