/- What is reached in a graph that is told by lists. No program in sight. -/
import Derived.Test.YtfhbainbmipddaaRise
namespace Go.ReachM
open Go.RiseM

/-- What is reached from some roots. -/
inductive RC (f : List (List Int)) (roots : List Int) : Nat → Prop where
  | root {c : Nat} : (c : Int) ∈ roots → c < f.length → RC f roots c
  | step {c d : Nat} {l : List Int} : RC f roots c → f[c]? = some l → (d : Int) ∈ l → d < f.length → RC f roots d
theorem RC.lt {f : List (List Int)} {r : List Int} {c : Nat} (h : RC f r c) : c < f.length := by
  cases h with
  | root _ h => exact h
  | step _ _ _ h => exact h
theorem RC.sub {f : List (List Int)} {r s : List Int} {c : Nat} (h : RC f r c) (hs : ∀ x ∈ r, x ∈ s) : RC f s c := by
  induction h with
  | root h1 h2 => exact .root (hs _ h1) h2
  | step _ h2 h3 h4 ih => exact .step ih h2 h3 h4
/-- The marked ones of the first i, as numbers. -/
def marked (m : List Bool) (i : Nat) : List Int := ((List.range i).filter fun c => decide (m[c]? = some true)).map fun c : Nat => (c : Int)
theorem marked_succ (m : List Bool) (i : Nat) : marked m (i + 1) = marked m i ++ (if m[i]? = some true then [(i : Int)] else []) := by
  unfold marked
  rw [List.range_succ, List.filter_append, List.map_append]
  congr 1
  by_cases h : m[i]? = some true <;> simp [h]
theorem marked_len (m : List Bool) (i : Nat) : (marked m i).length ≤ i := by
  have := List.length_filter_le (fun c => decide (m[c]? = some true)) (List.range i)
  unfold marked; rw [List.length_map]; rw [List.length_range] at this; exact this
open Classical in
noncomputable def fromL (f : List (List Int)) (r : List Int) : List Int := ((List.range f.length).filter fun c => decide (RC f r c)).map fun c : Nat => (c : Int)
theorem fromL_mem {f : List (List Int)} {r : List Int} {x : Int} : x ∈ fromL f r ↔ ∃ c : Nat, x = c ∧ RC f r c := by
  unfold fromL
  simp only [List.mem_map, List.mem_filter, List.mem_range, decide_eq_true_eq]
  constructor
  · rintro ⟨c, ⟨_, h⟩, rfl⟩; exact ⟨c, rfl, h⟩
  · rintro ⟨c, rfl, h⟩; exact ⟨c, ⟨h.lt, h⟩, rfl⟩
theorem fromL_mem' {f : List (List Int)} {r : List Int} {c : Nat} : (c : Int) ∈ fromL f r ↔ RC f r c := by
  rw [fromL_mem]
  constructor
  · rintro ⟨d, e, h⟩; obtain rfl : c = d := by omega
    exact h
  · intro h; exact ⟨c, rfl, h⟩
theorem rise_range {p : Nat → Bool} (n : Nat) : Rise (((List.range n).filter p).map fun c : Nat => (c : Int)) := by
  unfold Rise
  rw [List.pairwise_map]
  exact (List.Pairwise.filter p List.pairwise_lt_range).imp (by intro a b h; omega)
theorem fromL_rise (f : List (List Int)) (r : List Int) : Rise (fromL f r) := rise_range _
theorem fromL_len (f : List (List Int)) (r : List Int) : (fromL f r).length ≤ f.length := by
  unfold fromL
  rw [List.length_map]
  have := List.length_filter_le (fun c => @decide (RC f r c) (Classical.propDecidable _)) (List.range f.length)
  rw [List.length_range] at this; exact this
theorem fromL_in {f : List (List Int)} {r : List Int} {x : Int} (h : x ∈ fromL f r) : 0 ≤ x ∧ x < f.length := by
  obtain ⟨c, rfl, h2⟩ := fromL_mem.1 h
  have := h2.lt; omega
theorem fromL_congr {f : List (List Int)} {r s : List Int} (h : ∀ x, x ∈ r ↔ x ∈ s) : fromL f r = fromL f s := by
  refine Rise.eq (fromL_rise _ _) (fromL_rise _ _) fun x => ?_
  rw [fromL_mem, fromL_mem]
  exact ⟨fun ⟨c, e, hc⟩ => ⟨c, e, hc.sub fun y hy => (h y).1 hy⟩, fun ⟨c, e, hc⟩ => ⟨c, e, hc.sub fun y hy => (h y).2 hy⟩⟩
theorem fromL_nil {f : List (List Int)} {r : List Int} (h : ∀ x ∈ r, ¬ (0 ≤ x ∧ x < f.length)) : fromL f r = [] := by
  have key : ∀ c, ¬ RC f r c := by
    intro c hc
    induction hc with
    | root h1 h2 => exact h _ h1 ⟨by omega, by omega⟩
    | step _ _ _ _ ih => exact ih
  refine Rise.eq (fromL_rise _ _) List.Pairwise.nil fun x => ?_
  rw [fromL_mem]
  constructor
  · rintro ⟨c, _, hc⟩; exact absurd hc (key c)
  · intro h; simp at h
theorem marked_from {f : List (List Int)} {r : List Int} {m : List Bool} (hl : m.length = f.length) (h : ∀ c, m[c]? = some true ↔ RC f r c) : marked m m.length = fromL f r := by
  refine Rise.eq (rise_range _) (fromL_rise _ _) fun x => ?_
  rw [fromL_mem]
  unfold marked
  simp only [List.mem_map, List.mem_filter, List.mem_range, decide_eq_true_eq]
  constructor
  · rintro ⟨c, ⟨_, h1⟩, rfl⟩; exact ⟨c, rfl, (h c).1 h1⟩
  · rintro ⟨c, rfl, h1⟩; exact ⟨c, ⟨by rw [hl]; exact h1.lt, (h c).2 h1⟩, rfl⟩

/-- How much the unmarked ones may yet bring. -/
def wt : List (List Int) → List Bool → Nat
  | l :: f, b :: m => (if b = true then 0 else l.length) + wt f m
  | _, _ => 0
theorem wt_set : ∀ {f : List (List Int)} {m : List Bool} {c : Nat} {l : List Int}, f[c]? = some l → m[c]? = some false → wt f (m.set c true) + l.length = wt f m
  | [], _, _, _, h, _ => by simp at h
  | _ :: _, [], _, _, _, h => by simp at h
  | k :: f, b :: m, 0, l, h1, h2 => by
    simp at h1 h2; subst h1; subst h2
    simp [wt]; omega
  | k :: f, b :: m, c + 1, l, h1, h2 => by
    have := wt_set (f := f) (m := m) (c := c) (l := l) (by simpa using h1) (by simpa using h2)
    simp only [List.set_cons_succ, wt]; omega
theorem wt_rep (f : List (List Int)) (n : Nat) : wt f (List.replicate n false) ≤ (f.map List.length).sum := by
  induction f generalizing n with
  | nil => simp [wt]
  | cons l f ih =>
    cases n with
    | zero => simp [wt]
    | succ n => rw [List.replicate_succ, wt, List.map_cons, List.sum_cons]; have := ih n; simp; omega
theorem cnt_set : ∀ {m : List Bool} {k : Nat}, m[k]? = some false → (m.set k true).count false + 1 = m.count false
  | [], _, h => by simp at h
  | b :: m, 0, h => by simp at h; subst h; simp
  | b :: m, k + 1, h => by
    have := cnt_set (m := m) (k := k) (by simpa using h)
    rw [List.set_cons_succ, List.count_cons, List.count_cons]; omega
theorem set_true {m : List Bool} {y k : Nat} (h : m[k]? = some true) : (m.set y true)[k]? = some true := by
  by_cases e : k = y
  · subst e; rw [List.getElem?_set_self (List.getElem?_eq_some_iff.1 h).1]
  · rw [List.getElem?_set_ne (by omega)]; exact h
theorem set_back {m : List Bool} {y k : Nat} (h : (m.set y true)[k]? = some true) : k = y ∨ m[k]? = some true := by
  by_cases e : k = y
  · exact .inl e
  · rw [List.getElem?_set_ne (by omega)] at h; exact .inr h

/-- Marks, and what is yet to be looked at. -/
structure Wk (f : List (List Int)) (r : List Int) (m : List Bool) (w : List Int) : Prop where
  len : m.length = f.length
  sound : ∀ c : Nat, m[c]? = some true → RC f r c
  work : ∀ c : Nat, (c : Int) ∈ w → c < f.length → RC f r c
  roots : ∀ c : Nat, (c : Int) ∈ r → c < f.length → m[c]? = some true ∨ (c : Int) ∈ w
  closed : ∀ (c d : Nat) (l : List Int), m[c]? = some true → f[c]? = some l → (d : Int) ∈ l → d < f.length → m[d]? = some true ∨ (d : Int) ∈ w
theorem Wk.first (f : List (List Int)) (r : List Int) : Wk f r (List.replicate f.length false) r where
  len := by simp
  sound c h := by rw [List.getElem?_replicate] at h; split at h <;> simp at h
  work c h1 h2 := .root h1 h2
  roots c h1 _ := .inr h1
  closed c d l h := by rw [List.getElem?_replicate] at h; split at h <;> simp at h
theorem Wk.drop {f : List (List Int)} {r : List Int} {m : List Bool} {w : List Int} {x : Int} (h : Wk f r m (w ++ [x])) (hx : ∀ c : Nat, x = c → c < f.length → m[c]? = some true) : Wk f r m w where
  len := h.len
  sound := h.sound
  work c h1 := h.work c (by simp [h1])
  roots c h1 h2 := by
    rcases h.roots c h1 h2 with h3 | h3
    · exact .inl h3
    · rw [List.mem_append, List.mem_singleton] at h3
      exact h3.elim .inr fun e => .inl (hx c e.symm h2)
  closed c d l h1 h2 h3 h4 := by
    rcases h.closed c d l h1 h2 h3 h4 with h5 | h5
    · exact .inl h5
    · rw [List.mem_append, List.mem_singleton] at h5
      exact h5.elim .inr fun e => .inl (hx d e.symm h4)
theorem Wk.mark {f : List (List Int)} {r : List Int} {m : List Bool} {w : List Int} {c : Nat} {l : List Int} (h : Wk f r m (w ++ [(c : Int)])) (hl : f[c]? = some l) : Wk f r (m.set c true) (w ++ l) := by
  have hc : c < f.length := (List.getElem?_eq_some_iff.1 hl).1
  have hs : (m.set c true)[c]? = some true := by rw [List.getElem?_set_self (by rw [h.len]; exact hc)]
  have hrc : RC f r c := h.work c (by simp) hc
  have key : ∀ d : Nat, (m[d]? = some true ∨ (d : Int) ∈ w ++ [(c : Int)]) → (m.set c true)[d]? = some true ∨ (d : Int) ∈ w ++ l := fun d hd => by
    rw [List.mem_append, List.mem_singleton] at hd
    rcases hd with h1 | h1 | h1
    · exact .inl (set_true h1)
    · exact .inr (by simp [h1])
    · obtain rfl : d = c := by omega
      exact .inl hs
  refine ⟨by rw [List.length_set]; exact h.len, fun d hd => ?_, fun d hd hdl => ?_, fun d h1 h2 => key d (h.roots d h1 h2), fun d e k h1 h2 h3 h4 => ?_⟩
  · rcases set_back hd with rfl | hd
    · exact hrc
    · exact h.sound d hd
  · rw [List.mem_append] at hd
    rcases hd with hd | hd
    · exact h.work d (by simp [hd]) hdl
    · exact .step hrc hl hd hdl
  · rcases set_back h1 with rfl | h1
    · rw [hl] at h2; cases h2; exact .inr (by simp [h3])
    · exact key e (h.closed d e k h1 h2 h3 h4)
theorem Wk.done {f : List (List Int)} {r : List Int} {m : List Bool} (h : Wk f r m []) : marked m m.length = fromL f r := by
  refine marked_from h.len fun c => ⟨h.sound c, fun hc => ?_⟩
  induction hc with
  | root h1 h2 => exact (h.roots _ h1 h2).elim id (fun h => by simp at h)
  | step _ h2 h3 h4 ih => exact (h.closed _ _ _ ih h2 h3 h4).elim id (fun h => by simp at h)

/-- Marks in a pass over all of them, at the first k of what c leads to. -/
structure Ps (f : List (List Int)) (r : List Int) (c0 : Nat) (more : Bool) (m : List Bool) (c k : Nat) : Prop where
  len : m.length = f.length
  sound : ∀ c : Nat, m[c]? = some true → RC f r c
  roots : ∀ c : Nat, (c : Int) ∈ r → c < f.length → m[c]? = some true
  shut : more = false → (∀ (a d : Nat) (l : List Int), a < c → m[a]? = some true → f[a]? = some l → (d : Int) ∈ l → d < f.length → m[d]? = some true) ∧
    ∀ (d : Nat) (l : List Int), m[c]? = some true → f[c]? = some l → (d : Int) ∈ l.take k → d < f.length → m[d]? = some true
  less : if more = true then m.count false < c0 else m.count false = c0
theorem Ps.begin {f : List (List Int)} {r : List Int} {m : List Bool} (h1 : m.length = f.length) (h2 : ∀ c : Nat, m[c]? = some true → RC f r c) (h3 : ∀ c : Nat, (c : Int) ∈ r → c < f.length → m[c]? = some true) : Ps f r (m.count false) false m 0 0 :=
  ⟨h1, h2, h3, fun _ => ⟨fun a d l h => by omega, fun d l _ _ h => by simp at h⟩, by simp⟩
theorem Ps.fin {f : List (List Int)} {r : List Int} {c0 : Nat} {more : Bool} {m : List Bool} {c k : Nat} (h : Ps f r c0 more m c k) (hk : m[c]? = some true → ∀ l, f[c]? = some l → l.length ≤ k) : Ps f r c0 more m (c + 1) 0 :=
  ⟨h.len, h.sound, h.roots, fun e => ⟨fun a d l h1 h2 h3 h4 h5 => by
    by_cases e2 : a = c
    · subst e2
      refine (h.shut e).2 d l h2 h3 ?_ h5
      rw [List.take_of_length_le (hk h2 l h3)]; exact h4
    · exact (h.shut e).1 a d l (by omega) h2 h3 h4 h5, fun d l _ _ h => by simp at h⟩, h.less⟩
theorem Ps.old {f : List (List Int)} {r : List Int} {c0 : Nat} {more : Bool} {m : List Bool} {c k : Nat} {l : List Int} {x : Int} (h : Ps f r c0 more m c k) (hl : f[c]? = some l) (hx : l[k]? = some x) (hm : ∀ d : Nat, x = d → d < f.length → m[d]? = some true) : Ps f r c0 more m c (k + 1) :=
  ⟨h.len, h.sound, h.roots, fun e => ⟨(h.shut e).1, fun d l' h1 h2 h3 h4 => by
    rw [hl] at h2; cases h2
    rw [List.take_add_one, hx, List.mem_append] at h3
    rcases h3 with h3 | h3
    · exact (h.shut e).2 d l h1 hl h3 h4
    · exact hm d (by have h5 := h3; simp at h5; exact h5.symm) h4⟩, h.less⟩
theorem Ps.new {f : List (List Int)} {r : List Int} {c0 : Nat} {more : Bool} {m : List Bool} {c k : Nat} {l : List Int} {y : Nat} (h : Ps f r c0 more m c k) (hl : f[c]? = some l) (hx : l[k]? = some (y : Int)) (hc : m[c]? = some true) (hm : m[y]? = some false) : Ps f r c0 true (m.set y true) c (k + 1) := by
  have hy : y < f.length := by rw [← h.len]; exact (List.getElem?_eq_some_iff.1 hm).1
  refine ⟨by rw [List.length_set]; exact h.len, fun d hd => ?_, fun d h1 h2 => set_true (h.roots d h1 h2), fun e => by simp at e, ?_⟩
  · rcases set_back hd with rfl | hd
    · exact .step (h.sound c hc) hl (List.mem_of_getElem? hx) hy
    · exact h.sound d hd
  · have h1 := cnt_set hm
    have h2 := h.less
    rw [if_pos rfl]
    split at h2 <;> omega
theorem Ps.done {f : List (List Int)} {r : List Int} {c0 : Nat} {m : List Bool} (h : Ps f r c0 false m f.length 0) : marked m m.length = fromL f r := by
  refine marked_from h.len fun c => ⟨h.sound c, fun hc => ?_⟩
  induction hc with
  | root h1 h2 => exact h.roots _ h1 h2
  | step hc h2 h3 h4 ih => exact (h.shut rfl).1 _ _ _ hc.lt ih h2 h3 h4
end Go.ReachM
