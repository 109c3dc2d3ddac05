/- The plain mathematics of chapter 15: which instructions one comes to. No program in sight. -/
import Derived.Test.YtacokkcbbmpdcaaBackMath
namespace Go.FlowM
open Go.RiseM Go.Api

/-- One comes there. -/
inductive Reach (ins : List Ins) : Nat → Prop where
  | zero : 0 < ins.length → Reach ins 0
  | step {i k : Nat} : Reach ins i → (k : Int) ∈ next ins (i : Int) → Reach ins k
open Classical in
noncomputable def met (ins : List Ins) : List Bool := (List.range ins.length).map fun k => decide (Reach ins k)
theorem met_len (ins : List Ins) : (met ins).length = ins.length := by simp [met]
theorem Reach.lt {ins : List Ins} {k : Nat} (h : Reach ins k) : k < ins.length := by
  cases h with
  | zero h => exact h
  | step _ h => have := (next_in h).1; omega
theorem met_get {ins : List Ins} {k : Nat} : (met ins)[k]? = some true ↔ Reach ins k := by
  unfold met
  rw [List.getElem?_map]
  constructor
  · intro h
    obtain ⟨j, h1, h2⟩ := Option.map_eq_some_iff.1 h
    have : j = k := by
      obtain ⟨h3, h4⟩ := List.getElem?_eq_some_iff.1 h1
      simpa using h4.symm
    subst this; simpa using h2
  · intro h
    rw [List.getElem?_range h.lt]; simp [h]
theorem met_of {ins : List Ins} {m : List Bool} (hl : m.length = ins.length) (h : ∀ k, m[k]? = some true ↔ Reach ins k) : m = met ins := by
  apply List.ext_getElem?
  intro k
  by_cases hk : k < ins.length
  · have h1 := List.getElem?_eq_getElem (l := m) (show k < m.length by omega)
    have h2 := List.getElem?_eq_getElem (l := met ins) (show k < (met ins).length by rw [met_len]; exact hk)
    have h3 : m[k]? = some true ↔ (met ins)[k]? = some true := by rw [h, met_get]
    rw [h1, h2] at h3 ⊢
    simp only [Option.some.injEq] at h3 ⊢
    cases e1 : m[k]'(by omega) <;> cases e2 : (met ins)[k]'(by rw [met_len]; exact hk) <;> simp_all
  · rw [List.getElem?_eq_none (by omega), List.getElem?_eq_none (by rw [met_len]; omega)]

theorem cnt_set : ∀ {m : List Bool} {k : Nat}, m[k]? = some false → (m.set k true).count false + 1 = m.count false
  | [], _, h => by simp at h
  | b :: m, 0, h => by simp at h; subst h; simp
  | b :: m, k + 1, h => by
    have := cnt_set (m := m) (k := k) (by simpa using h)
    rw [List.set_cons_succ, List.count_cons, List.count_cons]; omega

/-- What holds of marks that are right as far as they go. -/
structure Marks (ins : List Ins) (m : List Bool) : Prop where
  len : m.length = ins.length
  zero : m[0]? = some true
  sound : ∀ k, m[k]? = some true → Reach ins k
def Closed (ins : List Ins) (m : List Bool) (i : Nat) : Prop := ∀ k : Nat, (k : Int) ∈ next ins i → m[k]? = some true
theorem set_true {m : List Bool} {y k : Nat} (h : m[k]? = some true) : (m.set y true)[k]? = some true := by
  by_cases e : k = y
  · subst e; rw [List.getElem?_set_self (List.getElem?_eq_some_iff.1 h).1]
  · rw [List.getElem?_set_ne (by omega)]; exact h
theorem Marks.first {ins : List Ins} (h : 0 < ins.length) : Marks ins ((List.replicate ins.length false).set 0 true) where
  len := by simp
  zero := by rw [List.getElem?_set_self (by simpa using h)]
  sound k hk := by
    by_cases e : k = 0
    · subst e; exact .zero h
    · rw [List.getElem?_set_ne (by omega), List.getElem?_replicate] at hk
      split at hk <;> simp at hk
theorem Marks.set {ins : List Ins} {m : List Bool} (h : Marks ins m) {i y : Nat} (hi : m[i]? = some true) (hy : (y : Int) ∈ next ins i) : Marks ins (m.set y true) where
  len := by rw [List.length_set]; exact h.len
  zero := set_true h.zero
  sound k hk := by
    by_cases e : k = y
    · subst e; exact .step (h.sound i hi) hy
    · rw [List.getElem?_set_ne (by omega)] at hk; exact h.sound k hk
theorem Marks.done {ins : List Ins} {m : List Bool} (h : Marks ins m) (hc : ∀ i, m[i]? = some true → Closed ins m i) : m = met ins := by
  refine met_of h.len fun k => ⟨h.sound k, fun hr => ?_⟩
  induction hr with
  | zero _ => exact h.zero
  | step _ hk ih => exact hc _ ih _ hk

/-- The marks, and what is yet to be looked at. -/
structure Work (ins : List Ins) (m : List Bool) (w : List Int) (cur : Option (Nat × Nat)) : Prop extends Marks ins m where
  work : ∀ x ∈ w, ∃ k : Nat, x = k ∧ m[k]? = some true
  closed : ∀ i : Nat, m[i]? = some true → (i : Int) ∈ w ∨ (∃ j, cur = some (i, j)) ∨ Closed ins m i
  now : ∀ i j : Nat, cur = some (i, j) → m[i]? = some true ∧ ∀ k : Nat, (k : Int) ∈ (next ins i).take j → m[k]? = some true
theorem Work.first {ins : List Ins} (h : 0 < ins.length) : Work ins ((List.replicate ins.length false).set 0 true) [0] none where
  toMarks := Marks.first h
  work x hx := by simp at hx; subst hx; exact ⟨0, rfl, (Marks.first h).zero⟩
  closed i hi := by
    by_cases e : i = 0
    · subst e; exact .inl (by simp)
    · rw [List.getElem?_set_ne (by omega), List.getElem?_replicate] at hi
      split at hi <;> simp at hi
  now i j h := by cases h
theorem Work.pop {ins : List Ins} {m : List Bool} {w : List Int} {i : Nat} (h : Work ins m (w ++ [(i : Int)]) none) : Work ins m w (some (i, 0)) where
  toMarks := h.toMarks
  work x hx := h.work x (by simp [hx])
  closed k hk := by
    rcases h.closed k hk with h1 | ⟨j, h1⟩ | h1
    · rw [List.mem_append, List.mem_singleton] at h1
      rcases h1 with h1 | h1
      · exact .inl h1
      · obtain rfl : k = i := by omega
        exact .inr (.inl ⟨0, rfl⟩)
    · cases h1
    · exact .inr (.inr h1)
  now i' j h' := by
    simp only [Option.some.injEq, Prod.mk.injEq] at h'
    obtain ⟨rfl, rfl⟩ := h'
    obtain ⟨k, h1, h2⟩ := h.work (i : Int) (by simp)
    obtain rfl : k = i := by omega
    exact ⟨h2, by simp⟩
theorem Work.old {ins : List Ins} {m : List Bool} {w : List Int} {i j y : Nat} (h : Work ins m w (some (i, j))) (hy : (next ins i)[j]? = some (y : Int)) (hm : m[y]? = some true) : Work ins m w (some (i, j + 1)) where
  toMarks := h.toMarks
  work := h.work
  closed k hk := by
    rcases h.closed k hk with h1 | ⟨j', h1⟩ | h1
    · exact .inl h1
    · simp only [Option.some.injEq, Prod.mk.injEq] at h1; obtain ⟨rfl, _⟩ := h1; exact .inr (.inl ⟨_, rfl⟩)
    · exact .inr (.inr h1)
  now i' j' h' := by
    simp only [Option.some.injEq, Prod.mk.injEq] at h'
    obtain ⟨rfl, rfl⟩ := h'
    obtain ⟨h1, h2⟩ := h.now i j rfl
    refine ⟨h1, fun k hk => ?_⟩
    rw [List.take_add_one, hy, List.mem_append] at hk
    rcases hk with hk | hk
    · exact h2 k hk
    · have e : (k : Int) = y := by simpa using hk
      obtain rfl : k = y := by omega
      exact hm
theorem Work.new {ins : List Ins} {m : List Bool} {w : List Int} {i j y : Nat} (h : Work ins m w (some (i, j))) (hy : (next ins i)[j]? = some (y : Int)) (hyl : y < ins.length) : Work ins (m.set y true) (w ++ [(y : Int)]) (some (i, j + 1)) := by
  obtain ⟨h1, h2⟩ := h.now i j rfl
  have hself : (m.set y true)[y]? = some true := by rw [List.getElem?_set_self (by rw [h.len]; exact hyl)]
  refine { toMarks := h.toMarks.set h1 (List.mem_of_getElem? hy), work := fun x hx => ?_, closed := fun k hk => ?_, now := fun i' j' h' => ?_ }
  · rw [List.mem_append, List.mem_singleton] at hx
    rcases hx with hx | hx
    · obtain ⟨k, e, hk⟩ := h.work x hx; exact ⟨k, e, set_true hk⟩
    · exact ⟨y, hx, hself⟩
  · by_cases e : k = y
    · subst e; exact .inl (by simp)
    · rw [List.getElem?_set_ne (by omega)] at hk
      rcases h.closed k hk with h3 | ⟨j', h3⟩ | h3
      · exact .inl (by simp [h3])
      · simp only [Option.some.injEq, Prod.mk.injEq] at h3; obtain ⟨rfl, _⟩ := h3; exact .inr (.inl ⟨_, rfl⟩)
      · exact .inr (.inr fun q hq => set_true (h3 q hq))
  · simp only [Option.some.injEq, Prod.mk.injEq] at h'
    obtain ⟨rfl, rfl⟩ := h'
    refine ⟨set_true h1, fun k hk => ?_⟩
    rw [List.take_add_one, hy, List.mem_append] at hk
    rcases hk with hk | hk
    · exact set_true (h2 k hk)
    · have e : (k : Int) = y := by simpa using hk
      obtain rfl : k = y := by omega
      exact hself
theorem Work.shut {ins : List Ins} {m : List Bool} {w : List Int} {i j : Nat} (h : Work ins m w (some (i, j))) (hj : (next ins i).length ≤ j) : Work ins m w none where
  toMarks := h.toMarks
  work := h.work
  closed k hk := by
    rcases h.closed k hk with h1 | ⟨j', h1⟩ | h1
    · exact .inl h1
    · simp only [Option.some.injEq, Prod.mk.injEq] at h1
      obtain ⟨rfl, _⟩ := h1
      refine .inr (.inr fun q hq => (h.now i j rfl).2 q ?_)
      rw [List.take_of_length_le hj]; exact hq
    · exact .inr (.inr h1)
  now i j h := by cases h
theorem Work.done {ins : List Ins} {m : List Bool} (h : Work ins m [] none) : m = met ins := h.toMarks.done fun i hi => by
  rcases h.closed i hi with h1 | ⟨j, h1⟩ | h1
  · simp at h1
  · cases h1
  · exact h1
/-- One pass over all of them, at the first i: what was marked anew, and whether something was. -/
structure Pass (ins : List Ins) (c0 : Nat) (more : Bool) (m : List Bool) (i j : Nat) : Prop extends Marks ins m where
  shut : more = false → (∀ k, k < i → m[k]? = some true → Closed ins m k) ∧ ∀ k : Nat, (k : Int) ∈ (next ins i).take j → m[i]? = some true → m[k]? = some true
  less : if more = true then m.count false < c0 else m.count false = c0
theorem Pass.begin {ins : List Ins} {m : List Bool} (h : Marks ins m) : Pass ins (m.count false) false m 0 0 :=
  { toMarks := h, shut := fun _ => ⟨fun k hk => by omega, fun k hk => by simp at hk⟩, less := by simp }
theorem Pass.skip {ins : List Ins} {c0 : Nat} {more : Bool} {m : List Bool} {i : Nat} (h : Pass ins c0 more m i 0) (hm : m[i]? = some false) : Pass ins c0 more m (i + 1) 0 :=
  { toMarks := h.toMarks, less := h.less, shut := fun e => ⟨fun k hk hk2 => by
      by_cases e2 : k = i
      · subst e2; rw [hm] at hk2; cases hk2
      · exact (h.shut e).1 k (by omega) hk2, fun k hk => by simp at hk⟩ }
theorem Pass.fin {ins : List Ins} {c0 : Nat} {more : Bool} {m : List Bool} {i j : Nat} (h : Pass ins c0 more m i j) (hj : (next ins i).length ≤ j) : Pass ins c0 more m (i + 1) 0 :=
  { toMarks := h.toMarks, less := h.less, shut := fun e => ⟨fun k hk hk2 => by
      by_cases e2 : k = i
      · subst e2
        intro q hq
        have := (h.shut e).2 q
        rw [List.take_of_length_le hj] at this
        exact this hq hk2
      · exact (h.shut e).1 k (by omega) hk2, fun k hk => by simp at hk⟩ }
theorem Pass.old {ins : List Ins} {c0 : Nat} {more : Bool} {m : List Bool} {i j y : Nat} (h : Pass ins c0 more m i j) (hy : (next ins i)[j]? = some (y : Int)) (hm : m[y]? = some true) : Pass ins c0 more m i (j + 1) :=
  { toMarks := h.toMarks, less := h.less, shut := fun e => ⟨(h.shut e).1, fun k hk hk2 => by
      rw [List.take_add_one, hy, List.mem_append] at hk
      rcases hk with hk | hk
      · exact (h.shut e).2 k hk hk2
      · have e : (k : Int) = y := by simpa using hk
        obtain rfl : k = y := by omega
        exact hm⟩ }
theorem set_same {m : List Bool} {y : Nat} (h : m[y]? = some true) : m.set y true = m := by
  apply List.ext_getElem?
  intro k
  by_cases e : k = y
  · subst e; rw [List.getElem?_set_self (List.getElem?_eq_some_iff.1 h).1, h]
  · rw [List.getElem?_set_ne (by omega)]
theorem Pass.new {ins : List Ins} {c0 : Nat} {more : Bool} {m : List Bool} {i j y : Nat} (h : Pass ins c0 more m i j) (hy : (next ins i)[j]? = some (y : Int)) (hi : m[i]? = some true) (hm : m[y]? = some false) : Pass ins c0 true (m.set y true) i (j + 1) := by
  refine { toMarks := h.toMarks.set hi (List.mem_of_getElem? hy), shut := fun e => by simp at e, less := ?_ }
  have h1 := cnt_set hm
  have h2 := h.less
  rw [if_pos rfl]
  split at h2 <;> omega
theorem Pass.done {ins : List Ins} {c0 : Nat} {m : List Bool} (h : Pass ins c0 false m ins.length 0) : m = met ins := h.toMarks.done fun i hi => (h.shut rfl).1 i (by rw [← h.len]; exact (List.getElem?_eq_some_iff.1 hi).1) hi
end Go.FlowM
