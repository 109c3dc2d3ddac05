/- The plain mathematics of chapter 16: which variables are live. No program in sight. -/
import Derived.Test.YtnpbadghodkhlaaFlowMath
namespace Go.LivM
open Go.RiseM Go.Api Go.FlowM

/-- The numbers that an instruction asks. -/
def asks (x : Ins) : List Int :=
  if x.op = 3 ∨ x.op = 5 ∨ x.op = 6 ∨ x.op = 10 ∨ x.op = 12 then [x.b]
  else if x.op = 4 ∨ x.op = 8 then [x.b, x.c]
  else if x.op = 7 then [x.a, x.b]
  else if x.op = 9 then [x.a, x.b, x.c]
  else if x.op = 13 then x.args
  else if x.op = 15 ∨ x.op = 17 ∨ x.op = 18 ∨ x.op = 20 then [x.a]
  else []
def uses (x : Ins) : List Int := puts ((asks x).filter fun y => decide (In 4000 y))
abbrev Sets (op : Int) : Prop := op = 1 ∨ op = 2 ∨ op = 3 ∨ op = 4 ∨ op = 5 ∨ op = 6 ∨ op = 8 ∨ op = 10 ∨ op = 11 ∨ op = 12 ∨ op = 13 ∨ op = 14 ∨ op = 19
def def_ (x : Ins) : Int := if Sets x.op ∧ In 4000 x.a then x.a else -1
theorem uses_rise (x : Ins) : Rise (uses x) := (puts_spec _).1
theorem uses_in {x : Ins} {v : Int} : v ∈ uses x ↔ v ∈ asks x ∧ In 4000 v := by
  unfold uses
  rw [(puts_spec _).2, List.mem_filter, decide_eq_true_iff]
theorem rise_len : ∀ (l : List Int) (m : Int) (n : Nat), Rise l → (∀ x ∈ l, m ≤ x ∧ x < m + n) → l.length ≤ n
  | [], _, _, _, _ => Nat.zero_le _
  | x :: l, m, n, hr, h => by
    obtain ⟨h1, h2⟩ := List.pairwise_cons.1 hr
    have hx := h x (by simp)
    cases n with
    | zero => omega
    | succ n =>
      have := rise_len l (m + 1) n h2 fun y hy => by
        have := h1 y hy
        have := h y (by simp [hy])
        omega
      rw [List.length_cons]; omega
theorem uses_len (x : Ins) : (uses x).length ≤ 4000 := rise_len _ 0 4000 (uses_rise x) fun v hv => by have := (uses_in.1 hv).2; omega
/-- A variable is live ahead of an instruction. -/
inductive Live (ins : List Ins) : Nat → Int → Prop where
  | use {i : Nat} {x : Ins} {v : Int} (h : ins[i]? = some x) (hv : v ∈ uses x) : Live ins i v
  | pass {i j : Nat} {x : Ins} {v : Int} (h : ins[i]? = some x) (hd : def_ x ≠ v) (hj : (j : Int) ∈ next ins i) (hl : Live ins j v) : Live ins i v
theorem Live.var {ins : List Ins} {i : Nat} {v : Int} (h : Live ins i v) : In 4000 v := by
  induction h with
  | use _ hv => exact (uses_in.1 hv).2
  | pass _ _ _ _ ih => exact ih
theorem Live.lt {ins : List Ins} {i : Nat} {v : Int} (h : Live ins i v) : i < ins.length := by
  cases h with
  | use h _ => exact (List.getElem?_eq_some_iff.1 h).1
  | pass h _ _ _ => exact (List.getElem?_eq_some_iff.1 h).1
/-- One step back. -/
def Step (ins : List Ins) (H : Nat → Int → Prop) (i : Nat) (v : Int) : Prop := ∃ x, ins[i]? = some x ∧ (v ∈ uses x ∨ def_ x ≠ v ∧ ∃ j : Nat, (j : Int) ∈ next ins i ∧ H j v)
theorem step_mono {ins : List Ins} {H H' : Nat → Int → Prop} (h : ∀ i v, H i v → H' i v) {i : Nat} {v : Int} (hs : Step ins H i v) : Step ins H' i v := by
  obtain ⟨x, hx, h1 | ⟨h1, j, h2, h3⟩⟩ := hs
  · exact ⟨x, hx, .inl h1⟩
  · exact ⟨x, hx, .inr ⟨h1, j, h2, h j v h3⟩⟩
/-- What holds on the way: nothing but what is live, and nothing without a reason. -/
structure Inv (ins : List Ins) (H : Nat → Int → Prop) : Prop where
  live : ∀ i v, H i v → Live ins i v
  step : ∀ i v, H i v → Step ins H i v
theorem Inv.stepLive {ins : List Ins} {H : Nat → Int → Prop} (h : Inv ins H) {i : Nat} {v : Int} (hs : Step ins H i v) : Live ins i v := by
  obtain ⟨x, hx, h1 | ⟨h1, j, h2, h3⟩⟩ := hs
  · exact .use hx h1
  · exact .pass hx h1 h2 (h.live j v h3)
theorem inv_set {ins : List Ins} {H H' : Nat → Int → Prop} (h : Inv ins H) {k : Nat} (h1 : ∀ v, H' k v ↔ Step ins H k v) (h2 : ∀ i v, i ≠ k → (H' i v ↔ H i v)) : Inv ins H' ∧ ∀ i v, H i v → H' i v := by
  have up : ∀ i v, H i v → H' i v := fun i v hi => by
    by_cases e : i = k
    · subst e; exact (h1 v).2 (h.step i v hi)
    · exact (h2 i v e).2 hi
  refine ⟨⟨fun i v hi => ?_, fun i v hi => ?_⟩, up⟩
  · by_cases e : i = k
    · subst e; exact h.stepLive ((h1 v).1 hi)
    · exact h.live i v ((h2 i v e).1 hi)
  · by_cases e : i = k
    · subst e; exact step_mono up ((h1 v).1 hi)
    · exact step_mono up (h.step i v ((h2 i v e).1 hi))
theorem inv_none {ins : List Ins} {H : Nat → Int → Prop} (h : ∀ i v, ¬ H i v) : Inv ins H := ⟨fun i v k => absurd k (h i v), fun i v k => absurd k (h i v)⟩
/-- When nothing more comes, all that is live is there. -/
theorem fix_live {ins : List Ins} {H : Nat → Int → Prop} (h : ∀ i v, Step ins H i v → H i v) {i : Nat} {v : Int} (hl : Live ins i v) : H i v := by
  induction hl with
  | use hx hv => exact h _ _ ⟨_, hx, .inl hv⟩
  | pass hx hd hj _ ih => exact h _ _ ⟨_, hx, .inr ⟨hd, _, hj, ih⟩⟩

/-! ### How much there is -/
def vars : List Int := (List.range 4000).map fun k => ((k : Nat) : Int)
theorem mem_vars {v : Int} : v ∈ vars ↔ In 4000 v := by
  unfold vars
  simp only [List.mem_map, List.mem_range]
  constructor
  · rintro ⟨k, hk, rfl⟩; exact ⟨by omega, by omega⟩
  · rintro ⟨h1, h2⟩; exact ⟨v.toNat, by omega, by omega⟩
theorem vars_rise : Rise vars := by
  unfold Rise vars
  rw [List.pairwise_map]
  exact List.pairwise_lt_range.imp fun h => by omega
open Classical in
noncomputable def size (n : Nat) (H : Nat → Int → Prop) : Nat := ((List.range n).map fun i => vars.countP fun v => decide (H i v)).sum
theorem sum_le2 {l : List Nat} {f g : Nat → Nat} (h : ∀ x ∈ l, f x ≤ g x) : (l.map f).sum ≤ (l.map g).sum := by
  induction l with
  | nil => simp
  | cons x l ih =>
    have := h x (by simp)
    have := ih fun y hy => h y (by simp [hy])
    simp only [List.map_cons, List.sum_cons]; omega
theorem sum_lt2 {l : List Nat} {f g : Nat → Nat} (h : ∀ x ∈ l, f x ≤ g x) {k : Nat} (hk : k ∈ l) (hlt : f k < g k) : (l.map f).sum < (l.map g).sum := by
  induction l with
  | nil => simp at hk
  | cons x l ih =>
    simp only [List.map_cons, List.sum_cons]
    have h1 := h x (by simp)
    rcases List.mem_cons.1 hk with rfl | hk
    · have := sum_le2 fun y hy => h y (List.mem_cons_of_mem _ hy)
      omega
    · have := ih (fun y hy => h y (by simp [hy])) hk
      omega
theorem size_le (n : Nat) (H : Nat → Int → Prop) : size n H ≤ n * 4000 := by
  have h : ∀ m : Nat, ((List.range m).map fun _ => 4000).sum = m * 4000 := fun m => by
    induction m with
    | zero => rfl
    | succ m ih => rw [List.range_succ, List.map_append, List.sum_append, ih]; simp; omega
  rw [← h n]
  refine sum_le2 fun i _ => ?_
  refine Nat.le_trans List.countP_le_length ?_
  unfold vars; simp
theorem size_mono {n : Nat} {H H' : Nat → Int → Prop} (h : ∀ i v, H i v → H' i v) : size n H ≤ size n H' :=
  sum_le2 fun i _ => List.countP_mono_left fun v _ hv => by simpa using h i v (by simpa using hv)
theorem countP_lt {l : List Int} {p q : Int → Bool} (h : ∀ x ∈ l, p x = true → q x = true) {y : Int} (hy : y ∈ l) (h1 : p y = false) (h2 : q y = true) : l.countP p < l.countP q := by
  induction l with
  | nil => simp at hy
  | cons x l ih =>
    rw [List.countP_cons, List.countP_cons]
    rcases List.mem_cons.1 hy with rfl | hy
    · have := List.countP_mono_left (l := l) fun x hx => h x (List.mem_cons_of_mem _ hx)
      rw [h1, h2]; simp; omega
    · have := ih (fun x hx => h x (by simp [hx])) hy
      have h3 := h x (by simp)
      by_cases c : p x = true
      · rw [if_pos c, if_pos (h3 c)]; omega
      · rw [if_neg c]; omega
theorem size_lt {n : Nat} {H H' : Nat → Int → Prop} (h : ∀ i v, H i v → H' i v) {k : Nat} {v : Int} (hk : k < n) (hv : In 4000 v) (h1 : ¬ H k v) (h2 : H' k v) : size n H < size n H' :=
  sum_lt2 (fun i _ => List.countP_mono_left fun v _ hv => by simpa using h i v (by simpa using hv)) (List.mem_range.2 hk)
    (countP_lt (fun v _ hv => by simpa using h k v (by simpa using hv)) (mem_vars.2 hv) (by simpa using h1) (by simpa using h2))

/-! ### The answer -/
open Classical in
noncomputable def lives (ins : List Ins) (i : Nat) : List Int := vars.filter fun v => decide (Live ins i v)
open Classical in
theorem mem_lives {ins : List Ins} {i : Nat} {v : Int} : v ∈ lives ins i ↔ Live ins i v := by
  unfold lives
  rw [List.mem_filter, mem_vars, decide_eq_true_iff]
  exact ⟨fun h => h.2, fun h => ⟨h.var, h⟩⟩
theorem lives_rise (ins : List Ins) (i : Nat) : Rise (lives ins i) := vars_rise.filter _
noncomputable def befores (ins : List Ins) : List (List Int) := (List.range ins.length).map (lives ins)
theorem befores_len (ins : List Ins) : (befores ins).length = ins.length := by simp [befores]
theorem befores_get {ins : List Ins} {i : Nat} (h : i < ins.length) : (befores ins)[i]? = some (lives ins i) := by
  unfold befores
  rw [List.getElem?_map, List.getElem?_range h]; rfl
theorem befores_of {ins : List Ins} {l : List (List Int)} (hl : l.length = ins.length) (h : ∀ i s, l[i]? = some s → Rise s ∧ ∀ v, v ∈ s ↔ Live ins i v) : l = befores ins := by
  refine List.ext_getElem? fun i => ?_
  by_cases hi : i < ins.length
  · obtain ⟨s, hs⟩ : ∃ s, l[i]? = some s := ⟨l[i], List.getElem?_eq_getElem (by omega)⟩
    rw [befores_get hi, hs]
    obtain ⟨h1, h2⟩ := h i s hs
    rw [Rise.eq h1 (lives_rise ins i) fun v => by rw [h2, mem_lives]]
  · rw [List.getElem?_eq_none (by omega), List.getElem?_eq_none (by rw [befores_len]; omega)]
end Go.LivM
