import Derived.Test.YtkagjpkgboeaiaaR1
import Derived.Test.YtkagjpkgboeaiaaR9
import Derived.Laws.BytesArg
import Derived.Laws.Strings
/- The plain mathematics of chapter 20: the least that fits all constraints. No program in sight. -/
namespace Go.SolM
open Go.Api Go.RiseM

structure Dim where
  N : Nat
  S : Nat
  W : Nat
def Dim.fld (d : Dim) (s f : Nat) : Nat := d.N + s * d.W + f
def Dim.M (d : Dim) : Nat := d.N + d.S * d.W
theorem Dim.fld_lt {d : Dim} {s f : Nat} (hs : s < d.S) (hf : f < d.W) : d.fld s f < d.M := by
  unfold Dim.fld Dim.M
  have : (s + 1) * d.W ≤ d.S * d.W := Nat.mul_le_mul_right _ hs
  rw [Nat.add_mul] at this; omega
theorem Dim.N_le (d : Dim) : d.N ≤ d.M := Nat.le_add_right _ _
abbrev Below (n : Nat) (x : Int) : Prop := 0 ≤ x ∧ x < (n : Int)
def May (d : Dim) (c : Con) : Prop :=
  if c.kind = 1 then Below d.N c.a ∧ Below d.S c.b
  else if c.kind = 2 then Below d.N c.a ∧ Below d.N c.b
  else if c.kind = 3 ∨ c.kind = 4 then Below d.N c.a ∧ Below d.N c.b ∧ Below d.W c.f
  else if c.kind = 5 then Below d.S c.a ∧ Below d.S c.b else False
instance (d : Dim) (c : Con) : Decidable (May d c) := by unfold May; infer_instance
/-- What is among the nodes and the fields fits a constraint. -/
def Fit (d : Dim) (X : Nat → Nat → Prop) (c : Con) : Prop :=
  if c.kind = 1 then X c.a.toNat c.b.toNat
  else if c.kind = 2 then ∀ s, X c.b.toNat s → X c.a.toNat s
  else if c.kind = 3 then ∀ k s, X c.b.toNat k → X (d.fld k c.f.toNat) s → X c.a.toNat s
  else if c.kind = 4 then ∀ k s, X c.a.toNat k → X c.b.toNat s → X (d.fld k c.f.toNat) s
  else ∀ f, f < d.W → ∀ s, X (d.fld c.a.toNat f) s ↔ X (d.fld c.b.toNat f) s
def Closed (d : Dim) (l : List Con) (X : Nat → Nat → Prop) : Prop := ∀ c ∈ l, Fit d X c
/-- The least. -/
def In (d : Dim) (l : List Con) (n s : Nat) : Prop := ∀ X, Closed d l X → X n s
theorem in_least {d : Dim} {l : List Con} {X : Nat → Nat → Prop} (h : Closed d l X) {n s : Nat} (hi : In d l n s) : X n s := hi X h
theorem in_closed (d : Dim) (l : List Con) : Closed d l (In d l) := fun c hc => by
  unfold Fit
  have key : ∀ X, Closed d l X → Fit d X c := fun X hX => hX c hc
  unfold Fit at key
  by_cases h1 : c.kind = 1
  · rw [if_pos h1]
    intro X hX
    have := key X hX
    rwa [if_pos h1] at this
  rw [if_neg h1]
  by_cases h2 : c.kind = 2
  · rw [if_pos h2]
    intro s hs X hX
    have := key X hX
    rw [if_neg h1, if_pos h2] at this
    exact this s (hs X hX)
  rw [if_neg h2]
  by_cases h3 : c.kind = 3
  · rw [if_pos h3]
    intro k s hk hs X hX
    have := key X hX
    rw [if_neg h1, if_neg h2, if_pos h3] at this
    exact this k s (hk X hX) (hs X hX)
  rw [if_neg h3]
  by_cases h4 : c.kind = 4
  · rw [if_pos h4]
    intro k s hk hs X hX
    have := key X hX
    rw [if_neg h1, if_neg h2, if_neg h3, if_pos h4] at this
    exact this k s (hk X hX) (hs X hX)
  rw [if_neg h4]
  intro f hf s
  constructor
  · intro hs X hX
    have := key X hX
    rw [if_neg h1, if_neg h2, if_neg h3, if_neg h4] at this
    exact (this f hf s).1 (hs X hX)
  · intro hs X hX
    have := key X hX
    rw [if_neg h1, if_neg h2, if_neg h3, if_neg h4] at this
    exact (this f hf s).2 (hs X hX)
theorem in_lt {d : Dim} {l : List Con} (hl : ∀ c ∈ l, May d c) {n s : Nat} (h : In d l n s) : n < d.M ∧ s < d.S := by
  refine h (fun n s => n < d.M ∧ s < d.S) fun c hc => ?_
  have hm := hl c hc
  have hN := d.N_le
  unfold May at hm
  unfold Fit
  by_cases h1 : c.kind = 1
  · rw [if_pos h1] at hm ⊢; omega
  rw [if_neg h1] at hm ⊢
  by_cases h2 : c.kind = 2
  · rw [if_pos h2] at hm ⊢; intro s hs; omega
  rw [if_neg h2] at hm ⊢
  by_cases h3 : c.kind = 3
  · rw [if_pos (.inl h3)] at hm; rw [if_pos h3]; intro k s _ hs; omega
  rw [if_neg h3]
  by_cases h4 : c.kind = 4
  · rw [if_pos (.inr h4)] at hm; rw [if_pos h4]
    intro k s hk hs
    exact ⟨Dim.fld_lt hk.2 (by omega), hs.2⟩
  rw [if_neg h4]
  rw [if_neg (by omega)] at hm
  by_cases h5 : c.kind = 5
  · rw [if_pos h5] at hm
    intro f hf s
    have e1 := Dim.fld_lt (d := d) (s := c.a.toNat) (f := f) (by omega) hf
    have e2 := Dim.fld_lt (d := d) (s := c.b.toNat) (f := f) (by omega) hf
    exact ⟨fun h => ⟨e2, h.2⟩, fun h => ⟨e1, h.2⟩⟩
  · rw [if_neg h5] at hm; exact hm.elim
open Classical in
noncomputable def listOf (d : Dim) (l : List Con) (n : Nat) : List Int := ((List.range d.S).filter fun s => decide (In d l n s)).map fun s : Nat => (s : Int)
theorem listOf_mem {d : Dim} {l : List Con} {n : Nat} {x : Int} : x ∈ listOf d l n ↔ ∃ s : Nat, x = s ∧ s < d.S ∧ In d l n s := by
  unfold listOf
  simp only [List.mem_map, List.mem_filter, List.mem_range, decide_eq_true_eq]
  constructor
  · rintro ⟨s, ⟨h1, h2⟩, rfl⟩; exact ⟨s, rfl, h1, h2⟩
  · rintro ⟨s, rfl, h1, h2⟩; exact ⟨s, ⟨h1, h2⟩, rfl⟩
theorem range_rise {p : Nat → Bool} (n : Nat) : Rise (((List.range n).filter p).map fun c : Nat => (c : Int)) := by
  unfold Rise
  rw [List.pairwise_map]
  exact (List.Pairwise.filter p List.pairwise_lt_range).imp (by intro a b h; omega)
theorem listOf_rise (d : Dim) (l : List Con) (n : Nat) : Rise (listOf d l n) := range_rise _
theorem listOf_len (d : Dim) (l : List Con) (n : Nat) : (listOf d l n).length ≤ d.S := by
  unfold listOf
  rw [List.length_map]
  have := List.length_filter_le (fun s => @decide (In d l n s) (Classical.propDecidable _)) (List.range d.S)
  rwa [List.length_range] at this
noncomputable def fieldsOf (d : Dim) (l : List Con) (s : Nat) : List (List Int) := (List.range d.W).map fun f => listOf d l (d.fld s f)
noncomputable def pts (d : Dim) (l : List Con) : Points := ⟨(List.range d.N).map (listOf d l), (List.range d.S).map (fieldsOf d l)⟩

/-! ### Words -/
def has (A : List Nat) (n s : Nat) : Prop := (A.getD n 0).testBit s = true
theorem has_some {A : List Nat} {n z : Nat} (h : A[n]? = some z) (s : Nat) : has A n s ↔ z.testBit s = true := by unfold has; rw [List.getD_eq_getElem?_getD, h]; rfl
theorem has_set {A : List Nat} {n z : Nat} (hn : n < A.length) (m s : Nat) : has (A.set n z) m s ↔ if m = n then z.testBit s = true else has A m s := by
  unfold has
  rw [List.getD_eq_getElem?_getD]
  by_cases e : m = n
  · subst e; rw [List.getElem?_set_self hn, if_pos rfl]; rfl
  · rw [List.getElem?_set_ne (fun h => e h.symm), if_neg e, List.getD_eq_getElem?_getD]
/-- How many bits there are. -/
def pop (z : Nat) : Nat := ((List.range 64).filter fun s => z.testBit s).length
theorem pop_le (z : Nat) : pop z ≤ 64 := by
  have := List.length_filter_le (fun s => z.testBit s) (List.range 64)
  rwa [List.length_range] at this
theorem filter_lt {α : Type} {p q : α → Bool} {l : List α} (h : ∀ x, p x = true → q x = true) {y : α} (hy : y ∈ l) (h1 : p y = false) (h2 : q y = true) : (l.filter p).length < (l.filter q).length := by
  have hle : ∀ m : List α, (m.filter p).length ≤ (m.filter q).length := by
    intro m
    induction m with
    | nil => simp
    | cons a m ih =>
      rw [List.filter_cons, List.filter_cons]
      cases hp : p a with
      | true => rw [h a hp]; simpa using ih
      | false => cases q a <;> simp <;> omega
  induction l with
  | nil => simp at hy
  | cons a l ih =>
    rw [List.filter_cons, List.filter_cons]
    rcases List.mem_cons.1 hy with rfl | hy
    · rw [h1, h2]; have := hle l; simp; omega
    · have := ih hy
      cases hp : p a with
      | true => rw [h a hp]; simpa using this
      | false => cases q a <;> simp <;> omega
theorem pop_or {z w : Nat} (hz : z < 18446744073709551616) (hw : w < 18446744073709551616) (h : z ||| w ≠ z) : pop z < pop (z ||| w) := by
  obtain ⟨i, hi⟩ : ∃ i, (z ||| w).testBit i ≠ z.testBit i := Classical.byContradiction fun h2 => h (Nat.eq_of_testBit_eq fun i => Classical.byContradiction fun h3 => h2 ⟨i, h3⟩)
  have hzi : z.testBit i = false := by
    cases e : z.testBit i with
    | true => rw [Nat.testBit_or, e] at hi; simp at hi
    | false => rfl
  have hwi : w.testBit i = true := by
    cases e : w.testBit i with
    | true => rfl
    | false => rw [Nat.testBit_or, hzi, e] at hi; simp at hi
  have hi64 : i < 64 := Classical.byContradiction fun h2 => by
    rw [Nat.testBit_lt_two_pow (Nat.lt_of_lt_of_le hw (Nat.pow_le_pow_right (n := 2) (i := 64) (by omega) (by omega)))] at hwi
    cases hwi
  refine filter_lt (fun x hx => ?_) (List.mem_range.2 hi64) hzi ?_
  · rw [Nat.testBit_or, hx]; rfl
  · rw [Nat.testBit_or, hwi]; simp
def tot (A : List Nat) : Nat := (A.map pop).sum
theorem tot_le (A : List Nat) : tot A ≤ A.length * 64 := by
  unfold tot
  induction A with
  | nil => simp
  | cons a A ih => have := pop_le a; simp only [List.map_cons, List.sum_cons, List.length_cons]; omega
theorem tot_set {A : List Nat} {n z w : Nat} (h : A[n]? = some z) : tot (A.set n w) + pop z = tot A + pop w := by
  unfold tot
  induction A generalizing n with
  | nil => simp at h
  | cons a A ih =>
    cases n with
    | zero => simp at h; subst h; simp only [List.set_cons_zero, List.map_cons, List.sum_cons]; omega
    | succ n => have := ih (n := n) (by simpa using h); simp only [List.set_cons_succ, List.map_cons, List.sum_cons]; omega

/-! ### A solver -/
structure Ask where
  kind : Int
  other : Int
  field : Int
structure Sv where
  A : List Nat
  E : List Nat
  G : List (List Nat)
  D : List (Nat × Nat)
  W : List Bool
  xs : List Int
structure Inv (d : Dim) (l : List Con) (st : Sv) : Prop where
  la : st.A.length = d.M
  le : st.E.length = d.M
  lg : st.G.length = d.M
  lw : st.W.length = d.M
  wa : ∀ z ∈ st.A, z < 18446744073709551616
  we : ∀ z ∈ st.E, z < 18446744073709551616
  snd : ∀ n s, has st.A n s → In d l n s
  seen : ∀ n s, has st.E n s → has st.A n s
  flow : ∀ x y, (x, y) ∈ st.D → x ≠ y ∧ x < d.M ∧ y < d.M ∧ ∀ s, In d l x s → In d l y s
  goes : ∀ x y, (x, y) ∈ st.D ↔ ∃ g, st.G[x]? = some g ∧ y ∈ g
  gnd : ∀ g ∈ st.G, g.Nodup
  que : ∀ y ∈ st.xs, ∃ i : Nat, y = (i : Int) ∧ st.W[i]? = some true
  inq : ∀ i : Nat, st.W[i]? = some true → (i : Int) ∈ st.xs
  nd : st.xs.Nodup
def left (d : Dim) (st : Sv) : Nat := 2 * (d.M * 64 - tot st.A) + st.xs.length
structure Le (d : Dim) (st st' : Sv) : Prop where
  a : ∀ n s, has st.A n s → has st'.A n s
  w : ∀ n : Nat, st.W[n]? = some true → st'.W[n]? = some true
  new : ∀ n s, has st'.A n s → ¬ has st.A n s → st'.W[n]? = some true
  dd : ∀ p ∈ st.D, p ∈ st'.D
  e : st'.E = st.E
  l : left d st' ≤ left d st
theorem Le.refl (d : Dim) (st : Sv) : Le d st st := ⟨fun _ _ h => h, fun _ h => h, fun _ _ h h2 => absurd h h2, fun _ h => h, rfl, Nat.le_refl _⟩
theorem Le.trans {d : Dim} {a b c : Sv} (h1 : Le d a b) (h2 : Le d b c) : Le d a c :=
  ⟨fun n s h => h2.a n s (h1.a n s h), fun n h => h2.w n (h1.w n h), fun n s h hn => by
    by_cases hb : has b.A n s
    · exact h2.w n (h1.new n s hb hn)
    · exact h2.new n s h hb, fun p h => h2.dd p (h1.dd p h), h2.e.trans h1.e, Nat.le_trans h2.l h1.l⟩
def EdgeOk (st : Sv) (x y : Nat) : Prop := x = y ∨ (x, y) ∈ st.D
theorem EdgeOk.le {d : Dim} {st st' : Sv} (h : Le d st st') {x y : Nat} (he : EdgeOk st x y) : EdgeOk st' x y := he.imp id (h.dd _)
def C1 (st : Sv) : Prop := ∀ n : Nat, st.W[n]? = some false → ∀ s, has st.A n s → has st.E n s
def C3 (st : Sv) (ex : Nat → Prop) : Prop := ∀ x y, (x, y) ∈ st.D → ¬ ex x → st.W[x]? = some true ∨ ∀ s, has st.A x s → has st.A y s
theorem C1.le {d : Dim} {st st' : Sv} (h : Le d st st') (hw : st.W.length = st'.W.length) (hc : C1 st) : C1 st' := fun n hn s hs => by
  have h0 : st.W[n]? = some false := by
    have hl := (List.getElem?_eq_some_iff.1 hn).1
    rw [List.getElem?_eq_getElem (by omega)]
    cases e : st.W[n]'(by omega) with
    | false => rfl
    | true => have := h.w n (by rw [List.getElem?_eq_getElem (by omega), e]); rw [hn] at this; cases this
  rw [h.e]
  by_cases h1 : has st.A n s
  · exact hc n h0 s h1
  · have := h.new n s hs h1; rw [hn] at this; cases this
/-- What was so for one that goes on stays so. -/
theorem sub_le {d : Dim} {st st' : Sv} (h : Le d st st') {x y : Nat} (hc : st.W[x]? = some true ∨ ∀ s, has st.A x s → has st.A y s) : st'.W[x]? = some true ∨ ∀ s, has st'.A x s → has st'.A y s := by
  rcases hc with hc | hc
  · exact .inl (h.w x hc)
  · by_cases hn : ∃ s, has st'.A x s ∧ ¬ has st.A x s
    · obtain ⟨s, h1, h2⟩ := hn
      exact .inl (h.new x s h1 h2)
    · exact .inr fun s hs => h.a y s (hc s (Classical.byContradiction fun h2 => hn ⟨s, hs, h2⟩))
theorem C3.le {d : Dim} {st st' : Sv} (h : Le d st st') (hd : st'.D = st.D) {ex : Nat → Prop} (hc : C3 st ex) : C3 st' ex := fun x y hxy hx => sub_le h (hc x y (by rwa [hd] at hxy) hx)
/-! Sites join a node. -/
theorem inv_join {d : Dim} {l : List Con} {st : Sv} (h : Inv d l st) {n a z : Nat} (ha : st.A[n]? = some a) (hz : z < 18446744073709551616) (hs : ∀ s, z.testBit s = true → In d l n s) (hne : a ||| z ≠ a) {W' : List Bool} {xs' : List Int} {wn : Bool} (hw : st.W[n]? = some wn) (hW : W' = st.W.set n true) (hx : wn = true ∧ xs' = st.xs ∨ wn = false ∧ xs'.Perm (st.xs ++ [(n : Int)])) :
    Inv d l ⟨st.A.set n (a ||| z), st.E, st.G, st.D, W', xs'⟩ ∧ Le d st ⟨st.A.set n (a ||| z), st.E, st.G, st.D, W', xs'⟩ ∧ left d ⟨st.A.set n (a ||| z), st.E, st.G, st.D, W', xs'⟩ < left d st := by
  have hn := (List.getElem?_eq_some_iff.1 ha).1
  have hnw := (List.getElem?_eq_some_iff.1 hw).1
  have haz := h.wa a (List.mem_of_getElem? ha)
  have hh : ∀ m s, has (st.A.set n (a ||| z)) m s ↔ has st.A m s ∨ m = n ∧ z.testBit s = true := fun m s => by
    rw [has_set hn]
    by_cases e : m = n
    · subst e
      rw [if_pos rfl, has_some ha, Nat.testBit_or, Bool.or_eq_true]
      exact ⟨fun h => h.imp id fun h => ⟨rfl, h⟩, fun h => h.imp id fun h => h.2⟩
    · rw [if_neg e]; exact ⟨.inl, fun h => h.elim id fun h => absurd h.1 e⟩
  have hmem : ∀ y : Int, y ∈ xs' ↔ y ∈ st.xs ∨ y = (n : Int) := fun y => by
    rcases hx with ⟨h1, rfl⟩ | ⟨h1, h2⟩
    · exact ⟨.inl, fun h3 => h3.elim id fun h3 => by rw [h3]; exact h.inq n (by rw [hw, h1])⟩
    · rw [h2.mem_iff, List.mem_append, List.mem_singleton]
  have hW2 : ∀ i : Nat, W'[i]? = some true ↔ i = n ∨ st.W[i]? = some true := fun i => by
    subst hW
    by_cases e : n = i
    · subst e; rw [List.getElem?_set_self hnw]; simp
    · rw [List.getElem?_set_ne e]; exact ⟨.inr, fun h => h.elim (fun h => absurd h.symm e) id⟩
  have hpop := pop_or haz hz hne
  have htot := tot_set (w := a ||| z) ha
  have htl := tot_le (st.A.set n (a ||| z))
  rw [List.length_set, h.la] at htl
  have hlt : left d ⟨st.A.set n (a ||| z), st.E, st.G, st.D, W', xs'⟩ < left d st := by
    unfold left
    dsimp only
    have : xs'.length ≤ st.xs.length + 1 := by
      rcases hx with ⟨_, rfl⟩ | ⟨_, h2⟩
      · omega
      · rw [h2.length_eq]; simp
    omega
  refine ⟨⟨by rw [List.length_set]; exact h.la, h.le, h.lg, by subst hW; rw [List.length_set]; exact h.lw, fun y hy => ?_, h.we, fun m s hms => ?_, fun m s hms => (hh m s).2 (.inl (h.seen m s hms)), h.flow, h.goes, h.gnd, fun y hy => ?_, fun i hi => ?_, ?_⟩,
    ⟨fun m s hms => (hh m s).2 (.inl hms), fun i hi => (hW2 i).2 (.inr hi), fun m s h1 h2 => ?_, fun _ hp => hp, rfl, by omega⟩, hlt⟩
  · rcases List.mem_or_eq_of_mem_set hy with hy | rfl
    · exact h.wa y hy
    · have := Nat.or_lt_two_pow (n := 64) (x := a) (y := z) (by omega) (by omega); omega
  · rcases (hh m s).1 hms with h1 | ⟨rfl, h1⟩
    · exact h.snd m s h1
    · exact hs s h1
  · rcases (hmem y).1 hy with h1 | rfl
    · obtain ⟨i, rfl, h2⟩ := h.que y h1
      exact ⟨i, rfl, (hW2 i).2 (.inr h2)⟩
    · exact ⟨n, rfl, (hW2 n).2 (.inl rfl)⟩
  · rcases (hW2 i).1 hi with rfl | h1
    · exact (hmem _).2 (.inr rfl)
    · exact (hmem _).2 (.inl (h.inq i h1))
  · rcases hx with ⟨_, rfl⟩ | ⟨h1, h2⟩
    · exact h.nd
    · refine h2.nodup_iff.2 (List.nodup_append.2 ⟨h.nd, by simp, fun x hx y hy e => ?_⟩)
      rw [List.mem_singleton] at hy
      subst hy; subst e
      obtain ⟨i, e, h3⟩ := h.que _ hx
      obtain rfl : i = n := by omega
      rw [hw, h1] at h3; cases h3
  · rcases (hh m s).1 h1 with h3 | ⟨rfl, _⟩
    · exact absurd h3 h2
    · exact (hW2 m).2 (.inl rfl)
theorem Inv.qlen {d : Dim} {l : List Con} {st : Sv} (h : Inv d l st) : st.xs.length ≤ d.M := by
  have h1 : ∀ {a : List Int} {n : Nat}, a.Nodup → (∀ x ∈ a, ∃ i : Nat, x = i ∧ i < n) → a.length ≤ n := by
    intro a n hn ha
    have h2 : ∀ {a b : List Int}, a.Nodup → (∀ x ∈ a, x ∈ b) → a.length ≤ b.length := by
      intro a
      induction a with
      | nil => intro b _ _; simp
      | cons y a ih =>
        intro b hn hs
        rw [List.nodup_cons] at hn
        have hy := hs y (by simp)
        have := ih (b := b.erase y) hn.2 fun x hx => (List.mem_erase_of_ne (by rintro rfl; exact hn.1 hx)).2 (hs x (by simp [hx]))
        rw [List.length_erase_of_mem hy] at this
        have := List.length_pos_of_mem hy
        rw [List.length_cons]; omega
    have := h2 (b := (List.range n).map fun i : Nat => (i : Int)) hn fun x hx => by
      obtain ⟨i, rfl, hi⟩ := ha x hx
      exact List.mem_map.2 ⟨i, List.mem_range.2 hi, rfl⟩
    rwa [List.length_map, List.length_range] at this
  refine h1 h.nd fun x hx => ?_
  obtain ⟨i, rfl, h2⟩ := h.que x hx
  have := (List.getElem?_eq_some_iff.1 h2).1
  exact ⟨i, rfl, by rw [← h.lw]; exact this⟩
theorem nodup_lt {l : List Nat} {n : Nat} (h : l.Nodup) (hl : ∀ x ∈ l, x < n) : l.length ≤ n := by
  have h2 : ∀ {a b : List Nat}, a.Nodup → (∀ x ∈ a, x ∈ b) → a.length ≤ b.length := by
    intro a
    induction a with
    | nil => intro b _ _; simp
    | cons y a ih =>
      intro b hn hs
      rw [List.nodup_cons] at hn
      have hy := hs y (by simp)
      have := ih (b := b.erase y) hn.2 fun x hx => (List.mem_erase_of_ne (by rintro rfl; exact hn.1 hx)).2 (hs x (by simp [hx]))
      rw [List.length_erase_of_mem hy] at this
      have := List.length_pos_of_mem hy
      rw [List.length_cons]; omega
  have := h2 (b := List.range n) h fun x hx => List.mem_range.2 (hl x hx)
  rwa [List.length_range] at this
theorem Inv.glen {d : Dim} {l : List Con} {st : Sv} (h : Inv d l st) {x : Nat} {g : List Nat} (hg : st.G[x]? = some g) : g.length ≤ d.M ∧ ∀ y ∈ g, y < d.M ∧ y ≠ x := by
  have key : ∀ y ∈ g, y < d.M ∧ y ≠ x := fun y hy => by
    obtain ⟨h1, _, h2, _⟩ := h.flow x y ((h.goes x y).2 ⟨g, hg, hy⟩)
    exact ⟨h2, fun e => h1 e.symm⟩
  exact ⟨nodup_lt (h.gnd g (List.mem_of_getElem? hg)) fun y hy => (key y hy).1, key⟩
/-! An edge is laid. -/
theorem inv_edge {d : Dim} {l : List Con} {st : Sv} (h : Inv d l st) {x y : Nat} {g : List Nat} (hg : st.G[x]? = some g) (hy : y < d.M) (hxy : x ≠ y) (hn : (x, y) ∉ st.D) (hf : ∀ s, In d l x s → In d l y s) :
    Inv d l ⟨st.A, st.E, st.G.set x (g ++ [y]), st.D ++ [(x, y)], st.W, st.xs⟩ ∧ Le d st ⟨st.A, st.E, st.G.set x (g ++ [y]), st.D ++ [(x, y)], st.W, st.xs⟩ := by
  have hx := (List.getElem?_eq_some_iff.1 hg).1
  have hxM : x < d.M := by rw [← h.lg]; exact hx
  refine ⟨⟨h.la, h.le, by rw [List.length_set]; exact h.lg, h.lw, h.wa, h.we, h.snd, h.seen, fun u v huv => ?_, fun u v => ?_, fun k hk => ?_, h.que, h.inq, h.nd⟩, ⟨fun _ _ h => h, fun _ h => h, fun _ _ h1 h2 => absurd h1 h2, fun p hp => by simp [hp], rfl, Nat.le_refl _⟩⟩
  · rw [List.mem_append, List.mem_singleton] at huv
    rcases huv with h1 | h1
    · exact h.flow u v h1
    · cases h1; exact ⟨hxy, hxM, hy, hf⟩
  · rw [List.mem_append, List.mem_singleton, h.goes]
    by_cases e : x = u
    · subst e
      rw [List.getElem?_set_self hx]
      constructor
      · rintro (⟨g', h1, h2⟩ | h1)
        · rw [hg] at h1; cases h1; exact ⟨_, rfl, by simp [h2]⟩
        · cases h1; exact ⟨_, rfl, by simp⟩
      · rintro ⟨g', h1, h2⟩
        cases h1
        rw [List.mem_append, List.mem_singleton] at h2
        rcases h2 with h2 | rfl
        · exact .inl ⟨g, hg, h2⟩
        · exact .inr rfl
    · rw [List.getElem?_set_ne e]
      exact ⟨fun h1 => h1.elim id fun h1 => by cases h1; exact absurd rfl e, .inl⟩
  · rcases List.mem_or_eq_of_mem_set hk with hk | rfl
    · exact h.gnd k hk
    · refine List.nodup_append.2 ⟨h.gnd g (List.mem_of_getElem? hg), by simp, fun a ha c hc e => ?_⟩
      rw [List.mem_singleton] at hc
      subst hc; subst e
      exact hn ((h.goes x a).2 ⟨g, hg, ha⟩)
/-! One is taken off the queue. -/
theorem Inv.pop {d : Dim} {l : List Con} {st : Sv} (h : Inv d l st) {y : Int} {ys : List Int} (hp : (y :: ys).Perm st.xs) :
    ∃ i : Nat, y = (i : Int) ∧ i < d.M ∧ ∀ e a z : Nat, st.E[i]? = some e → st.A[i]? = some a → z < 18446744073709551616 → (∀ s, z.testBit s = true ↔ e.testBit s = true ∨ a.testBit s = true) →
      Inv d l ⟨st.A, st.E.set i z, st.G, st.D, st.W.set i false, ys⟩ := by
  have hy : y ∈ st.xs := hp.mem_iff.1 (by simp)
  obtain ⟨i, rfl, hwi⟩ := h.que y hy
  have hiw := (List.getElem?_eq_some_iff.1 hwi).1
  have hnd : (((i : Nat) : Int) :: ys).Nodup := hp.nodup_iff.2 h.nd
  rw [List.nodup_cons] at hnd
  refine ⟨i, rfl, by rw [← h.lw]; exact hiw, fun e a z he ha hz hb => ?_⟩
  have hie := (List.getElem?_eq_some_iff.1 he).1
  refine ⟨h.la, by rw [List.length_set]; exact h.le, h.lg, by rw [List.length_set]; exact h.lw, h.wa, fun q hq => ?_, h.snd, fun n s hs => ?_, h.flow, h.goes, h.gnd, fun q hq => ?_, fun j hj => ?_, hnd.2⟩
  · rcases List.mem_or_eq_of_mem_set hq with hq | rfl
    · exact h.we q hq
    · exact hz
  · rw [has_set hie] at hs
    split at hs
    · rename_i e2; subst e2
      rcases (hb s).1 hs with h1 | h1
      · exact h.seen n s ((has_some he s).2 h1)
      · exact (has_some ha s).2 h1
    · exact h.seen n s hs
  · obtain ⟨j, rfl, h2⟩ := h.que q (hp.mem_iff.1 (by simp [hq]))
    refine ⟨j, rfl, ?_⟩
    have : i ≠ j := fun e => hnd.1 (by rw [e]; exact hq)
    rw [List.getElem?_set_ne this]; exact h2
  · by_cases e2 : i = j
    · subst e2; rw [List.getElem?_set_self hiw] at hj; cases hj
    · rw [List.getElem?_set_ne e2] at hj
      have := hp.mem_iff.2 (h.inq j hj)
      rcases List.mem_cons.1 this with h3 | h3
      · omega
      · exact h3
/-! What hangs on nodes. -/
def askEdge (d : Dim) (q : Ask) (k : Nat) : Nat × Nat := if q.kind = 3 then (d.fld k q.field.toNat, q.other.toNat) else (q.other.toNat, d.fld k q.field.toNat)
structure AskOk (d : Dim) (l : List Con) (n : Nat) (q : Ask) : Prop where
  kind : q.kind = 3 ∨ q.kind = 4
  other : Below d.N q.other
  field : Below d.W q.field
  flow : ∀ k, In d l n k → ∀ s, In d l (askEdge d q k).1 s → In d l (askEdge d q k).2 s
theorem AskOk.lt {d : Dim} {l : List Con} {n : Nat} {q : Ask} (h : AskOk d l n q) {k : Nat} (hk : k < d.S) : (askEdge d q k).1 < d.M ∧ (askEdge d q k).2 < d.M := by
  have h1 := h.other
  have h2 := h.field
  have := d.N_le
  have := Dim.fld_lt (d := d) (s := k) (f := q.field.toNat) hk (by omega)
  unfold askEdge
  split <;> dsimp only <;> omega
def Asks (d : Dim) (l : List Con) (K : List (List Ask)) : Prop := K.length = d.M ∧ ∀ (n : Nat) ks, K[n]? = some ks → ∀ q ∈ ks, AskOk d l n q
def C2 (d : Dim) (K : List (List Ask)) (st : Sv) (ok : Nat → Nat → Prop) : Prop := ∀ n k, has st.E n k → ok n k → ∀ ks, K[n]? = some ks → ∀ q ∈ ks, EdgeOk st (askEdge d q k).1 (askEdge d q k).2
theorem C2.le {d : Dim} {K : List (List Ask)} {st st' : Sv} (h : Le d st st') {ok : Nat → Nat → Prop} (hc : C2 d K st ok) : C2 d K st' ok := fun n k hk ho ks hks q hq => (hc n k (by rwa [h.e] at hk) ho ks hks q hq).le h
/-- A constraint was taken in. -/
def Took (d : Dim) (c : Con) (K : List (List Ask)) (st : Sv) : Prop :=
  if c.kind = 1 then has st.A c.a.toNat c.b.toNat
  else if c.kind = 2 then EdgeOk st c.b.toNat c.a.toNat
  else if c.kind = 3 then ∃ ks, K[c.b.toNat]? = some ks ∧ Ask.mk 3 c.a c.f ∈ ks
  else if c.kind = 4 then ∃ ks, K[c.a.toNat]? = some ks ∧ Ask.mk 4 c.b c.f ∈ ks
  else ∀ f, f < d.W → EdgeOk st (d.fld c.a.toNat f) (d.fld c.b.toNat f) ∧ EdgeOk st (d.fld c.b.toNat f) (d.fld c.a.toNat f)
theorem Took.le {d : Dim} {c : Con} {K K' : List (List Ask)} {st st' : Sv} (h : Le d st st') (hK : ∀ (n : Nat) ks, K[n]? = some ks → ∃ ks', K'[n]? = some ks' ∧ ∀ q ∈ ks, q ∈ ks') (ht : Took d c K st) : Took d c K' st' := by
  unfold Took at ht ⊢
  split
  · rename_i e; rw [if_pos e] at ht; exact h.a _ _ ht
  rename_i e1; rw [if_neg e1] at ht
  split
  · rename_i e; rw [if_pos e] at ht; exact ht.le h
  rename_i e2; rw [if_neg e2] at ht
  split
  · rename_i e; rw [if_pos e] at ht
    obtain ⟨ks, h1, h2⟩ := ht
    obtain ⟨ks', h3, h4⟩ := hK _ ks h1
    exact ⟨ks', h3, h4 _ h2⟩
  rename_i e3; rw [if_neg e3] at ht
  split
  · rename_i e; rw [if_pos e] at ht
    obtain ⟨ks, h1, h2⟩ := ht
    obtain ⟨ks', h3, h4⟩ := hK _ ks h1
    exact ⟨ks', h3, h4 _ h2⟩
  rename_i e4; rw [if_neg e4] at ht
  exact fun f hf => ⟨(ht f hf).1.le h, (ht f hf).2.le h⟩
/-- All is done: what is among is the least. -/
theorem fin {d : Dim} {l : List Con} {K : List (List Ask)} {st : Sv} (h : Inv d l st) (hl : ∀ c ∈ l, May d c) (h0 : st.xs = []) (hT : ∀ c ∈ l, Took d c K st) (h1 : C1 st) (h2 : C2 d K st fun _ _ => True) (h3 : C3 st fun _ => False) (n s : Nat) : has st.A n s ↔ In d l n s := by
  refine ⟨h.snd n s, fun hi => in_least ?_ hi⟩
  have hW : ∀ n : Nat, n < d.M → st.W[n]? = some false := fun n hn => by
    have hl : n < st.W.length := by rw [h.lw]; exact hn
    rw [List.getElem?_eq_getElem hl]
    cases e : st.W[n] with
    | false => rfl
    | true => have := h.inq n (by rw [List.getElem?_eq_getElem hl, e]); rw [h0] at this; simp at this
  have hb : ∀ {n s : Nat}, has st.A n s → n < d.M := fun {n s} hs => (in_lt hl (h.snd n s hs)).1
  have hE : ∀ {x y : Nat}, EdgeOk st x y → ∀ s, has st.A x s → has st.A y s := fun {x y} he s hs => by
    rcases he with rfl | he
    · exact hs
    · rcases h3 x y he (fun h => h) with h4 | h4
      · rw [hW x (hb hs)] at h4; cases h4
      · exact h4 s hs
  intro c hc
  have ht := hT c hc
  unfold Took at ht
  unfold Fit
  by_cases e1 : c.kind = 1
  · rw [if_pos e1] at ht ⊢; exact ht
  rw [if_neg e1] at ht ⊢
  by_cases e2 : c.kind = 2
  · rw [if_pos e2] at ht ⊢; exact hE ht
  rw [if_neg e2] at ht ⊢
  by_cases e3 : c.kind = 3
  · rw [if_pos e3] at ht ⊢
    obtain ⟨ks, h4, h5⟩ := ht
    intro k s hk hs
    have := h2 _ k (h1 _ (hW _ (hb hk)) k hk) trivial ks h4 _ h5
    unfold askEdge at this
    rw [if_pos rfl] at this
    exact hE this s hs
  rw [if_neg e3] at ht ⊢
  by_cases e4 : c.kind = 4
  · rw [if_pos e4] at ht ⊢
    obtain ⟨ks, h4, h5⟩ := ht
    intro k s hk hs
    have := h2 _ k (h1 _ (hW _ (hb hk)) k hk) trivial ks h4 _ h5
    unfold askEdge at this
    rw [if_neg (by show ¬ (4 : Int) = 3; decide)] at this
    exact hE this s hs
  rw [if_neg e4] at ht ⊢
  exact fun f hf s => ⟨hE (ht f hf).1 s, hE (ht f hf).2 s⟩
end Go.SolM

/- Shifts, bits and conversions of numbers. Written by wip/gbit.py. No program in sight. -/
namespace Go.GX
open Go Go.RowKit Go.RR Go.RX
def shlV (k : IntKind) (i c : Int) : Int := k.wrap (i * 2 ^ (min c.toNat k.bits))
def shrV (k : IntKind) (i c : Int) : Int := i.fdiv (2 ^ (min c.toNat k.bits))
def bAnd (k : IntKind) (i j : Int) : Int := k.wrap ((BitVec.ofInt k.bits i &&& BitVec.ofInt k.bits j).toNat)
def bOr (k : IntKind) (i j : Int) : Int := k.wrap ((BitVec.ofInt k.bits i ||| BitVec.ofInt k.bits j).toNat)
def bNot (k : IntKind) (i j : Int) : Int := k.wrap ((BitVec.ofInt k.bits i &&& ~~~(BitVec.ofInt k.bits j)).toNat)
def cplV (k : IntKind) (i : Int) : Int := k.wrap ((BitVec.ofInt k.bits (if k.signed then -1 else k.max) ^^^ BitVec.ofInt k.bits i).toNat)
def strEq (u v : ByteArray) : Bool := u.toList == v.toList
def strNe (u v : ByteArray) : Bool := !strEq u v
section
variable {P : Program} {n : Nat} {env : Env} {b : Base} {ps : List Pf} {hp : List Res} {Q : Exit → Act → World → Prop} {K : Act → World → Prop}
section sems
variable {S : World → Prop} {t t' : TypeId} {x y : Operand}
theorem shl_v {k k2 : IntKind} {i c : Int} (hx : ev env x = some (.int k i)) (hy : ev env y = some (.int k2 c)) (hb : 0 ≤ c) : Soft P n env S (.binOp .shl t x y t') (.int k (shlV k i c)) := fun a ha o ho w _ => by
  simp [execOp, ho, ha.ev hx, ha.ev hy, eqGuard, binOp, Op.shift, shlV, Int.not_lt.2 hb]
theorem shr_v {k k2 : IntKind} {i c : Int} (hx : ev env x = some (.int k i)) (hy : ev env y = some (.int k2 c)) (hb : 0 ≤ c) : Soft P n env S (.binOp .shr t x y t') (.int k (shrV k i c)) := fun a ha o ho w _ => by
  simp [execOp, ho, ha.ev hx, ha.ev hy, eqGuard, binOp, Op.shift, shrV, Int.not_lt.2 hb]
theorem and_v {k : IntKind} {i j : Int} (hx : ev env x = some (.int k i)) (hy : ev env y = some (.int k j)) : Soft P n env S (.binOp .and t x y t') (.int k (bAnd k i j)) := fun a ha o ho w _ => by
  simp [execOp, ho, ha.ev hx, ha.ev hy, eqGuard_at_int, binOp, Op.intBits, bAnd]
theorem or_v {k : IntKind} {i j : Int} (hx : ev env x = some (.int k i)) (hy : ev env y = some (.int k j)) : Soft P n env S (.binOp .or t x y t') (.int k (bOr k i j)) := fun a ha o ho w _ => by
  simp [execOp, ho, ha.ev hx, ha.ev hy, eqGuard_at_int, binOp, Op.intBits, bOr]
theorem andNot_v {k : IntKind} {i j : Int} (hx : ev env x = some (.int k i)) (hy : ev env y = some (.int k j)) : Soft P n env S (.binOp .andNot t x y t') (.int k (bNot k i j)) := fun a ha o ho w _ => by
  simp [execOp, ho, ha.ev hx, ha.ev hy, eqGuard_at_int, binOp, Op.intBits, bNot]
theorem cpl_v {k : IntKind} {i : Int} (hx : ev env x = some (.int k i)) : Soft P n env S (.unOp .xor t x) (.int k (cplV k i)) := fun a ha o ho w _ => by
  simp [execOp, ho, ha.ev hx, Op.unary, Op.intBits, cplV]
theorem cv_v {k0 k1 k : IntKind} {i : Int} [h0 : UInt P t k0] [h1 : UInt P t' k] (hx : ev env x = some (.int k1 i)) : Soft P n env S (.convert t t' x) (.int k (k.wrap i)) := fun a ha o ho w _ => by
  simp [execOp, ho, ha.ev hx, convert, run_underlying h0.u, run_underlying h1.u, Conv.intToInt]
theorem seql_v {u v : ByteArray} [h : UString P t] (hx : ev env x = some (.string u)) (hy : ev env y = some (.string v)) : Soft P n env S (.binOp .eql t x y t') (.bool (strEq u v)) := fun a ha o ho w _ => by
  simp [execOp, ho, ha.ev hx, ha.ev hy, eqGuard, binOp, Op.stringOp, strEq]
theorem sneq_v {u v : ByteArray} [h : UString P t] (hx : ev env x = some (.string u)) (hy : ev env y = some (.string v)) : Soft P n env S (.binOp .neq t x y t') (.bool (strNe u v)) := fun a ha o ho w _ => by
  simp [execOp, ho, ha.ev hx, ha.ev hy, eqGuard, binOp, Op.stringOp, bne, strNe, strEq]
theorem cvs_rd {ao : Option Addr} {cap cap' m : Nat} {xs : List Int} {et : TypeId} [ht : USlice P t et] [he : UInt P et .u8] [hs : UString P t'] [hf : FSl ao ps Ty.byte cap xs] (hx : ev env x = some (.slice ao m cap')) (hm : m = xs.length) :
    Rd P n env ps hp (.convert t t' x) (fun _ : Unit => .string (strOfNums xs)) (fun _ => []) := fun F w h1 h2 => by
  subst hm
  obtain ⟨hc, hb, hsl⟩ : (Sl Ty.byte ao cap xs).says F w := h1 _ hf.mem
  refine ⟨(), fun p hp => by simp at hp, fun a ha o ho w' hag => ?_⟩
  have h3 : SlAt Ty.byte (fun k => F k ∨ feet hp k) w' ao xs := (hsl.move (fun _ _ h => .inl h) (Agree.refl _ _)).move (fun _ _ h => h) hag
  have key : (convert t t' (.slice ao xs.length cap')).run P w' = .ok (.string (strOfNums xs)) w' := by
    cases ao with
    | none =>
      have hx0 : xs = [] := by
        cases xs with
        | nil => rfl
        | cons x l => obtain ⟨b, o, cs, h, _⟩ := h3 0 x (by simp); cases h
      subst hx0
      exact run_convert_bytes_nil w' t et ht.u he.u _ _ t' hs.u
    | some a =>
      have hl : (loadCells a xs.length).run P w' = .ok (xs.map (Value.int .u8)).toArray w' := by
        have := run_loadCells_list (P := P) w' a (xs.map (Value.int .u8)) (fun j v hj => by
          rw [List.getElem?_map] at hj
          obtain ⟨x, hxj, rfl⟩ := Option.map_eq_some_iff.1 hj
          obtain ⟨b, o, cs, h4, h5, h6, h7, h8⟩ := h3 j x hxj
          have h8 : cs = [.int .u8 x] := h8
          cases h4
          have hone : (Ty.byte).size = 1 := rfl
          rw [hone, Nat.mul_one, h8] at h7
          have hplain : (⟨b, o, none⟩ : Addr).add j = ⟨b, o + j, none⟩ := Addr.add_lit _ _ _
          rw [hplain]
          have := h7 0 _ rfl
          simpa using this)
        simpa using this
      rw [run_convert_bytes_string w' t t' et _ _ _ ht.u he.u hs.u, run_bytesToString w' _ _ _ xs hl, foldl_push_bytes]
      simp [strOfNums, ByteArray.empty, ByteArray.emptyWithCapacity]
      rfl
  simp [execOp, ho, ha.ev hx, key]
end sems
theorem b_shl {t t' : TypeId} {x y : Operand} {k k2 : IntKind} {i c : Int} {d : Nat} {ty : TypeId} {pos : String} {aft : Array Edge} {gd : Option (Nat × Bool)} (h : G n ((d, .int k (shlV k i c)) :: env) b ps hp K) (hx : ev env x = some (.int k i) := by exact rfl) (hy : ev env y = some (.int k2 c) := by exact rfl) (hb : 0 ≤ c := by omega)  (hd : Nat.blt d n = true := by exact rfl) : GO P n env b ps hp ⟨some d, .binOp .shl t x y t', ty, pos, aft, gd⟩ K Q := rd1 (shl_v hx hy hb) hd h
theorem tb_shl {t t' : TypeId} {x y : Operand} {k k2 : IntKind} {i c : Int} {d : Nat} {ty : TypeId} {pos : String} {aft : Array Edge} {gd : Option (Nat × Bool)} (h : G n ((d, .int k (shlV k i c)) :: env) b ps hp K) (hx : ev env x = some (.int k i) := by exact rfl) (hy : ev env y = some (.int k2 c) := by exact rfl) (hb : 0 ≤ c := by omega)  (hd : Nat.blt d n = true := by exact rfl) : GT P n env b ps hp ⟨some d, .binOp .shl t x y t', ty, pos, aft, gd⟩ K := tp1 (shl_v hx hy hb) hd h
theorem rb_shl {t t' : TypeId} {x y : Operand} {k k2 : IntKind} {i c : Int} {d : Nat} {ty : TypeId} {pos : String} {aft : Array Edge} {gd : Option (Nat × Bool)} {psW : List Pf} {hpS : List Res} {wd : World} {F : Nat → Prop} (h : G n ((d, .int k (shlV k i c)) :: env) b ps hp K) (hx : ev env x = some (.int k i) := by exact rfl) (hy : ev env y = some (.int k2 c) := by exact rfl) (hb : 0 ≤ c := by omega)  (hd : Nat.blt d n = true := by exact rfl) : GTR P n env psW hpS wd F b ps hp K ⟨some d, .binOp .shl t x y t', ty, pos, aft, gd⟩ := .v (.of_soft fun _ => shl_v hx hy hb) hd h
theorem b_shr {t t' : TypeId} {x y : Operand} {k k2 : IntKind} {i c : Int} {d : Nat} {ty : TypeId} {pos : String} {aft : Array Edge} {gd : Option (Nat × Bool)} (h : G n ((d, .int k (shrV k i c)) :: env) b ps hp K) (hx : ev env x = some (.int k i) := by exact rfl) (hy : ev env y = some (.int k2 c) := by exact rfl) (hb : 0 ≤ c := by omega)  (hd : Nat.blt d n = true := by exact rfl) : GO P n env b ps hp ⟨some d, .binOp .shr t x y t', ty, pos, aft, gd⟩ K Q := rd1 (shr_v hx hy hb) hd h
theorem tb_shr {t t' : TypeId} {x y : Operand} {k k2 : IntKind} {i c : Int} {d : Nat} {ty : TypeId} {pos : String} {aft : Array Edge} {gd : Option (Nat × Bool)} (h : G n ((d, .int k (shrV k i c)) :: env) b ps hp K) (hx : ev env x = some (.int k i) := by exact rfl) (hy : ev env y = some (.int k2 c) := by exact rfl) (hb : 0 ≤ c := by omega)  (hd : Nat.blt d n = true := by exact rfl) : GT P n env b ps hp ⟨some d, .binOp .shr t x y t', ty, pos, aft, gd⟩ K := tp1 (shr_v hx hy hb) hd h
theorem rb_shr {t t' : TypeId} {x y : Operand} {k k2 : IntKind} {i c : Int} {d : Nat} {ty : TypeId} {pos : String} {aft : Array Edge} {gd : Option (Nat × Bool)} {psW : List Pf} {hpS : List Res} {wd : World} {F : Nat → Prop} (h : G n ((d, .int k (shrV k i c)) :: env) b ps hp K) (hx : ev env x = some (.int k i) := by exact rfl) (hy : ev env y = some (.int k2 c) := by exact rfl) (hb : 0 ≤ c := by omega)  (hd : Nat.blt d n = true := by exact rfl) : GTR P n env psW hpS wd F b ps hp K ⟨some d, .binOp .shr t x y t', ty, pos, aft, gd⟩ := .v (.of_soft fun _ => shr_v hx hy hb) hd h
theorem b_andv {t t' : TypeId} {x y : Operand} {k : IntKind} {i j : Int} {d : Nat} {ty : TypeId} {pos : String} {aft : Array Edge} {gd : Option (Nat × Bool)} (h : G n ((d, .int k (bAnd k i j)) :: env) b ps hp K) (hx : ev env x = some (.int k i) := by exact rfl) (hy : ev env y = some (.int k j) := by exact rfl)  (hd : Nat.blt d n = true := by exact rfl) : GO P n env b ps hp ⟨some d, .binOp .and t x y t', ty, pos, aft, gd⟩ K Q := rd1 (and_v hx hy) hd h
theorem tb_andv {t t' : TypeId} {x y : Operand} {k : IntKind} {i j : Int} {d : Nat} {ty : TypeId} {pos : String} {aft : Array Edge} {gd : Option (Nat × Bool)} (h : G n ((d, .int k (bAnd k i j)) :: env) b ps hp K) (hx : ev env x = some (.int k i) := by exact rfl) (hy : ev env y = some (.int k j) := by exact rfl)  (hd : Nat.blt d n = true := by exact rfl) : GT P n env b ps hp ⟨some d, .binOp .and t x y t', ty, pos, aft, gd⟩ K := tp1 (and_v hx hy) hd h
theorem rb_andv {t t' : TypeId} {x y : Operand} {k : IntKind} {i j : Int} {d : Nat} {ty : TypeId} {pos : String} {aft : Array Edge} {gd : Option (Nat × Bool)} {psW : List Pf} {hpS : List Res} {wd : World} {F : Nat → Prop} (h : G n ((d, .int k (bAnd k i j)) :: env) b ps hp K) (hx : ev env x = some (.int k i) := by exact rfl) (hy : ev env y = some (.int k j) := by exact rfl)  (hd : Nat.blt d n = true := by exact rfl) : GTR P n env psW hpS wd F b ps hp K ⟨some d, .binOp .and t x y t', ty, pos, aft, gd⟩ := .v (.of_soft fun _ => and_v hx hy) hd h
theorem b_orv {t t' : TypeId} {x y : Operand} {k : IntKind} {i j : Int} {d : Nat} {ty : TypeId} {pos : String} {aft : Array Edge} {gd : Option (Nat × Bool)} (h : G n ((d, .int k (bOr k i j)) :: env) b ps hp K) (hx : ev env x = some (.int k i) := by exact rfl) (hy : ev env y = some (.int k j) := by exact rfl)  (hd : Nat.blt d n = true := by exact rfl) : GO P n env b ps hp ⟨some d, .binOp .or t x y t', ty, pos, aft, gd⟩ K Q := rd1 (or_v hx hy) hd h
theorem tb_orv {t t' : TypeId} {x y : Operand} {k : IntKind} {i j : Int} {d : Nat} {ty : TypeId} {pos : String} {aft : Array Edge} {gd : Option (Nat × Bool)} (h : G n ((d, .int k (bOr k i j)) :: env) b ps hp K) (hx : ev env x = some (.int k i) := by exact rfl) (hy : ev env y = some (.int k j) := by exact rfl)  (hd : Nat.blt d n = true := by exact rfl) : GT P n env b ps hp ⟨some d, .binOp .or t x y t', ty, pos, aft, gd⟩ K := tp1 (or_v hx hy) hd h
theorem rb_orv {t t' : TypeId} {x y : Operand} {k : IntKind} {i j : Int} {d : Nat} {ty : TypeId} {pos : String} {aft : Array Edge} {gd : Option (Nat × Bool)} {psW : List Pf} {hpS : List Res} {wd : World} {F : Nat → Prop} (h : G n ((d, .int k (bOr k i j)) :: env) b ps hp K) (hx : ev env x = some (.int k i) := by exact rfl) (hy : ev env y = some (.int k j) := by exact rfl)  (hd : Nat.blt d n = true := by exact rfl) : GTR P n env psW hpS wd F b ps hp K ⟨some d, .binOp .or t x y t', ty, pos, aft, gd⟩ := .v (.of_soft fun _ => or_v hx hy) hd h
theorem b_andNotv {t t' : TypeId} {x y : Operand} {k : IntKind} {i j : Int} {d : Nat} {ty : TypeId} {pos : String} {aft : Array Edge} {gd : Option (Nat × Bool)} (h : G n ((d, .int k (bNot k i j)) :: env) b ps hp K) (hx : ev env x = some (.int k i) := by exact rfl) (hy : ev env y = some (.int k j) := by exact rfl)  (hd : Nat.blt d n = true := by exact rfl) : GO P n env b ps hp ⟨some d, .binOp .andNot t x y t', ty, pos, aft, gd⟩ K Q := rd1 (andNot_v hx hy) hd h
theorem tb_andNotv {t t' : TypeId} {x y : Operand} {k : IntKind} {i j : Int} {d : Nat} {ty : TypeId} {pos : String} {aft : Array Edge} {gd : Option (Nat × Bool)} (h : G n ((d, .int k (bNot k i j)) :: env) b ps hp K) (hx : ev env x = some (.int k i) := by exact rfl) (hy : ev env y = some (.int k j) := by exact rfl)  (hd : Nat.blt d n = true := by exact rfl) : GT P n env b ps hp ⟨some d, .binOp .andNot t x y t', ty, pos, aft, gd⟩ K := tp1 (andNot_v hx hy) hd h
theorem rb_andNotv {t t' : TypeId} {x y : Operand} {k : IntKind} {i j : Int} {d : Nat} {ty : TypeId} {pos : String} {aft : Array Edge} {gd : Option (Nat × Bool)} {psW : List Pf} {hpS : List Res} {wd : World} {F : Nat → Prop} (h : G n ((d, .int k (bNot k i j)) :: env) b ps hp K) (hx : ev env x = some (.int k i) := by exact rfl) (hy : ev env y = some (.int k j) := by exact rfl)  (hd : Nat.blt d n = true := by exact rfl) : GTR P n env psW hpS wd F b ps hp K ⟨some d, .binOp .andNot t x y t', ty, pos, aft, gd⟩ := .v (.of_soft fun _ => andNot_v hx hy) hd h
theorem u_cpl {t : TypeId} {x : Operand} {k : IntKind} {i : Int} {d : Nat} {ty : TypeId} {pos : String} {aft : Array Edge} {gd : Option (Nat × Bool)} (h : G n ((d, .int k (cplV k i)) :: env) b ps hp K) (hx : ev env x = some (.int k i) := by exact rfl)  (hd : Nat.blt d n = true := by exact rfl) : GO P n env b ps hp ⟨some d, .unOp .xor t x, ty, pos, aft, gd⟩ K Q := rd1 (cpl_v hx) hd h
theorem tu_cpl {t : TypeId} {x : Operand} {k : IntKind} {i : Int} {d : Nat} {ty : TypeId} {pos : String} {aft : Array Edge} {gd : Option (Nat × Bool)} (h : G n ((d, .int k (cplV k i)) :: env) b ps hp K) (hx : ev env x = some (.int k i) := by exact rfl)  (hd : Nat.blt d n = true := by exact rfl) : GT P n env b ps hp ⟨some d, .unOp .xor t x, ty, pos, aft, gd⟩ K := tp1 (cpl_v hx) hd h
theorem ru_cpl {t : TypeId} {x : Operand} {k : IntKind} {i : Int} {d : Nat} {ty : TypeId} {pos : String} {aft : Array Edge} {gd : Option (Nat × Bool)} {psW : List Pf} {hpS : List Res} {wd : World} {F : Nat → Prop} (h : G n ((d, .int k (cplV k i)) :: env) b ps hp K) (hx : ev env x = some (.int k i) := by exact rfl)  (hd : Nat.blt d n = true := by exact rfl) : GTR P n env psW hpS wd F b ps hp K ⟨some d, .unOp .xor t x, ty, pos, aft, gd⟩ := .v (.of_soft fun _ => cpl_v hx) hd h
theorem cv {t t' : TypeId} {x : Operand} {k0 k1 k : IntKind} {i : Int} [UInt P t k0] [UInt P t' k] {d : Nat} {ty : TypeId} {pos : String} {aft : Array Edge} {gd : Option (Nat × Bool)} (h : G n ((d, .int k (k.wrap i)) :: env) b ps hp K) (hx : ev env x = some (.int k1 i) := by exact rfl)  (hd : Nat.blt d n = true := by exact rfl) : GO P n env b ps hp ⟨some d, .convert t t' x, ty, pos, aft, gd⟩ K Q := rd1 (cv_v (k0 := k0) hx) hd h
theorem tcv {t t' : TypeId} {x : Operand} {k0 k1 k : IntKind} {i : Int} [UInt P t k0] [UInt P t' k] {d : Nat} {ty : TypeId} {pos : String} {aft : Array Edge} {gd : Option (Nat × Bool)} (h : G n ((d, .int k (k.wrap i)) :: env) b ps hp K) (hx : ev env x = some (.int k1 i) := by exact rfl)  (hd : Nat.blt d n = true := by exact rfl) : GT P n env b ps hp ⟨some d, .convert t t' x, ty, pos, aft, gd⟩ K := tp1 (cv_v (k0 := k0) hx) hd h
theorem rcv {t t' : TypeId} {x : Operand} {k0 k1 k : IntKind} {i : Int} [UInt P t k0] [UInt P t' k] {d : Nat} {ty : TypeId} {pos : String} {aft : Array Edge} {gd : Option (Nat × Bool)} {psW : List Pf} {hpS : List Res} {wd : World} {F : Nat → Prop} (h : G n ((d, .int k (k.wrap i)) :: env) b ps hp K) (hx : ev env x = some (.int k1 i) := by exact rfl)  (hd : Nat.blt d n = true := by exact rfl) : GTR P n env psW hpS wd F b ps hp K ⟨some d, .convert t t' x, ty, pos, aft, gd⟩ := .v (.of_soft fun _ => cv_v (k0 := k0) hx) hd h
theorem b_seq {t t' : TypeId} {x y : Operand} {u v : ByteArray} [UString P t] {d : Nat} {ty : TypeId} {pos : String} {aft : Array Edge} {gd : Option (Nat × Bool)} (h : G n ((d, .bool (strEq u v)) :: env) b ps hp K) (hx : ev env x = some (.string u) := by exact rfl) (hy : ev env y = some (.string v) := by exact rfl)  (hd : Nat.blt d n = true := by exact rfl) : GO P n env b ps hp ⟨some d, .binOp .eql t x y t', ty, pos, aft, gd⟩ K Q := rd1 (seql_v hx hy) hd h
theorem tb_seq {t t' : TypeId} {x y : Operand} {u v : ByteArray} [UString P t] {d : Nat} {ty : TypeId} {pos : String} {aft : Array Edge} {gd : Option (Nat × Bool)} (h : G n ((d, .bool (strEq u v)) :: env) b ps hp K) (hx : ev env x = some (.string u) := by exact rfl) (hy : ev env y = some (.string v) := by exact rfl)  (hd : Nat.blt d n = true := by exact rfl) : GT P n env b ps hp ⟨some d, .binOp .eql t x y t', ty, pos, aft, gd⟩ K := tp1 (seql_v hx hy) hd h
theorem rb_seq {t t' : TypeId} {x y : Operand} {u v : ByteArray} [UString P t] {d : Nat} {ty : TypeId} {pos : String} {aft : Array Edge} {gd : Option (Nat × Bool)} {psW : List Pf} {hpS : List Res} {wd : World} {F : Nat → Prop} (h : G n ((d, .bool (strEq u v)) :: env) b ps hp K) (hx : ev env x = some (.string u) := by exact rfl) (hy : ev env y = some (.string v) := by exact rfl)  (hd : Nat.blt d n = true := by exact rfl) : GTR P n env psW hpS wd F b ps hp K ⟨some d, .binOp .eql t x y t', ty, pos, aft, gd⟩ := .v (.of_soft fun _ => seql_v hx hy) hd h
theorem b_sne {t t' : TypeId} {x y : Operand} {u v : ByteArray} [UString P t] {d : Nat} {ty : TypeId} {pos : String} {aft : Array Edge} {gd : Option (Nat × Bool)} (h : G n ((d, .bool (strNe u v)) :: env) b ps hp K) (hx : ev env x = some (.string u) := by exact rfl) (hy : ev env y = some (.string v) := by exact rfl)  (hd : Nat.blt d n = true := by exact rfl) : GO P n env b ps hp ⟨some d, .binOp .neq t x y t', ty, pos, aft, gd⟩ K Q := rd1 (sneq_v hx hy) hd h
theorem tb_sne {t t' : TypeId} {x y : Operand} {u v : ByteArray} [UString P t] {d : Nat} {ty : TypeId} {pos : String} {aft : Array Edge} {gd : Option (Nat × Bool)} (h : G n ((d, .bool (strNe u v)) :: env) b ps hp K) (hx : ev env x = some (.string u) := by exact rfl) (hy : ev env y = some (.string v) := by exact rfl)  (hd : Nat.blt d n = true := by exact rfl) : GT P n env b ps hp ⟨some d, .binOp .neq t x y t', ty, pos, aft, gd⟩ K := tp1 (sneq_v hx hy) hd h
theorem rb_sne {t t' : TypeId} {x y : Operand} {u v : ByteArray} [UString P t] {d : Nat} {ty : TypeId} {pos : String} {aft : Array Edge} {gd : Option (Nat × Bool)} {psW : List Pf} {hpS : List Res} {wd : World} {F : Nat → Prop} (h : G n ((d, .bool (strNe u v)) :: env) b ps hp K) (hx : ev env x = some (.string u) := by exact rfl) (hy : ev env y = some (.string v) := by exact rfl)  (hd : Nat.blt d n = true := by exact rfl) : GTR P n env psW hpS wd F b ps hp K ⟨some d, .binOp .neq t x y t', ty, pos, aft, gd⟩ := .v (.of_soft fun _ => sneq_v hx hy) hd h
theorem cvs {ao : Option Addr} {cap cap' m : Nat} {xs : List Int} {t t' et : TypeId} {x : Operand} {d : Nat} {ty : TypeId} {pos : String} {aft : Array Edge} {gd : Option (Nat × Bool)} [USlice P t et] [UInt P et .u8] [UString P t'] [FSl ao ps Ty.byte cap xs] (h : G n ((d, .string (strOfNums xs)) :: env) b ps hp K) (hx : ev env x = some (.slice ao m cap') := by exact rfl) (hm : m = xs.length := by first | exact rfl | (simp; done) | omega) (hd : Nat.blt d n = true := by exact rfl) : GO P n env b ps hp ⟨some d, .convert t t' x, ty, pos, aft, gd⟩ K Q := rd (cvs_rd (cap := cap) hx hm) hd (fun _ => h)
theorem rcvs {psW : List Pf} {hpS : List Res} {wd : World} {F : Nat → Prop} {ao : Option Addr} {cap cap' m : Nat} {xs : List Int} {t t' et : TypeId} {x : Operand} {d : Nat} {ty : TypeId} {pos : String} {aft : Array Edge} {gd : Option (Nat × Bool)} [USlice P t et] [UInt P et .u8] [UString P t'] [FSl ao psW Ty.byte cap xs] (h : G n ((d, .string (strOfNums xs)) :: env) b ps hp K) (hx : ev env x = some (.slice ao m cap') := by exact rfl) (hm : m = xs.length := by first | exact rfl | (simp; done) | omega) (hd : Nat.blt d n = true := by exact rfl) : GTR P n env psW hpS wd F b ps hp K ⟨some d, .convert t t' x, ty, pos, aft, gd⟩ := .mk (cvs_rd (cap := cap) hx hm) hd (fun _ _ => h)
end
end Go.GX

/- Numbers as bytes, plainly. No program in sight. -/
namespace Go.NumM
open Go Go.GX

theorem wrap_u64 (i : Int) : IntKind.u64.wrap i = i % 18446744073709551616 := by simp [IntKind.wrap, IntKind.signed, IntKind.bits]
theorem wrap_u64_nat {z : Nat} (h : z < 18446744073709551616) : IntKind.u64.wrap (z : Int) = (z : Int) := by rw [wrap_u64]; omega
/-- A number without a sign. -/
def zig (n : Int) : Nat := if 0 ≤ n then (2 * n).toNat else (-2 * n - 1).toNat
/-- And back. -/
def zag (z : Nat) : Int := if z % 2 = 1 then -((z / 2 : Nat) : Int) - 1 else ((z / 2 : Nat) : Int)
theorem shr1 {z : Nat} : shrV .u64 (z : Int) 1 = ((z / 2 : Nat) : Int) := by
  have e : min (1 : Int).toNat IntKind.u64.bits = 1 := by decide
  unfold shrV
  rw [e, Int.fdiv_eq_ediv_of_nonneg _ (by decide)]
  omega
/-- The bytes of a number without a sign. -/
def enc (z : Nat) : List Int := if h : z < 128 then [(z : Int)] else ((128 + z % 128 : Nat) : Int) :: enc (z / 128)
  termination_by z
  decreasing_by omega
/-- The bytes of a number. -/
def num (n : Int) : List Int := enc (zig n)
end Go.NumM
