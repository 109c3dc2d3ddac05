/- The plain mathematics of chapter 18: lists of least numbers, joins, and the connection that pairs make. No program in sight. -/
import GoSem.Claim
namespace Go.FindM

/-- 'up' leads to 'lst': each number goes up to a lesser one of the same class, or is the least itself. -/
structure Roots (up lst : List Nat) : Prop where
  len : up.length = lst.length
  le : ∀ i, i < lst.length → up.getD i 0 ≤ i
  step : ∀ i, i < lst.length → lst.getD i 0 = lst.getD (up.getD i 0) 0
  self : ∀ i, i < lst.length → up.getD i 0 = i → lst.getD i 0 = i

theorem getD_set (l : List Nat) (i j v : Nat) (hi : i < l.length) : (l.set i v).getD j 0 = if j = i then v else l.getD j 0 := by
  by_cases h : j = i
  · subst h; simp [List.getD, hi]
  · have : (l.set i v)[j]? = l[j]? := List.getElem?_set_ne (fun e => h e.symm)
    simp [List.getD, h, this]

theorem getD_map {α : Type} (f : Nat → α) (l : List Nat) (i : Nat) (d : α) (h : i < l.length) : (l.map f).getD i d = f (l.getD i 0) := by
  simp [List.getD, h]

namespace Roots
variable {up lst : List Nat} (h : Roots up lst)
include h

theorem root : ∀ i, i < lst.length → lst.getD i 0 ≤ i ∧ lst.getD (lst.getD i 0) 0 = lst.getD i 0 := by
  intro i
  induction i using Nat.strongRecOn with
  | _ i ih =>
    intro hi
    by_cases e : up.getD i 0 = i
    · have := h.self i hi e
      constructor
      · omega
      · rw [this, this]
    · have hle := h.le i hi
      have hlt : up.getD i 0 < i := by omega
      have := ih _ hlt (by omega)
      rw [h.step i hi]
      exact ⟨by omega, this.2⟩

theorem halve {k : Nat} (hk : k < lst.length) : Roots (up.set k (up.getD (up.getD k 0) 0)) lst := by
  have hlen := h.len
  have hu := h.le k hk
  have huu := h.le (up.getD k 0) (by omega)
  refine ⟨by simp [hlen], ?_, ?_, ?_⟩ <;> intro i hi
  · rw [getD_set _ _ _ _ (by omega)]
    split
    · omega
    · exact h.le i hi
  · rw [getD_set _ _ _ _ (by omega)]
    split
    · rename_i e; subst e
      rw [h.step i hi, h.step (up.getD i 0) (by omega)]
    · exact h.step i hi
  · rw [getD_set _ _ _ _ (by omega)]
    split
    · rename_i e; subst e
      intro e2
      exact h.self i hi (by omega)
    · exact h.self i hi
end Roots

/-- What a join makes of the least ones: the class of 'big' goes to 'small'. -/
def joined (lst : List Nat) (x y : Nat) : List Nat := lst.map fun v => if v = x ∨ v = y then min x y else v

theorem joined_length (lst : List Nat) (x y : Nat) : (joined lst x y).length = lst.length := by simp [joined]

theorem joined_getD (lst : List Nat) (x y i : Nat) (h : i < lst.length) :
    (joined lst x y).getD i 0 = if lst.getD i 0 = x ∨ lst.getD i 0 = y then min x y else lst.getD i 0 := getD_map _ _ _ _ h

theorem Roots.join {up lst : List Nat} (h : Roots up lst) {a b : Nat} (ha : a < lst.length) (hb : b < lst.length) (hne : lst.getD a 0 ≠ lst.getD b 0) :
    Roots (up.set (max (lst.getD a 0) (lst.getD b 0)) (min (lst.getD a 0) (lst.getD b 0))) (joined lst (lst.getD a 0) (lst.getD b 0)) := by
  obtain ⟨ra, ra2⟩ := h.root a ha
  obtain ⟨rb, rb2⟩ := h.root b hb
  generalize hx : lst.getD a 0 = x at *
  generalize hy : lst.getD b 0 = y at *
  have hlen := h.len
  have hM : max x y < lst.length := by omega
  have hm : min x y < lst.length := by omega
  have lM : lst.getD (max x y) 0 = max x y := by
    rcases Nat.le_total x y with c | c
    · rw [Nat.max_eq_right c]; exact rb2
    · rw [Nat.max_eq_left c]; exact ra2
  have lm : lst.getD (min x y) 0 = min x y := by
    rcases Nat.le_total x y with c | c
    · rw [Nat.min_eq_left c]; exact ra2
    · rw [Nat.min_eq_right c]; exact rb2
  refine ⟨by simp [hlen, joined_length], ?_, ?_, ?_⟩ <;> rw [joined_length] <;> intro i hi
  · rw [getD_set _ _ _ _ (by omega)]
    split
    · omega
    · exact h.le i hi
  · have hle := h.le i hi
    rw [getD_set _ _ _ _ (by omega)]
    by_cases e : i = max x y
    · rw [if_pos e, joined_getD _ _ _ _ hi, joined_getD _ _ _ _ hm, lm, e, lM, if_pos (by omega), if_pos (by omega)]
    · rw [if_neg e, joined_getD _ _ _ _ hi, joined_getD _ _ _ _ (by omega), h.step i hi]
  · rw [getD_set _ _ _ _ (by omega)]
    by_cases e : i = max x y
    · rw [if_pos e]; intro h; omega
    · rw [if_neg e]
      intro e2
      rw [joined_getD _ _ _ _ hi, h.self i hi e2]
      split
      · omega
      · rfl

/-- All by themselves. -/
theorem Roots.new (n : Nat) : Roots (List.range n) (List.range n) := by
  have g : ∀ i, i < n → (List.range n).getD i 0 = i := fun i hi => by simp [List.getD, hi]
  refine ⟨rfl, ?_, ?_, ?_⟩ <;> simp only [List.length_range] <;> intro i hi
  · rw [g i hi]; omega
  · rw [g i hi, g i hi]
  · intro _; exact g i hi

/-- Each one's least is a fixed point, and no greater. -/
structure Fix (lst : List Nat) : Prop where
  le : ∀ i, i < lst.length → lst.getD i 0 ≤ i
  idem : ∀ i, i < lst.length → lst.getD (lst.getD i 0) 0 = lst.getD i 0

theorem Roots.fix {up lst : List Nat} (h : Roots up lst) : Fix lst := ⟨fun i hi => (h.root i hi).1, fun i hi => (h.root i hi).2⟩

/-- 'Least' of a number that may be no thing. -/
def least (lst : List Nat) (a : Int) : Int := if 0 ≤ a ∧ a < (lst.length : Int) then (lst.getD a.toNat 0 : Nat) else -1

/-- 'Join' of two numbers: was there anything to join, and what is behind it. -/
def join (lst : List Nat) (a b : Int) : Bool × List Nat :=
  if least lst a < 0 ∨ least lst b < 0 ∨ least lst a = least lst b then (false, lst) else (true, joined lst (least lst a).toNat (least lst b).toNat)

/-- The elements below k of the class of r, rising. -/
def elems (lst : List Nat) (k r : Nat) : List Nat := (List.range k).filter fun i => lst.getD i 0 == r
/-- The least ones below k, rising. -/
def heads (lst : List Nat) (k : Nat) : List Nat := (List.range k).filter fun i => lst.getD i 0 == i
/-- The sets, of what is below k. -/
def setsTo (lst : List Nat) (k : Nat) : List (List Nat) := (heads lst k).map (elems lst k)
def sets (lst : List Nat) : List (List Nat) := setsTo lst lst.length

theorem elems_succ (lst : List Nat) (k h : Nat) : elems lst (k + 1) h = elems lst k h ++ (if lst.getD k 0 = h then [k] else []) := by
  unfold elems
  rw [List.range_succ, List.filter_append]
  by_cases e : lst.getD k 0 = h
  · rw [if_pos e]
    have : (lst.getD k 0 == h) = true := by simpa using e
    simp only [List.filter_cons, this, if_true, List.filter_nil]
  · rw [if_neg e]
    have : (lst.getD k 0 == h) = false := by simpa using e
    simp only [List.filter_cons, this, List.filter_nil]
    rfl
theorem heads_succ (lst : List Nat) (k : Nat) : heads lst (k + 1) = heads lst k ++ (if lst.getD k 0 = k then [k] else []) := by
  unfold heads
  rw [List.range_succ, List.filter_append]
  by_cases e : lst.getD k 0 = k
  · rw [if_pos e]
    have : (lst.getD k 0 == k) = true := by simpa using e
    simp only [List.filter_cons, this, if_true, List.filter_nil]
  · rw [if_neg e]
    have : (lst.getD k 0 == k) = false := by simpa using e
    simp only [List.filter_cons, this, List.filter_nil]
    rfl
theorem heads_mem {lst : List Nat} {k r : Nat} : r ∈ heads lst k ↔ r < k ∧ lst.getD r 0 = r := by
  unfold heads
  rw [List.mem_filter, List.mem_range, beq_iff_eq]
theorem heads_nodup (lst : List Nat) (k : Nat) : (heads lst k).Nodup := List.Pairwise.filter _ List.nodup_range
theorem elems_mem {lst : List Nat} {k r i : Nat} : i ∈ elems lst k r ↔ i < k ∧ lst.getD i 0 = r := by
  unfold elems
  rw [List.mem_filter, List.mem_range, beq_iff_eq]
theorem nodup_inj {α : Type} {l : List α} (h : l.Nodup) {i j : Nat} (hi : i < l.length) (hj : j < l.length) (e : l[i] = l[j]) : i = j := by
  have hp := List.pairwise_iff_getElem.1 h
  rcases Nat.lt_trichotomy i j with c | c | c
  · exact absurd e (hp i j hi hj c)
  · exact c
  · exact absurd e.symm (hp j i hj hi c)
/-- Where a head stands. -/
theorem heads_at {lst : List Nat} {r : Nat} (hr : lst.getD r 0 = r) : ∀ k, r < k → (heads lst k)[(heads lst r).length]? = some r := by
  intro k hk
  induction k with
  | zero => omega
  | succ k ih =>
    rw [heads_succ]
    by_cases e : r = k
    · subst e
      rw [if_pos hr, List.getElem?_append_right (Nat.le_refl _)]; simp
    · have := ih (by omega)
      rw [List.getElem?_append_left (List.getElem?_eq_some_iff.1 this).1]
      exact this

/-- One element more: into which set it goes. -/
theorem setsTo_succ {lst : List Nat} (hf : Fix lst) {k : Nat} (hk : k < lst.length) :
    (setsTo lst k ++ (if lst.getD k 0 = k then [[]] else []))[(heads lst (lst.getD k 0)).length]? = some (elems lst k (lst.getD k 0)) ∧
    setsTo lst (k + 1) = (setsTo lst k ++ (if lst.getD k 0 = k then [[]] else [])).set (heads lst (lst.getD k 0)).length (elems lst k (lst.getD k 0) ++ [k]) := by
  have hle := hf.le k hk
  have hid := hf.idem k hk
  have hempty : lst.getD k 0 = k → elems lst k k = [] := fun _ => by
    apply List.eq_nil_iff_forall_not_mem.2
    intro i hi
    obtain ⟨h1, h2⟩ := elems_mem.1 hi
    have := hf.le i (by omega)
    omega
  have hL : setsTo lst k ++ (if lst.getD k 0 = k then [[]] else []) = (heads lst (k + 1)).map (elems lst k) := by
    unfold setsTo
    rw [heads_succ, List.map_append]
    by_cases e : lst.getD k 0 = k
    · rw [if_pos e, if_pos e]; simp [hempty e]
    · rw [if_neg e, if_neg e]; rfl
  have hat := heads_at hid (k + 1) (by omega)
  rw [hL]
  refine ⟨by rw [List.getElem?_map, hat]; rfl, ?_⟩
  apply List.ext_getElem?
  intro j
  unfold setsTo
  rw [List.getElem?_map, List.getElem?_set, List.getElem?_map, List.length_map]
  by_cases hj : (heads lst (lst.getD k 0)).length = j
  · subst hj
    have hlt := (List.getElem?_eq_some_iff.1 hat).1
    rw [if_pos rfl, if_pos hlt, hat]
    simp only [Option.map_some]
    rw [elems_succ, if_pos rfl]
  · rw [if_neg hj]
    cases hh : (heads lst (k + 1))[j]? with
    | none => rfl
    | some h =>
      simp only [Option.map_some]
      rw [elems_succ, if_neg, List.append_nil]
      intro e
      obtain ⟨h1, h2⟩ := List.getElem?_eq_some_iff.1 hat
      obtain ⟨h3, h4⟩ := List.getElem?_eq_some_iff.1 hh
      exact hj (nodup_inj (heads_nodup lst (k + 1)) h1 h3 (by rw [h2, h4, e]))

theorem sets_len (lst : List Nat) (k : Nat) : (setsTo lst k).length = (heads lst k).length := by simp [setsTo]
theorem heads_len (lst : List Nat) (k : Nat) : (heads lst k).length ≤ k := by
  have := List.length_filter_le (fun i => lst.getD i 0 == i) (List.range k)
  simpa [heads] using this
theorem elems_len (lst : List Nat) (k r : Nat) : (elems lst k r).length ≤ k := by
  have := List.length_filter_le (fun i => lst.getD i 0 == r) (List.range k)
  simpa [elems] using this

end Go.FindM
