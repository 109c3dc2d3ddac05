/- More plain mathematics of chapter 18: joins in whatever order; chains. No program in sight. -/
import Derived.Test.YtpdehhmnmddjaaaFindMath
namespace Go.FindM

/-- A pair that joins two things that are there. -/
def Valid (n : Nat) (p : Int × Int) : Prop := (0 ≤ p.1 ∧ p.1 < (n : Int)) ∧ (0 ≤ p.2 ∧ p.2 < (n : Int))

/-- 'lst' is what joining the pairs of E makes: the finest that holds each pair together. -/
structure Spec (n : Nat) (E : List (Int × Int)) (lst : List Nat) : Prop where
  len : lst.length = n
  fix : Fix lst
  holds : ∀ p ∈ E, Valid n p → lst.getD p.1.toNat 0 = lst.getD p.2.toNat 0
  fine : ∀ g : Nat → Nat, (∀ p ∈ E, Valid n p → g p.1.toNat = g p.2.toNat) → ∀ i, i < n → g i = g (lst.getD i 0)

theorem Spec.new (n : Nat) : Spec n [] (List.range n) := by
  refine ⟨by simp, (Roots.new n).fix, by simp, fun g _ i hi => ?_⟩
  rw [List.getD, List.getElem?_range hi]; rfl

theorem Spec.eq {n : Nat} {E F : List (Int × Int)} {lst lst' : List Nat} (h : Spec n E lst) (h' : Spec n F lst') (hEF : ∀ p ∈ E, p ∈ F ∨ (p.2, p.1) ∈ F) (hFE : ∀ p ∈ F, p ∈ E ∨ (p.2, p.1) ∈ E) : lst = lst' := by
  have k1 : ∀ i, i < n → lst'.getD i 0 = lst'.getD (lst.getD i 0) 0 := h.fine _ (fun p hp hv => by
    rcases hEF p hp with c | c
    · exact h'.holds p c hv
    · exact (h'.holds _ c ⟨hv.2, hv.1⟩).symm)
  have k2 : ∀ i, i < n → lst.getD i 0 = lst.getD (lst'.getD i 0) 0 := h'.fine _ (fun p hp hv => by
    rcases hFE p hp with c | c
    · exact h.holds p c hv
    · exact (h.holds _ c ⟨hv.2, hv.1⟩).symm)
  apply List.ext_getElem (by rw [h.len, h'.len])
  intro i h1 h2
  have hi : i < n := by rw [← h.len]; exact h1
  have a1 := k1 i hi
  have a2 := k2 i hi
  have f1 := h.fix.le i h1
  have f2 := h'.fix.le i h2
  have b1 := h'.fix.le (lst.getD i 0) (by rw [h'.len]; omega)
  have b2 := h.fix.le (lst'.getD i 0) (by rw [h.len]; omega)
  have e1 : lst.getD i 0 = lst[i] := by rw [List.getD, List.getElem?_eq_getElem h1]; rfl
  have e2 : lst'.getD i 0 = lst'[i] := by rw [List.getD, List.getElem?_eq_getElem h2]; rfl
  omega

theorem least_val {lst : List Nat} {a : Int} (h : 0 ≤ a ∧ a < (lst.length : Int)) : least lst a = (lst.getD a.toNat 0 : Nat) := by
  unfold least; rw [if_pos h]
theorem least_none {lst : List Nat} {a : Int} (h : ¬ (0 ≤ a ∧ a < (lst.length : Int))) : least lst a = -1 := by
  unfold least; rw [if_neg h]

theorem joined_fix {lst : List Nat} (h : Fix lst) {x y : Nat} (hx : x < lst.length) (hy : y < lst.length) (ex : lst.getD x 0 = x) (ey : lst.getD y 0 = y) : Fix (joined lst x y) := by
  have hm : lst.getD (min x y) 0 = min x y := by
    rcases Nat.le_total x y with c | c
    · rw [Nat.min_eq_left c]; exact ex
    · rw [Nat.min_eq_right c]; exact ey
  refine ⟨fun i hi => ?_, fun i hi => ?_⟩ <;> rw [joined_length] at hi
  · have := h.le i hi
    rw [joined_getD _ _ _ _ hi]
    split <;> omega
  · have h1 := h.le i hi
    have h2 := h.idem i hi
    rw [joined_getD _ _ _ _ hi]
    split
    · rw [joined_getD _ _ _ _ (by omega), hm, if_pos (by omega)]
    · rename_i hn
      rw [joined_getD _ _ _ _ (by omega), h2, if_neg hn]

/-- How many are the least of their set, behind a join. -/
theorem joined_heads {lst : List Nat} {x y : Nat} (hx : x < lst.length) (hy : y < lst.length) (ex : lst.getD x 0 = x) (ey : lst.getD y 0 = y) (hne : x ≠ y) :
    (heads (joined lst x y) lst.length).length + 1 = (heads lst lst.length).length := by
  have hM : max x y ∈ heads lst lst.length := by
    rw [heads_mem]
    refine ⟨by omega, ?_⟩
    rcases Nat.le_total x y with c | c
    · rw [Nat.max_eq_right c]; exact ey
    · rw [Nat.max_eq_left c]; exact ex
  have he : heads (joined lst x y) lst.length = (heads lst lst.length).erase (max x y) := by
    rw [(heads_nodup lst lst.length).erase_eq_filter]
    unfold heads
    rw [List.filter_filter]
    apply List.filter_congr
    intro i hi
    rw [List.mem_range] at hi
    rw [joined_getD _ _ _ _ hi]
    rw [Bool.eq_iff_iff]
    simp only [beq_iff_eq, Bool.and_eq_true, bne_iff_ne, ne_eq]
    constructor
    · intro h
      split at h
      · rename_i hc
        constructor
        · omega
        · rcases Nat.le_total x y with c | c
          · rw [Nat.min_eq_left c] at h; subst h; exact ex
          · rw [Nat.min_eq_right c] at h; subst h; exact ey
      · rename_i hc
        refine ⟨by omega, h⟩
    · rintro ⟨h1, h2⟩
      split
      · omega
      · exact h2
  rw [he, List.length_erase_of_mem hM]
  have := List.length_pos_of_mem hM
  omega

theorem Spec.join {n : Nat} {E : List (Int × Int)} {lst : List Nat} (h : Spec n E lst) (a b : Int) :
    Spec n (E ++ [(a, b)]) (FindM.join lst a b).2 ∧ (heads (FindM.join lst a b).2 n).length + (if (FindM.join lst a b).1 = true then 1 else 0) = (heads lst n).length := by
  have hlen := h.len
  by_cases hv : Valid n (a, b)
  · obtain ⟨⟨a0, a1⟩, b0, b1⟩ := hv
    dsimp only at a0 a1 b0 b1
    unfold FindM.join
    rw [least_val (lst := lst) (a := a) (by omega), least_val (lst := lst) (a := b) (by omega)]
    generalize hx : lst.getD a.toNat 0 = x
    generalize hy : lst.getD b.toNat 0 = y
    by_cases e : x = y
    · rw [if_pos (by omega)]
      refine ⟨⟨hlen, h.fix, fun p hp hv => ?_, fun g hg i hi => h.fine g (fun p hp hv => hg p (List.mem_append_left _ hp) hv) i hi⟩, by simp⟩
      rcases List.mem_append.1 hp with c | c
      · exact h.holds p c hv
      · rw [List.mem_singleton] at c; subst c; dsimp only; rw [hx, hy, e]
    · rw [if_neg (by omega)]
      have hxl := h.fix.le a.toNat (by omega)
      have hyl := h.fix.le b.toNat (by omega)
      have ex := h.fix.idem a.toNat (by omega)
      have ey := h.fix.idem b.toNat (by omega)
      rw [hx] at hxl ex
      rw [hy] at hyl ey
      have hxn : x < lst.length := by omega
      have hyn : y < lst.length := by omega
      simp only [Int.toNat_natCast, if_true]
      refine ⟨⟨by rw [joined_length]; exact hlen, joined_fix h.fix hxn hyn ex ey, fun p hp hv => ?_, fun g hg i hi => ?_⟩, ?_⟩
      · obtain ⟨⟨p0, p1⟩, q0, q1⟩ := hv
        rw [joined_getD _ _ _ _ (by omega), joined_getD _ _ _ _ (by omega)]
        rcases List.mem_append.1 hp with c | c
        · rw [h.holds p c ⟨⟨p0, p1⟩, q0, q1⟩]
        · rw [List.mem_singleton] at c; subst c; dsimp only; rw [hx, hy, if_pos (Or.inl rfl), if_pos (Or.inr rfl)]
      · have hf := h.fine g (fun p hp hv => hg p (List.mem_append_left _ hp) hv)
        have hab : g a.toNat = g b.toNat := hg (a, b) (by simp) ⟨⟨a0, a1⟩, b0, b1⟩
        have h1 := hf a.toNat (by omega)
        have h2 := hf b.toNat (by omega)
        rw [hx] at h1
        rw [hy] at h2
        have h3 := hf i hi
        rw [joined_getD _ _ _ _ (by omega)]
        have hmin : g (min x y) = g x ∧ g (min x y) = g y := by
          rcases Nat.le_total x y with c | c
          · rw [Nat.min_eq_left c]; exact ⟨rfl, by omega⟩
          · rw [Nat.min_eq_right c]; exact ⟨by omega, rfl⟩
        split
        · rename_i hc
          rcases hc with c | c <;> rw [c] at h3 <;> omega
        · exact h3
      · have := joined_heads hxn hyn ex ey e
        rw [hlen] at this
        exact this
  · have hl : least lst a < 0 ∨ least lst b < 0 := by
      by_cases ha : 0 ≤ a ∧ a < (n : Int)
      · have hb : ¬ (0 ≤ b ∧ b < (n : Int)) := fun hb => hv ⟨ha, hb⟩
        right; rw [least_none (by rw [hlen]; exact hb)]; omega
      · left; rw [least_none (by rw [hlen]; exact ha)]; omega
    unfold FindM.join
    rw [if_pos (by omega)]
    refine ⟨⟨hlen, h.fix, fun p hp hv' => ?_, fun g hg i hi => h.fine g (fun p hp hv => hg p (List.mem_append_left _ hp) hv) i hi⟩, by simp⟩
    rcases List.mem_append.1 hp with c | c
    · exact h.holds p c hv'
    · rw [List.mem_singleton] at c; subst c; exact absurd hv' hv

theorem heads_range (n : Nat) : (heads (List.range n) n).length = n := by
  unfold heads
  rw [List.filter_eq_self.2, List.length_range]
  intro i hi
  rw [List.mem_range] at hi
  rw [List.getD, List.getElem?_range hi]; simp

/-- The same pairs, in whatever order and turned or not. -/
def Turned (l m : List (Int × Int)) : Prop := m.length = l.length ∧ (∀ p ∈ l, p ∈ m ∨ (p.2, p.1) ∈ m) ∧ (∀ p ∈ m, p ∈ l ∨ (p.2, p.1) ∈ l)
theorem Turned.refl (l : List (Int × Int)) : Turned l l := ⟨rfl, fun _ h => .inl h, fun _ h => .inl h⟩
theorem Turned.trans {l m k : List (Int × Int)} (h : Turned l m) (g : Turned m k) : Turned l k := by
  refine ⟨g.1.trans h.1, fun p hp => ?_, fun p hp => ?_⟩
  · rcases h.2.1 p hp with c | c
    · exact g.2.1 p c
    · exact (g.2.1 _ c).symm
  · rcases g.2.2 p hp with c | c
    · exact h.2.2 p c
    · exact (h.2.2 _ c).symm
/-- 'm[i], m[k] = turned m[k], m[i]'. -/
theorem Turned.swap {m : List (Int × Int)} {i k : Nat} {x y : Int × Int} (hi : m[i]? = some x) (hk : m[k]? = some y) : Turned m ((m.set i (y.2, y.1)).set k x) := by
  obtain ⟨hil, hix⟩ := List.getElem?_eq_some_iff.1 hi
  obtain ⟨hkl, hky⟩ := List.getElem?_eq_some_iff.1 hk
  have key : ∀ j, ((m.set i (y.2, y.1)).set k x)[j]? = if j = k then some x else if j = i then some (y.2, y.1) else m[j]? := by
    intro j
    rw [List.getElem?_set, List.getElem?_set]
    simp only [List.length_set]
    by_cases e : j = k
    · rw [if_pos e.symm, if_pos e, if_pos hkl]
    · rw [if_neg (fun h => e h.symm), if_neg e]
      by_cases e2 : j = i
      · rw [if_pos e2.symm, if_pos e2, if_pos hil]
      · rw [if_neg (fun h => e2 h.symm), if_neg e2]
  refine ⟨by simp, fun p hp => ?_, fun p hp => ?_⟩
  · obtain ⟨j, hj⟩ := List.mem_iff_getElem?.1 hp
    by_cases e : j = i
    · subst e
      rw [hi] at hj; cases hj
      exact .inl (List.mem_iff_getElem?.2 ⟨k, by rw [key, if_pos rfl]⟩)
    · by_cases e2 : j = k
      · subst e2
        rw [hk] at hj; cases hj
        by_cases e3 : i = j
        · exact absurd e3.symm e
        · exact .inr (List.mem_iff_getElem?.2 ⟨i, by rw [key, if_neg e3, if_pos rfl]⟩)
      · exact .inl (List.mem_iff_getElem?.2 ⟨j, by rw [key, if_neg e2, if_neg e]; exact hj⟩)
  · obtain ⟨j, hj⟩ := List.mem_iff_getElem?.1 hp
    rw [key] at hj
    split at hj
    · cases hj; exact .inl (List.mem_iff_getElem?.2 ⟨i, hi⟩)
    · split at hj
      · cases hj; exact .inr (List.mem_iff_getElem?.2 ⟨k, hk⟩)
      · exact .inl (List.mem_iff_getElem?.2 ⟨j, hj⟩)

/-! ### Chains -/
theorem join_map {n : Nat} (f : Nat → Nat) {a b : Nat} (ha : a < n) (hb : b < n) (hne : f a ≠ f b) :
    join ((List.range n).map f) (a : Int) (b : Int) = (true, (List.range n).map fun i => if f i = f a ∨ f i = f b then min (f a) (f b) else f i) := by
  have e : ∀ i, i < n → ((List.range n).map f).getD i 0 = f i := fun i hi => by rw [List.getD, List.getElem?_map, List.getElem?_range hi]; rfl
  unfold join
  rw [least_val (by simp; omega), least_val (by simp; omega)]
  simp only [Int.toNat_natCast]
  rw [e a ha, e b hb, if_neg (by omega)]
  simp only [joined, List.map_map]
  rfl
theorem least_map {n : Nat} (f : Nat → Nat) {a : Nat} (ha : a < n) : least ((List.range n).map f) (a : Int) = (f a : Nat) := by
  rw [least_val (by simp; omega)]
  simp only [Int.toNat_natCast]
  rw [List.getD, List.getElem?_map, List.getElem?_range ha]; rfl
/-- The chain from the front, i links looked at; from the back. -/
def fwd (cut i j : Nat) : Nat := if j ≤ i then (if j ≤ cut then 0 else cut + 1) else j
def bwd (n cut i j : Nat) : Nat := if j < n - 1 - i then j else if j ≤ cut then n - 1 - i else max (n - 1 - i) (cut + 1)
def chain (back : Bool) (n cut i : Nat) : List Nat := (List.range n).map (if back then bwd n cut i else fwd cut i)
def link (back : Bool) (n i : Nat) : Nat := if back then n - 2 - i else i

theorem chain_zero (back : Bool) (n cut : Nat) : chain back n cut 0 = List.range n := by
  unfold chain
  have : ∀ j ∈ List.range n, (if back then bwd n cut 0 else fwd cut 0) j = j := by
    intro j hj
    rw [List.mem_range] at hj
    cases back
    · simp only [Bool.false_eq_true, if_false, fwd]; (repeat' split) <;> omega
    · simp only [if_true, bwd]; (repeat' split) <;> omega
  rw [List.map_congr_left this, List.map_id']
theorem chain_skip {back : Bool} {n cut i : Nat} (hi : i + 1 < n) (hc : link back n i = cut) : chain back n cut (i + 1) = chain back n cut i := by
  unfold chain
  apply List.map_congr_left
  intro j hj
  rw [List.mem_range] at hj
  cases back
  · simp only [Bool.false_eq_true, if_false, link, fwd] at hc ⊢; (repeat' split) <;> omega
  · simp only [if_true, link, bwd] at hc ⊢; (repeat' split) <;> omega
theorem chain_join {back : Bool} {n cut i : Nat} (hi : i + 1 < n) (hc : link back n i ≠ cut) :
    join (chain back n cut i) ((link back n i + 1 : Nat) : Int) (link back n i : Nat) = (true, chain back n cut (i + 1)) := by
  unfold chain
  cases back
  · simp only [Bool.false_eq_true, if_false, link] at hc ⊢
    have h1 : fwd cut i (i + 1) = i + 1 := by unfold fwd; (repeat' split) <;> omega
    have h2 : fwd cut i i = if i ≤ cut then 0 else cut + 1 := by unfold fwd; rw [if_pos (Nat.le_refl _)]
    rw [join_map _ (by omega) (by omega) (by rw [h1, h2]; split <;> omega)]
    congr 1
    apply List.map_congr_left
    intro j hj
    rw [List.mem_range] at hj
    rw [h1, h2]
    unfold fwd
    (repeat' split) <;> omega
  · simp only [if_true, link] at hc ⊢
    have h1 : bwd n cut i (n - 2 - i + 1) = n - 1 - i := by unfold bwd; (repeat' split) <;> omega
    have h2 : bwd n cut i (n - 2 - i) = n - 2 - i := by unfold bwd; (repeat' split) <;> omega
    rw [join_map _ (by omega) (by omega) (by rw [h1, h2]; omega)]
    congr 1
    apply List.map_congr_left
    intro j hj
    rw [List.mem_range] at hj
    rw [h1, h2]
    unfold bwd
    (repeat' split) <;> omega
/-- The whole chain. -/
def whole (cut j : Nat) : Nat := if j ≤ cut then 0 else cut + 1
theorem chain_whole {back : Bool} {n cut : Nat} (hn : 0 < n) : chain back n cut (n - 1) = (List.range n).map (whole cut) := by
  unfold chain
  apply List.map_congr_left
  intro j hj
  rw [List.mem_range] at hj
  cases back
  · simp only [Bool.false_eq_true, if_false, fwd, whole]; (repeat' split) <;> omega
  · simp only [if_true, bwd, whole]; (repeat' split) <;> omega
theorem whole_heads {n cut : Nat} : ∀ k, k ≤ n → (heads ((List.range n).map (whole cut)) k).length = (if 0 < k then 1 else 0) + (if cut + 1 < k then 1 else 0) := by
  intro k
  induction k with
  | zero => intro _; simp [heads]
  | succ k ih =>
    intro hk
    have e : ((List.range n).map (whole cut)).getD k 0 = whole cut k := by rw [List.getD, List.getElem?_map, List.getElem?_range (by omega)]; rfl
    rw [heads_succ, List.length_append, ih (by omega), e]
    unfold whole
    by_cases h0 : k = 0
    · subst h0; simp
    · by_cases h1 : k = cut + 1
      · subst h1; simp
      · have : ¬ (if k ≤ cut then 0 else cut + 1) = k := by split <;> omega
        rw [if_neg this]
        simp only [List.length_nil]
        (repeat' split) <;> omega
end Go.FindM
