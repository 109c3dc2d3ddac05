/- Slices of one's own, and slices of slices: what stays, what a store and an append make of them. No program in sight. -/
import Derived.Test.YtfcmohfddjcfkaaRxMap
namespace Go.RX
open Go Go.RowKit Go.RR

section
variable {w w' : World} {B : Nat} {e : TypeId} {sz : Nat} {v : Value} {n : Nat} {xs : List Value}

theorem owns_keep {O : Nat → Prop} (h : w.ownsRow B e sz v n xs) (hu : Upd O w w') (hO : ∀ k, v.ownBlock = some k → ¬ O k) : w'.ownsRow B e sz v n xs := by
  refine ⟨h.1, ?_⟩
  rcases h.2 with hn | ⟨g, cap, cur, rfl, hb, hg, rest⟩
  · exact .inl hn
  · exact .inr ⟨g, cap, cur, rfl, hb, (hu.block g (Array.getElem?_eq_some_iff.1 hg).1 (hO g rfl)).trans hg, rest⟩

theorem owns_mono {B' : Nat} (h : w.ownsRow B e sz v n xs) (hB : B' ≤ B) : w.ownsRow B' e sz v n xs := by
  refine ⟨h.1, ?_⟩
  rcases h.2 with hn | ⟨g, cap, cur, hv, hb, rest⟩
  · exact .inl hn
  · exact .inr ⟨g, cap, cur, hv, by omega, rest⟩

theorem owns_nil (w : World) (B : Nat) (e : TypeId) (sz : Nat) : w.ownsRow B e sz (.slice none 0 0) 0 [] := World.ownsRow_nil w B e sz

/-- What is not empty lies in a row. -/
theorem owns_row (h : w.ownsRow B e 1 v n xs) (hn : 0 < n) : ∃ g cap vs, v = .slice (some ⟨g, 0, none⟩) n cap ∧ B ≤ g ∧ Row w g e vs ∧ vs.length = cap ∧ n ≤ cap ∧ cap ≤ maxLen ∧ vs.take n = xs ∧ xs.length = n := by
  rcases h.2 with ⟨_, h0⟩ | ⟨g, cap, cur, hv, hb, hg, h1, h2, h3, h4⟩
  · omega
  · exact ⟨g, cap, cur.toList, hv, hb, by simpa [Row] using hg, by simpa using h3, h1, h2, by simpa using h4, by simpa using h.1⟩

theorem owns_len (h : w.ownsRow B e 1 v n xs) : xs.length = n := by simpa using h.1

theorem owns_slice (h : w.ownsRow B e 1 v n xs) : ∃ a cap, v = .slice a n cap := by
  rcases h.2 with ⟨rfl, rfl⟩ | ⟨g, cap, cur, hv, _⟩
  · exact ⟨none, 0, rfl⟩
  · exact ⟨_, cap, hv⟩

theorem owns_cell (h : w.ownsRow B e 1 v n xs) {g : Nat} {m cap : Nat} (hv : v = .slice (some ⟨g, 0, none⟩) m cap) {i : Nat} {x : Value} (hi : xs[i]? = some x) : w.cell? ⟨g, i, none⟩ = some x := by
  subst hv
  have := h.cells (g := g) rfl i x hi
  rwa [Addr.add_lit, Nat.zero_add] at this

theorem take_set {α : Type} (l : List α) (n i : Nat) (x : α) : (l.set i x).take n = (l.take n).set i x := by
  apply List.ext_getElem?
  intro j
  simp only [List.getElem?_take, List.getElem?_set, List.length_take]
  by_cases h : j < n
  · by_cases hij : i = j
    · subst hij
      by_cases hl : i < l.length
      · simp [h, hl]; omega
      · simp [h, hl]; omega
    · simp [h, hij]
  · by_cases hij : i = j
    · subst hij; simp [h]; omega
    · simp [h, hij]

theorem owns_of_row {g cap : Nat} {vs : List Value} (hr : Row w g e vs) (hB : B ≤ g) (hl : vs.length = cap) (hn : n ≤ cap) (hc : cap ≤ maxLen) (ht : vs.take n = xs) : w.ownsRow B e 1 (.slice (some ⟨g, 0, none⟩) n cap) n xs := by
  refine ⟨?_, .inr ⟨g, cap, vs.toArray, rfl, hB, hr, hn, hc, by simpa using hl, by simpa using ht⟩⟩
  rw [← ht]; simp; omega

theorem owns_lt (h : w.ownsRow B e sz v n xs) {k : Nat} (hk : v.ownBlock = some k) : B ≤ k ∧ k < w.heap.size := h.lt k hk

/-- A store of one cell. -/
theorem owns_set {g cap i : Nat} {vs : List Value} {x : Value} (hr : Row w' g e (vs.set i x)) (hB : B ≤ g) (hl : vs.length = cap) (hn : n ≤ cap) (hc : cap ≤ maxLen) (ht : vs.take n = xs) : w'.ownsRow B e 1 (.slice (some ⟨g, 0, none⟩) n cap) n (xs.set i x) :=
  owns_of_row hr hB (by simpa using hl) hn hc (by rw [← ht, take_set])
end

/-- The row beneath a slice that is not nil. -/
def Arr (w : World) (g : Nat) (e : TypeId) (n cap : Nat) (xs : List Value) : Prop := ∃ vs, Row w g e vs ∧ vs.length = cap ∧ n ≤ cap ∧ cap ≤ maxLen ∧ vs.take n = xs
theorem arr_of_owns {w : World} {B : Nat} {e : TypeId} {v : Value} {n : Nat} {xs : List Value} (h : w.ownsRow B e 1 v n xs) (hn : 0 < n) : ∃ g cap, v = .slice (some ⟨g, 0, none⟩) n cap ∧ B ≤ g ∧ Arr w g e n cap xs := by
  obtain ⟨g, cap, vs, h1, h2, h3, h4, h5, h6, h7, _⟩ := owns_row h hn
  exact ⟨g, cap, h1, h2, vs, h3, h4, h5, h6, h7⟩
namespace Arr
variable {w w' : World} {g n cap : Nat} {e : TypeId} {xs : List Value}
theorem owns {B : Nat} (h : Arr w g e n cap xs) (hB : B ≤ g) : w.ownsRow B e 1 (.slice (some ⟨g, 0, none⟩) n cap) n xs := by
  obtain ⟨vs, h3, h4, h5, h6, h7⟩ := h
  exact owns_of_row h3 hB h4 h5 h6 h7
theorem keep {O : Nat → Prop} (h : Arr w g e n cap xs) (hu : Upd O w w') (hg : ¬ O g) : Arr w' g e n cap xs := by
  obtain ⟨vs, h3, h4⟩ := h
  exact ⟨vs, h3.keep hu hg, h4⟩
theorem lt (h : Arr w g e n cap xs) : g < w.heap.size := by obtain ⟨vs, h3, h4⟩ := h; exact h3.lt
theorem len (h : Arr w g e n cap xs) : xs.length = n := by obtain ⟨vs, h3, h4, h5, h6, h7⟩ := h; rw [← h7]; simp; omega
theorem bound (h : Arr w g e n cap xs) : n ≤ 9223372036854775807 := by obtain ⟨vs, h3, h4, h5, h6, h7⟩ := h; simp only [maxLen] at h6; omega
theorem cell (h : Arr w g e n cap xs) {i : Nat} {x : Value} (hi : xs[i]? = some x) : w.cell? ⟨g, i, none⟩ = some x := by
  obtain ⟨vs, h3, h4, h5, h6, h7⟩ := h
  refine h3.cell_some ?_
  rw [← h7, List.getElem?_take] at hi
  split at hi
  · exact hi
  · cases hi
theorem free (h : Arr w g e n cap xs) (i : Nat) : w.frozen? ⟨g, i, none⟩ = false := by obtain ⟨vs, h3, h4⟩ := h; exact h3.free i
theorem set (h : Arr w g e n cap xs) (i : Nat) (x : Value) : Arr (w.setCell ⟨g, i, none⟩ x) g e n cap (xs.set i x) := by
  obtain ⟨vs, h3, h4, h5, h6, h7⟩ := h
  exact ⟨vs.set i x, h3.set i x, by simpa using h4, h5, h6, by rw [take_set, h7]⟩
end Arr
/-- A store into such a row. -/
theorem store_arr {P : Program} {n : Nat} {env : Env} {w : World} {Q : Exit → Act → World → Prop} {K : Act → World → Prop} {ty : TypeId} {pos : String} {aft : Array Edge} {gd : Option (Nat × Bool)} {t e : TypeId} {x y : Operand} {g i m cap : Nat} {v : Value} {xs : List Value} [hs : USize P t 1]
    (hx : ev env x = some (.pointer (some ⟨g, i, none⟩))) (hy : ev env y = some v) (hr : Arr w g e m cap xs) (hv : v.oneCell' = true) (hi : i < m) (h : ∀ w', Arr w' g e m cap (xs.set i v) → Upd (fun k => k = g) w w' → E n env w' K) :
    OW P n env w ⟨none, .store t x y, ty, pos, aft, gd⟩ K Q :=
  store hx hy hv (hr.cell (List.getElem?_eq_getElem (by rw [hr.len]; exact hi))) (hr.free i) (h _ (hr.set i v) ((Upd.refl (fun k => k = g) w).setCell (p := ⟨g, i, none⟩) (fun _ => rfl) v))

/-- A slice of slices of one's own. -/
structure Grid (w : World) (B : Nat) (eo ei : TypeId) (v : Value) (cs : List Value) (xss : List (List Value)) : Prop where
  outer : w.ownsRow B eo 1 v xss.length cs
  inner : ∀ (i : Nat) (c : Value) (xs : List Value), cs[i]? = some c → xss[i]? = some xs → w.ownsRow B ei 1 c xs.length xs
  apart : ∀ (i : Nat) (c : Value) (k : Nat), cs[i]? = some c → c.ownBlock = some k → v.ownBlock ≠ some k
  dist : ∀ (i j : Nat) (c d : Value) (k : Nat), i ≠ j → cs[i]? = some c → cs[j]? = some d → c.ownBlock = some k → d.ownBlock ≠ some k

namespace Grid
variable {w w' : World} {B : Nat} {eo ei : TypeId} {v : Value} {cs : List Value} {xss : List (List Value)}

theorem nil (w : World) (B : Nat) (eo ei : TypeId) : Grid w B eo ei (.slice none 0 0) [] [] := ⟨owns_nil _ _ _ _, by simp, by simp, by simp⟩

theorem len (h : Grid w B eo ei v cs xss) : cs.length = xss.length := owns_len h.outer

theorem keep {O : Nat → Prop} (h : Grid w B eo ei v cs xss) (hu : Upd O w w') (hO : ∀ k, B ≤ k → k < w.heap.size → ¬ O k) : Grid w' B eo ei v cs xss := by
  refine ⟨owns_keep h.outer hu (fun k hk => ?_), fun i c xs h1 h2 => owns_keep (h.inner i c xs h1 h2) hu (fun k hk => ?_), h.apart, h.dist⟩
  · have := owns_lt h.outer hk; exact hO k this.1 this.2
  · have := owns_lt (h.inner i c xs h1 h2) hk; exact hO k this.1 this.2

theorem mono {B' : Nat} (h : Grid w B eo ei v cs xss) (hB : B' ≤ B) : Grid w B' eo ei v cs xss := by
  have key : ∀ {e : TypeId} {v : Value} {n : Nat} {xs : List Value}, w.ownsRow B e 1 v n xs → w.ownsRow B' e 1 v n xs := by
    intro e v n xs h
    refine ⟨h.1, ?_⟩
    rcases h.2 with hn | ⟨g, cap, cur, hv, hb, rest⟩
    · exact .inl hn
    · exact .inr ⟨g, cap, cur, hv, by omega, rest⟩
  exact ⟨key h.outer, fun i c xs h1 h2 => key (h.inner i c xs h1 h2), h.apart, h.dist⟩

/-- Behind 'append(l, s)', s a slice of its own that the grid does not hold. -/
theorem push {v' c0 : Value} {ys : List Value} (h : Grid w B eo ei v cs xss) (hc : w.ownsRow B ei 1 c0 ys.length ys) (hap : ∀ k, c0.ownBlock = some k → v.ownBlock ≠ some k ∧ ∀ (i : Nat) d, cs[i]? = some d → d.ownBlock ≠ some k)
    (ho : w'.ownsRow B eo 1 v' (xss.length + 1) (cs ++ [c0])) (hu : Upd (fun j => v.ownBlock = some j) w w') (hn : ∀ j, v'.ownBlock = some j → v.ownBlock = some j ∨ w.heap.size ≤ j) :
    Grid w' B eo ei v' (cs ++ [c0]) (xss ++ [ys]) := by
  have hl := h.len
  have split : ∀ (i : Nat) (c : Value), (cs ++ [c0])[i]? = some c → (i < cs.length ∧ cs[i]? = some c) ∨ (i = cs.length ∧ c = c0) := by
    intro i c h1
    rcases Nat.lt_or_ge i cs.length with hi | hi
    · rw [List.getElem?_append_left hi] at h1; exact .inl ⟨hi, h1⟩
    · rw [List.getElem?_append_right hi] at h1
      rcases hq : i - cs.length with _ | q
      · rw [hq] at h1; simp at h1; exact .inr ⟨by omega, h1.symm⟩
      · rw [hq] at h1; simp at h1
  refine ⟨by simpa using ho, fun i c xs h1 h2 => ?_, fun i c k h1 h2 => ?_, fun i j c d k hij h1 h2 h3 => ?_⟩
  · rcases split i c h1 with ⟨hi, h3⟩ | ⟨hi, rfl⟩
    · rw [List.getElem?_append_left (by omega)] at h2
      exact owns_keep (h.inner i c xs h3 h2) hu (fun k hk => h.apart i c k h3 hk)
    · rw [List.getElem?_append_right (by omega), show i - xss.length = 0 by omega] at h2
      simp at h2; subst h2
      exact owns_keep hc hu (fun k hk => (hap k hk).1)
  · intro hv
    rcases split i c h1 with ⟨hi, h3⟩ | ⟨hi, rfl⟩
    · have hlt := owns_lt (h.inner i c _ h3 (List.getElem?_eq_getElem (by omega))) h2
      rcases hn k hv with h4 | h4
      · exact h.apart i c k h3 h2 h4
      · omega
    · have hlt := owns_lt hc h2
      rcases hn k hv with h4 | h4
      · exact (hap k h2).1 h4
      · omega
  · intro h4
    rcases split i c h1 with ⟨hi, h5⟩ | ⟨hi, rfl⟩
    · rcases split j d h2 with ⟨hj, h6⟩ | ⟨hj, rfl⟩
      · exact h.dist i j c d k hij h5 h6 h3 h4
      · exact (hap k h4).2 i c h5 h3
    · rcases split j d h2 with ⟨hj, h6⟩ | ⟨hj, rfl⟩
      · exact (hap k h3).2 j d h6 h4
      · omega
/-- Behind 'append(l, nil)'. -/
theorem push_nil {v' : Value} (h : Grid w B eo ei v cs xss) (ho : w'.ownsRow B eo 1 v' (xss.length + 1) (cs ++ [.slice none 0 0])) (hu : Upd (fun j => v.ownBlock = some j) w w') (hn : ∀ j, v'.ownBlock = some j → v.ownBlock = some j ∨ w.heap.size < j) :
    Grid w' B eo ei v' (cs ++ [.slice none 0 0]) (xss ++ [[]]) :=
  h.push (owns_nil _ _ _ _) (fun k hk => by simp [Value.ownBlock] at hk) ho hu (fun j hj => (hn j hj).imp id Nat.le_of_lt)

/-- Behind 'l[i] = append(l[i], ..)': first the append, then the store. -/
theorem grow {w1 : World} {i : Nat} {c c' : Value} {xs ys : List Value} {g cap : Nat} {vs : List Value} (h : Grid w B eo ei v cs xss) (hc : cs[i]? = some c) (hx : xss[i]? = some xs)
    (ho : w1.ownsRow B ei 1 c' ys.length ys) (hu : Upd (fun j => c.ownBlock = some j) w w1) (hn : ∀ j, c'.ownBlock = some j → c.ownBlock = some j ∨ w.heap.size ≤ j)
    (hv : v = .slice (some ⟨g, 0, none⟩) xss.length cap) (hl : vs.length = cap) (hcap : xss.length ≤ cap) (hm : cap ≤ maxLen) (ht : vs.take xss.length = cs) (hB : B ≤ g)
    (hr : Row w' g eo (vs.set i c')) (hu2 : Upd (fun j => j = g) w1 w') : Grid w' B eo ei v (cs.set i c') (xss.set i ys) := by
  have hlen := h.len
  have hi : i < cs.length := (List.getElem?_eq_some_iff.1 hc).1
  have hvg : v.ownBlock = some g := by subst hv; rfl
  have hsz := hu.size
  have hcg : ∀ j, c'.ownBlock = some j → j ≠ g := by
    intro j hj e
    subst e
    rcases hn j hj with h4 | h4
    · exact h.apart i c j hc h4 hvg
    · have := (owns_lt h.outer hvg).2; omega
  refine ⟨?_, fun j d zs h1 h2 => ?_, fun j d k h1 h2 => ?_, fun a b x y k hab h1 h2 h3 => ?_⟩
  · rw [List.length_set]; subst hv
    exact owns_set hr hB hl hcap hm ht
  · rw [List.getElem?_set] at h1 h2
    by_cases hij : i = j
    · subst hij
      rw [if_pos rfl, if_pos hi] at h1
      rw [if_pos rfl, if_pos (by omega)] at h2
      simp at h1 h2; subst h1; subst h2
      exact owns_keep ho hu2 (fun k hk => hcg k hk)
    · rw [if_neg hij] at h1 h2
      refine owns_keep (owns_keep (h.inner j d zs h1 h2) hu (fun k hk h4 => h.dist i j c d k hij hc h1 h4 hk)) hu2 (fun k hk e => ?_)
      subst e
      exact h.apart j d k h1 hk hvg
  · rw [List.getElem?_set] at h1
    by_cases hij : i = j
    · subst hij
      rw [if_pos rfl, if_pos hi] at h1
      simp at h1; subst h1
      rw [hvg]; intro e; cases e; exact hcg _ h2 rfl
    · rw [if_neg hij] at h1
      exact h.apart j d k h1 h2
  · rw [List.getElem?_set] at h1 h2
    have fresh : ∀ q d, q ≠ i → cs[q]? = some d → d.ownBlock = some k → c'.ownBlock ≠ some k := by
      intro q d hq h4 h5 h6
      rcases hn k h6 with h7 | h7
      · exact h.dist q i d c k hq h4 hc h5 h7
      · have := (owns_lt (h.inner q d _ h4 (List.getElem?_eq_getElem (by have := (List.getElem?_eq_some_iff.1 h4).1; omega))) h5).2; omega
    by_cases ha : i = a
    · subst ha
      rw [if_pos rfl, if_pos hi] at h1
      rw [if_neg hab] at h2
      simp at h1; subst h1
      intro h4
      exact fresh b y (fun e => hab e.symm) h2 h4 h3
    · rw [if_neg ha] at h1
      by_cases hb : i = b
      · subst hb
        rw [if_pos rfl, if_pos hi] at h2
        simp at h2; subst h2
        exact fresh a x (fun e => ha e.symm) h1 h3
      · rw [if_neg hb] at h2
        exact h.dist a b x y k hab h1 h2 h3
end Grid
end Go.RX
