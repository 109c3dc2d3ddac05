/- Slices that are only read. No program in sight. -/
import Derived.Test.YtfcmohfddjcfkaaRxShort
namespace Go.RX
open Go Go.RowKit Go.RR

/-- 'v' is a slice of n elements of sz cells each, which are 'cs'; they lie in blocks of 'F'. -/
def Reads (F : Nat → Prop) (w : World) (v : Value) (n sz : Nat) (cs : List Value) : Prop :=
  ∃ ao cap, v = .slice ao n cap ∧ n ≤ 9223372036854775807 ∧ cs.length = n * sz ∧ ∀ i x, cs[i]? = some x → ∃ b o, ao = some ⟨b, o, none⟩ ∧ F b ∧ w.cell? ⟨b, o + i, none⟩ = some x

section
variable {F O : Nat → Prop} {w w' : World} {v : Value} {n sz : Nat} {cs : List Value}

theorem World.cell_lt {w : World} {b o : Nat} {x : Value} (h : w.cell? ⟨b, o, none⟩ = some x) : b < w.heap.size := World.block_lt_of_cell? w ⟨b, o, none⟩ h

theorem _root_.Go.RR.Upd.cell {O : Nat → Prop} {w w' : World} (hu : Upd O w w') {b o : Nat} {x : Value} (h : w.cell? ⟨b, o, none⟩ = some x) (hb : ¬ O b) : w'.cell? ⟨b, o, none⟩ = some x := by
  have hlt := World.cell_lt h
  rw [← h]
  exact World.cell?_of_block (a := ⟨b, o, none⟩) (hu.block b hlt hb)

theorem Reads.keep (h : Reads F w v n sz cs) (hu : Upd O w w') (hO : ∀ k, k < w.heap.size → F k → ¬ O k) : Reads F w' v n sz cs := by
  obtain ⟨ao, cap, h1, h2, h3, h4⟩ := h
  refine ⟨ao, cap, h1, h2, h3, fun i x hx => ?_⟩
  obtain ⟨b, o, e1, e2, e3⟩ := h4 i x hx
  exact ⟨b, o, e1, e2, hu.cell e3 (hO b (World.cell_lt e3) e2)⟩
theorem Reads.mono {F' : Nat → Prop} (h : Reads F w v n sz cs) (hF : ∀ k, k < w.heap.size → F k → F' k) : Reads F' w v n sz cs := by
  obtain ⟨ao, cap, h1, h2, h3, h4⟩ := h
  refine ⟨ao, cap, h1, h2, h3, fun i x hx => ?_⟩
  obtain ⟨b, o, e1, e2, e3⟩ := h4 i x hx
  exact ⟨b, o, e1, hF b (World.cell_lt e3) e2, e3⟩
theorem Reads.of_owns {B : Nat} {e : TypeId} (h : w.ownsRow B e sz v n cs) (hF : ∀ k, v.ownBlock = some k → F k) : Reads F w v n sz cs := by
  have hl := h.1
  rcases h.2 with ⟨rfl, rfl⟩ | ⟨g, cap, cur, rfl, hb, hg, h1, h2, h3, h4⟩
  · exact ⟨none, 0, rfl, by omega, hl, fun i x hx => by simp at hl; subst hl; simp at hx⟩
  · refine ⟨_, cap, rfl, by simp only [maxLen] at h2; omega, hl, fun i x hx => ⟨g, 0, rfl, hF g rfl, ?_⟩⟩
    have := h.cells (g := g) rfl i x hx
    rwa [Addr.add_lit] at this
theorem Reads.len (h : Reads F w v n 1 cs) : cs.length = n := by obtain ⟨_, _, _, _, h, _⟩ := h; simpa using h
theorem Reads.bound (h : Reads F w v n sz cs) : n ≤ 9223372036854775807 := by obtain ⟨_, _, _, h, _⟩ := h; exact h
end

/-- A slice of slices that is only read. -/
def Reads2 (F : Nat → Prop) (w : World) (v : Value) (xss : List (List Value)) : Prop :=
  ∃ cs, Reads F w v xss.length 1 cs ∧ ∀ (i : Nat) (c : Value) (xs : List Value), cs[i]? = some c → xss[i]? = some xs → Reads F w c xs.length 1 xs
section
variable {F O : Nat → Prop} {w w' : World} {v : Value} {xss : List (List Value)}
theorem Reads2.keep (h : Reads2 F w v xss) (hu : Upd O w w') (hO : ∀ k, k < w.heap.size → F k → ¬ O k) : Reads2 F w' v xss := by
  obtain ⟨cs, h1, h2⟩ := h
  exact ⟨cs, h1.keep hu hO, fun i c xs h3 h4 => (h2 i c xs h3 h4).keep hu hO⟩
theorem Reads2.mono {F' : Nat → Prop} (h : Reads2 F w v xss) (hF : ∀ k, k < w.heap.size → F k → F' k) : Reads2 F' w v xss := by
  obtain ⟨cs, h1, h2⟩ := h
  exact ⟨cs, h1.mono hF, fun i c xs h3 h4 => (h2 i c xs h3 h4).mono hF⟩
theorem Reads2.of_grid {B : Nat} {eo ei : TypeId} {cs : List Value} (h : Grid w B eo ei v cs xss) (hF : ∀ k, B ≤ k → F k) : Reads2 F w v xss :=
  ⟨cs, Reads.of_owns h.outer (fun k hk => hF k (owns_lt h.outer hk).1), fun i c xs h1 h2 => Reads.of_owns (h.inner i c xs h1 h2) (fun k hk => hF k (owns_lt (h.inner i c xs h1 h2) hk).1)⟩
theorem Reads2.bound (h : Reads2 F w v xss) : xss.length ≤ 9223372036854775807 := by obtain ⟨_, h, _⟩ := h; exact h.bound
end

/-- A row that has just been laid. -/
theorem Reads.of_row {F : Nat → Prop} {w : World} {b n cap : Nat} {e : TypeId} {cs : List Value} (h : Row w b e cs) (hl : cs.length = n) (hn : n ≤ 9223372036854775807) (hF : F b) : Reads F w (.slice (some ⟨b, 0, none⟩) n cap) n 1 cs :=
  ⟨_, cap, rfl, hn, by omega, fun i x hx => ⟨b, 0, rfl, hF, by rw [Nat.zero_add]; exact h.cell_some hx⟩⟩
theorem reads2_lit {F : Nat → Prop} {w : World} {b n cap : Nat} {e : TypeId} {cs : List Value} {xss : List (List Value)} (h : Row w b e cs) (hl : cs.length = n ∧ n = xss.length) (hin : ∀ (i : Nat) (c : Value) (xs : List Value), cs[i]? = some c → xss[i]? = some xs → Reads F w c xs.length 1 xs)
    (hn : n ≤ 9223372036854775807) (hF : F b) : Reads2 F w (.slice (some ⟨b, 0, none⟩) n cap) xss := by
  obtain ⟨h1, h2⟩ := hl
  subst h2
  exact ⟨cs, Reads.of_row h h1 hn hF, hin⟩

def ints (l : List Int) : List Value := l.map (Value.int .i64)
theorem ints_length (l : List Int) : (ints l).length = l.length := by simp [ints]
theorem ints_get (l : List Int) (i : Nat) : (ints l)[i]? = (l[i]?).map (Value.int .i64) := by simp [ints]
theorem ints_set (l : List Int) (i : Nat) (v : Int) : (ints l).set i (.int .i64 v) = ints (l.set i v) := by simp [ints, List.map_set]
theorem ints_one (l : List Int) : ∀ u ∈ ints l, u.oneCell' = true := by
  intro u hu
  obtain ⟨x, _, rfl⟩ := List.mem_map.1 hu
  rfl
theorem ints_append (l m : List Int) : ints (l ++ m) = ints l ++ ints m := by simp [ints]

/-- The first i numbers of a row are f's, the others g's. -/
def mixed (n : Nat) (f g : Nat → Int) (i : Nat) : List Int := (List.range n).map fun j => if j < i then f j else g j
theorem mixed_length (n : Nat) (f g : Nat → Int) (i : Nat) : (mixed n f g i).length = n := by simp [mixed]
theorem mixed_get (n : Nat) (f g : Nat → Int) (i j : Nat) (h : j < n) : (mixed n f g i)[j]? = some (if j < i then f j else g j) := by simp [mixed, h]
theorem mixed_set (n : Nat) (f g : Nat → Int) (i : Nat) : (mixed n f g i).set i (f i) = mixed n f g (i + 1) := by
  apply List.ext_getElem?
  intro j
  rw [List.getElem?_set]
  simp only [mixed, List.getElem?_map, List.length_map, List.length_range]
  by_cases h : i = j
  · subst h
    by_cases hn : i < n
    · simp [hn]
    · simp [hn]
  · by_cases hn : j < n
    · have : j < i ↔ j < i + 1 := by omega
      simp [h, hn, this]
    · simp [h, hn]
theorem mixed_zero (n : Nat) (f g : Nat → Int) : mixed n f g 0 = (List.range n).map g := by simp [mixed]
theorem mixed_all (n : Nat) (f g : Nat → Int) : mixed n f g n = (List.range n).map f := by
  unfold mixed
  apply List.map_congr_left
  intro j hj
  rw [if_pos (List.mem_range.1 hj)]
end Go.RX
