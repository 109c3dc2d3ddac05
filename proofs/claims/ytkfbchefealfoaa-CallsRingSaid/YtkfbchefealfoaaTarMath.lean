/- Codes that call each other: a walk in depth, and the lists of those that lead to each other. No program in sight. -/
import Derived.Test.YtkfbchefealfoaaRise
namespace Go.TarM

theorem nodup_len {α : Type} [BEq α] [LawfulBEq α] : ∀ {l m : List α}, l.Nodup → (∀ x ∈ l, x ∈ m) → l.length ≤ m.length
  | [], m, _, _ => by simp
  | x :: l, m, h, hs => by
    have hx : x ∈ m := hs x (by simp)
    have h2 := List.nodup_cons.1 h
    have := nodup_len (m := m.erase x) h2.2 (fun y hy => (List.mem_erase_of_ne (fun e => h2.1 (by rw [← e]; exact hy))).2 (hs y (by simp [hy])))
    rw [List.length_erase_of_mem hx] at this
    have : 0 < m.length := List.length_pos_of_mem hx
    rw [List.length_cons]; omega

theorem ne_mem {M : List Nat} {x f : Nat} (hx : x ∈ M) (hf : f ∉ M) : f ≠ x := fun e => hf (by rw [e]; exact hx)
def kids (e : List (List Nat)) (f : Nat) : List Nat := (e[f]?).getD []
/-- One leads to another. -/
inductive R (e : List (List Nat)) : Nat → Nat → Prop
  | refl (x : Nat) : R e x x
  | step {x y z : Nat} : R e x y → z ∈ kids e y → R e x z
theorem R.edge {e : List (List Nat)} {x y : Nat} (h : y ∈ kids e x) : R e x y := .step (.refl x) h
theorem R.trans {e : List (List Nat)} {x y z : Nat} (h1 : R e x y) (h2 : R e y z) : R e x z := by
  induction h2 with
  | refl => exact h1
  | step _ h ih => exact .step ih h

/-- Which one it was that was met, from 1 on; 0: it was not. -/
def num (M : List Nat) (x : Nat) : Nat := if x ∈ M then M.idxOf x + 1 else 0
theorem num_out {M : List Nat} {x : Nat} (h : x ∉ M) : num M x = 0 := if_neg h
theorem num_pos {M : List Nat} {x : Nat} (h : x ∈ M) : 1 ≤ num M x := by unfold num; rw [if_pos h]; omega
theorem num_le {M : List Nat} {x : Nat} : num M x ≤ M.length := by
  unfold num; split
  · have := List.idxOf_lt_length_of_mem ‹x ∈ M›; omega
  · omega
theorem num_app {M S : List Nat} {x : Nat} (h : x ∈ M) : num (M ++ S) x = num M x := by
  unfold num; rw [if_pos h, if_pos (List.mem_append_left _ h), List.idxOf_append, if_pos h]
theorem num_new {M S : List Nat} {x : Nat} (h : x ∉ M) (h2 : x ∈ S) : M.length < num (M ++ S) x := by
  unfold num; rw [if_pos (List.mem_append_right _ h2), List.idxOf_append, if_neg h]; omega
theorem num_head {M S : List Nat} {x : Nat} (h : x ∉ M) : num (M ++ x :: S) x = M.length + 1 := by
  unfold num; rw [if_pos (by simp), List.idxOf_append, if_neg h]; simp
theorem num_inj {M : List Nat} {x y : Nat} (hx : x ∈ M) (hy : y ∈ M) (h : num M x = num M y) : x = y := by
  unfold num at h; rw [if_pos hx, if_pos hy] at h
  have h1 := List.getElem_idxOf (List.idxOf_lt_length_of_mem hx)
  have h2 := List.getElem_idxOf (List.idxOf_lt_length_of_mem hy)
  have e : M.idxOf x = M.idxOf y := by omega
  rw [← h1, ← h2]; simp only [e]
theorem num_pos_iff {M : List Nat} {x : Nat} : num M x ≠ 0 ↔ x ∈ M := by
  constructor
  · intro h; exact Classical.byContradiction fun h2 => h (num_out h2)
  · intro h; have := num_pos h; omega

open Classical in
/-- Those that lead to each other with f. -/
noncomputable def scc (e : List (List Nat)) (f : Nat) : List Nat := (List.range e.length).filter fun g => decide (R e f g ∧ R e g f)
theorem scc_mem {e : List (List Nat)} {f g : Nat} : g ∈ scc e f ↔ g < e.length ∧ R e f g ∧ R e g f := by
  unfold scc; simp only [List.mem_filter, List.mem_range, decide_eq_true_eq]
theorem scc_self {e : List (List Nat)} {f : Nat} (h : f < e.length) : f ∈ scc e f := scc_mem.2 ⟨h, .refl f, .refl f⟩
/-- It is the one that was met first among those. -/
def IsRoot (e : List (List Nat)) (M : List Nat) (f : Nat) : Prop := ∀ g ∈ M, R e f g → R e g f → num M f ≤ num M g
open Classical in
noncomputable def compsOf (e : List (List Nat)) (M L : List Nat) : List (List Nat) := (L.filter fun f => decide (IsRoot e M f)).map (scc e)
theorem root_app {e : List (List Nat)} {M S : List Nat} {f : Nat} (h : f ∈ M) : IsRoot e (M ++ S) f ↔ IsRoot e M f := by
  constructor
  · intro h2 g hg h3 h4
    have := h2 g (List.mem_append_left _ hg) h3 h4
    rw [num_app h, num_app hg] at this; exact this
  · intro h2 g hg h3 h4
    rw [num_app h]
    by_cases hm : g ∈ M
    · rw [num_app hm]; exact h2 g hm h3 h4
    · have := num_new (S := S) hm ((List.mem_append.1 hg).resolve_left hm)
      have := @num_le M f
      omega
theorem compsOf_app {e : List (List Nat)} {M S L : List Nat} (h : ∀ x ∈ L, x ∈ M) : compsOf e (M ++ S) L = compsOf e M L := by
  unfold compsOf
  rw [List.filter_congr fun x hx => decide_eq_decide.2 (root_app (h x hx))]

structure TS where
  met : List Nat
  left : List Nat
  low : List Nat
  comps : List (List Nat)
/-- It is met, and in no list yet. -/
def Op (s : TS) (x : Nat) : Prop := x ∈ s.met ∧ x ∉ s.comps.flatten

structure Inv (e : List (List Nat)) (gray : List Nat) (s : TS) : Prop where
  nodup : s.met.Nodup
  lt : ∀ x ∈ s.met, x < e.length
  mem : ∀ x, x ∈ s.met ↔ x ∈ s.left ∨ x ∈ gray
  gout : ∀ x ∈ gray, x ∉ s.left
  lnd : s.left.Nodup
  closed : ∀ x ∈ s.left, ∀ y ∈ kids e x, y ∈ s.met
  comps : s.comps = compsOf e s.met s.left
  dl : ∀ x ∈ s.comps.flatten, x ∈ s.left
  pref : ∀ k, ∀ x ∈ (s.comps.take k).flatten, ∀ y ∈ kids e x, y ∈ (s.comps.take k).flatten
  i3 : ∀ x y, Op s x → Op s y → num s.met x ≤ num s.met y → R e x y
  i4 : ∀ y, Op s y → ∃ x ∈ gray, num s.met x ≤ num s.met y ∧ R e y x
  lowl : s.low.length = e.length

theorem Inv.dc {e : List (List Nat)} {gray : List Nat} {s : TS} (h : Inv e gray s) {x y : Nat} (hx : x ∈ s.comps.flatten) (hy : y ∈ kids e x) : y ∈ s.comps.flatten := by
  have := h.pref s.comps.length x (by rw [List.take_length]; exact hx) y hy
  rwa [List.take_length] at this
theorem Inv.dR {e : List (List Nat)} {gray : List Nat} {s : TS} (h : Inv e gray s) {x y : Nat} (hx : x ∈ s.comps.flatten) (hr : R e x y) : y ∈ s.comps.flatten := by
  induction hr with
  | refl => exact hx
  | step _ hk ih => exact h.dc ih hk
theorem Inv.gop {e : List (List Nat)} {gray : List Nat} {s : TS} (h : Inv e gray s) {x : Nat} (hx : x ∈ gray) : Op s x :=
  ⟨(h.mem x).2 (.inr hx), fun h2 => h.gout x hx (h.dl x h2)⟩
theorem Inv.less {e : List (List Nat)} {gray : List Nat} {s : TS} (h : Inv e gray s) {f : Nat} (hf : f < e.length) (hn : f ∉ s.met) : s.met.length < e.length := by
  have := nodup_len (l := s.met ++ [f]) (m := List.range e.length) (List.nodup_append.2 ⟨h.nodup, by simp, fun a ha b hb => by simp at hb; subst hb; exact (ne_mem ha hn).symm⟩) (fun x hx => by
    rw [List.mem_range]
    rcases List.mem_append.1 hx with hx | hx
    · exact h.lt x hx
    · simp at hx; omega)
  rw [List.length_append, List.length_range] at this
  have : s.met.length + 1 ≤ e.length := by simpa using this
  omega

/-- The walk in depth alone: who was met, who was left. -/
def dfs (e : List (List Nat)) : Nat → Nat → List Nat × List Nat → List Nat × List Nat
  | 0, _, s => s
  | k + 1, f, s => let t := (kids e f).foldl (fun s g => if g ∈ s.1 then s else dfs e k g s) (s.1 ++ [f], s.2); (t.1, t.2 ++ [f])
def step (e : List (List Nat)) (k : Nat) (s : List Nat × List Nat) (g : Nat) : List Nat × List Nat := if g ∈ s.1 then s else dfs e k g s
theorem dfs_succ (e : List (List Nat)) (k f : Nat) (s : List Nat × List Nat) : dfs e (k + 1) f s = (((kids e f).foldl (step e k) (s.1 ++ [f], s.2)).1, ((kids e f).foldl (step e k) (s.1 ++ [f], s.2)).2 ++ [f]) := rfl

structure Post (e : List (List Nat)) (gray : List Nat) (f : Nat) (s s' : TS) (ℓ : Nat) : Prop where
  inv : Inv e gray s'
  ext : ∃ S, s'.met = s.met ++ S
  fl : f ∈ s'.left
  lowf : s'.low[f]? = some ℓ
  low0 : ∀ x ∈ s.met, s'.low[x]? = s.low[x]?
  keep : ∀ x, Op s x → Op s' x
  dsub : ∀ x ∈ s.comps.flatten, x ∈ s'.comps.flatten
  p1 : ℓ ≤ num s'.met f
  p2 : ℓ < num s'.met f → ∃ y, Op s y ∧ num s.met y = ℓ ∧ R e f y
  p3 : ∀ u, Op s' u → u ∉ s.met → ∀ v ∈ kids e u, Op s v → ℓ ≤ num s.met v
  run : ∀ k, e.length ≤ s.met.length + k → (s'.met, s'.left) = dfs e k f (s.met, s.left)

/-- Under way in f, the first of its kids, p, being dealt with. -/
structure Mid (e : List (List Nat)) (gray : List Nat) (f : Nat) (s0 : TS) (p : List Nat) (s : TS) (ℓ : Nat) : Prop where
  fnew : f ∉ s0.met
  gf : ∀ x ∈ gray, R e x f
  g0 : ∀ x ∈ gray, x ∈ s0.met
  inv : Inv e (gray ++ [f]) s
  ext : ∃ S, s.met = s0.met ++ f :: S
  lowf : s.low[f]? = some ℓ
  low0 : ∀ x ∈ s0.met, s.low[x]? = s0.low[x]?
  keep : ∀ x, Op s0 x → Op s x
  dsub : ∀ x ∈ s0.comps.flatten, x ∈ s.comps.flatten
  p1 : ℓ ≤ s0.met.length + 1
  p2 : ℓ < s0.met.length + 1 → ∃ y, Op s0 y ∧ num s0.met y = ℓ ∧ R e f y
  p3 : ∀ u, Op s u → u ∉ s0.met → u ≠ f → ∀ v ∈ kids e u, Op s0 v → ℓ ≤ num s0.met v
  p3f : ∀ v ∈ p, Op s0 v → ℓ ≤ num s0.met v
  seen : ∀ v ∈ p, v ∈ s.met
  run : ∀ k, e.length ≤ s0.met.length + (k + 1) → (s.met, s.left) = p.foldl (step e k) (s0.met ++ [f], s0.left)

def meetS (s : TS) (f : Nat) : TS := ⟨s.met ++ [f], s.left, s.low.set f (s.met.length + 1), s.comps⟩
def lowS (s : TS) (f v : Nat) : TS := ⟨s.met, s.left, s.low.set f v, s.comps⟩
noncomputable def endS (e : List (List Nat)) (s : TS) (f : Nat) : TS := ⟨s.met, s.left ++ [f], s.low, s.comps ++ [scc e f]⟩
def stayS (s : TS) (f : Nat) : TS := ⟨s.met, s.left ++ [f], s.low, s.comps⟩

theorem Mid.begin {e : List (List Nat)} {gray : List Nat} {f : Nat} {s : TS} (h : Inv e gray s) (hf : f < e.length) (hn : f ∉ s.met) (hg : ∀ x ∈ gray, R e x f) : Mid e gray f s [] (meetS s f) (s.met.length + 1) where
  fnew := hn
  gf := hg
  g0 := fun x hx => (h.mem x).2 (.inr hx)
  inv := by
    have hfl : f ∉ s.left := fun h2 => hn ((h.mem f).2 (.inl h2))
    have op : ∀ x, Op (meetS s f) x → x = f ∨ Op s x := fun x hx => by
      rcases List.mem_append.1 hx.1 with h2 | h2
      · exact .inr ⟨h2, hx.2⟩
      · exact .inl (by simpa using h2)
    have nf : num (s.met ++ [f]) f = s.met.length + 1 := num_head (S := []) hn
    have toF : ∀ x, Op s x → R e x f := fun x hx => by
      obtain ⟨y, hy, _, hr⟩ := h.i4 x hx
      exact hr.trans (hg y hy)
    exact {
      nodup := List.nodup_append.2 ⟨h.nodup, by simp, fun a ha b hb => by simp at hb; subst hb; exact (ne_mem ha hn).symm⟩
      lt := fun x hx => by
        rcases List.mem_append.1 hx with hx | hx
        · exact h.lt x hx
        · simp at hx; omega
      mem := fun x => by
        show x ∈ s.met ++ [f] ↔ x ∈ s.left ∨ x ∈ gray ++ [f]
        rw [List.mem_append, List.mem_append, h.mem x, or_assoc]
      gout := fun x hx => by
        rcases List.mem_append.1 hx with hx | hx
        · exact h.gout x hx
        · simp at hx; subst hx; exact hfl
      lnd := h.lnd
      closed := fun x hx y hy => List.mem_append_left _ (h.closed x hx y hy)
      comps := by
        show s.comps = compsOf e (s.met ++ [f]) s.left
        rw [compsOf_app (fun x hx => (h.mem x).2 (.inl hx))]; exact h.comps
      dl := h.dl
      pref := h.pref
      i3 := fun x y hx hy hle => by
        have hle : num (s.met ++ [f]) x ≤ num (s.met ++ [f]) y := hle
        rcases op x hx with e1 | hx' <;> rcases op y hy with e2 | hy'
        · rw [e1, e2]; exact .refl _
        · rw [e1, nf, num_app hy'.1] at hle
          have := @num_le s.met y; omega
        · rw [e2]; exact toF x hx'
        · rw [num_app hx'.1, num_app hy'.1] at hle
          exact h.i3 x y hx' hy' hle
      i4 := fun y hy => by
        rcases op y hy with e1 | hy'
        · exact ⟨f, by simp, by rw [e1]; exact Nat.le_refl _, by rw [e1]; exact .refl _⟩
        · obtain ⟨x, hx, h1, h2⟩ := h.i4 y hy'
          refine ⟨x, by simp [hx], ?_, h2⟩
          show num (s.met ++ [f]) x ≤ num (s.met ++ [f]) y
          rw [num_app hy'.1, num_app ((h.mem x).2 (.inr hx))]; exact h1
      lowl := by show (s.low.set f _).length = _; rw [List.length_set]; exact h.lowl }
  ext := ⟨[], rfl⟩
  lowf := by
    show (s.low.set f (s.met.length + 1))[f]? = _
    rw [List.getElem?_set_self (by rw [h.lowl]; exact hf)]
  low0 := fun x hx => by
    show (s.low.set f (s.met.length + 1))[x]? = _
    rw [List.getElem?_set_ne (ne_mem hx hn)]
  keep := fun x hx => ⟨List.mem_append_left _ hx.1, hx.2⟩
  dsub := fun x hx => hx
  p1 := Nat.le_refl _
  p2 := fun h => by omega
  p3 := fun u hu h1 h2 => by
    rcases List.mem_append.1 hu.1 with h3 | h3
    · exact absurd h3 h1
    · exact absurd (by simpa using h3) h2
  p3f := fun v hv => by simp at hv
  seen := fun v hv => by simp at hv
  run := fun k _ => rfl

theorem Mid.numf {e : List (List Nat)} {gray : List Nat} {f : Nat} {s0 s : TS} {p : List Nat} {ℓ : Nat} (h : Mid e gray f s0 p s ℓ) : num s.met f = s0.met.length + 1 := by
  obtain ⟨S, hS⟩ := h.ext
  rw [hS]; exact num_head h.fnew
theorem Mid.num0 {e : List (List Nat)} {gray : List Nat} {f : Nat} {s0 s : TS} {p : List Nat} {ℓ : Nat} (h : Mid e gray f s0 p s ℓ) {x : Nat} (hx : x ∈ s0.met) : num s.met x = num s0.met x := by
  obtain ⟨S, hS⟩ := h.ext
  rw [hS]; exact num_app hx
theorem Mid.num1 {e : List (List Nat)} {gray : List Nat} {f : Nat} {s0 s : TS} {p : List Nat} {ℓ : Nat} (h : Mid e gray f s0 p s ℓ) {x : Nat} (hx : x ∉ s0.met) (hm : x ∈ s.met) : s0.met.length + 1 ≤ num s.met x := by
  obtain ⟨S, hS⟩ := h.ext
  rw [hS] at hm ⊢
  exact num_new hx ((List.mem_append.1 hm).resolve_left hx)
theorem Mid.fin {e : List (List Nat)} {gray : List Nat} {f : Nat} {s0 s : TS} {p : List Nat} {ℓ : Nat} (h : Mid e gray f s0 p s ℓ) : f ∈ s.met := by
  obtain ⟨S, hS⟩ := h.ext
  rw [hS]; simp
theorem Mid.sub {e : List (List Nat)} {gray : List Nat} {f : Nat} {s0 s : TS} {p : List Nat} {ℓ : Nat} (h : Mid e gray f s0 p s ℓ) {x : Nat} (hx : x ∈ s0.met) : x ∈ s.met := by
  obtain ⟨S, hS⟩ := h.ext
  rw [hS]; simp [hx]

theorem Inv.lowS {e : List (List Nat)} {gray : List Nat} {s : TS} (h : Inv e gray s) (f v : Nat) : Inv e gray (lowS s f v) :=
  ⟨h.nodup, h.lt, h.mem, h.gout, h.lnd, h.closed, h.comps, h.dl, h.pref, h.i3, h.i4, by show (s.low.set f v).length = _; rw [List.length_set]; exact h.lowl⟩

/-- A kid that is in a list. -/
theorem Mid.done {e : List (List Nat)} {gray : List Nat} {f : Nat} {s0 s : TS} {p : List Nat} {ℓ g : Nat} (h : Mid e gray f s0 p s ℓ) (hg : g ∈ s.comps.flatten) : Mid e gray f s0 (p ++ [g]) s ℓ :=
  have hm : g ∈ s.met := (h.inv.mem g).2 (.inl (h.inv.dl g hg))
  { h with
    p3f := fun v hv hv2 => by
      rcases List.mem_append.1 hv with hv | hv
      · exact h.p3f v hv hv2
      · simp at hv; subst hv; exact absurd hg (h.keep v hv2).2
    seen := fun v hv => by
      rcases List.mem_append.1 hv with hv | hv
      · exact h.seen v hv
      · simp at hv; subst hv; exact hm
    run := fun k hk => by
      rw [List.foldl_append, ← h.run k hk]
      simp [step, hm] }
/-- A kid that is met, and in no list. -/
theorem Mid.open_ {e : List (List Nat)} {gray : List Nat} {f : Nat} {s0 s : TS} {p : List Nat} {ℓ g : Nat} (h : Mid e gray f s0 p s ℓ) (hf : f < e.length) (hk : g ∈ kids e f) (hg : Op s g) : Mid e gray f s0 (p ++ [g]) (lowS s f (min ℓ (num s.met g))) (min ℓ (num s.met g)) where
  fnew := h.fnew
  gf := h.gf
  g0 := h.g0
  inv := h.inv.lowS _ _
  ext := h.ext
  lowf := by
    show (s.low.set f _)[f]? = _
    rw [List.getElem?_set_self (by rw [h.inv.lowl]; exact hf)]
  low0 := fun x hx => by
    show (s.low.set f _)[x]? = _
    rw [List.getElem?_set_ne (ne_mem hx h.fnew)]; exact h.low0 x hx
  keep := h.keep
  dsub := h.dsub
  p1 := by have := h.p1; omega
  p2 := fun hl => by
    by_cases h1 : ℓ ≤ num s.met g
    · rw [Nat.min_eq_left h1] at hl ⊢; exact h.p2 hl
    · rw [Nat.min_eq_right (by omega)] at hl ⊢
      have h0 : g ∈ s0.met := Classical.byContradiction fun h2 => by have := h.num1 h2 hg.1; omega
      exact ⟨g, ⟨h0, fun h2 => hg.2 (h.dsub g h2)⟩, (h.num0 h0).symm, .edge hk⟩
  p3 := fun u hu h1 h2 v hv hv2 => by have := h.p3 u hu h1 h2 v hv hv2; omega
  p3f := fun v hv hv2 => by
    rcases List.mem_append.1 hv with hv | hv
    · have := h.p3f v hv hv2; omega
    · simp at hv; subst hv; rw [h.num0 hv2.1]; omega
  seen := fun v hv => by
    rcases List.mem_append.1 hv with hv | hv
    · exact h.seen v hv
    · simp at hv; subst hv; exact hg.1
  run := fun k hk => by
    rw [List.foldl_append, ← h.run k hk]
    have := hg.1
    simp [step, this, lowS]
/-- A kid that was not met, and is walked through. -/
theorem Mid.new {e : List (List Nat)} {gray : List Nat} {f : Nat} {s0 s s' : TS} {p : List Nat} {ℓ ℓg g : Nat} (h : Mid e gray f s0 p s ℓ) (hf : f < e.length) (hk : g ∈ kids e f) (hg : g ∉ s.met) (hp : Post e (gray ++ [f]) g s s' ℓg) :
    Mid e gray f s0 (p ++ [g]) (lowS s' f (min ℓ ℓg)) (min ℓ ℓg) := by
  obtain ⟨S, hS⟩ := h.ext
  obtain ⟨T, hT⟩ := hp.ext
  have hgt : s.met.length < num s'.met g := by
    rw [hT]
    have hgm : g ∈ s'.met := (hp.inv.mem g).2 (.inl hp.fl)
    rw [hT] at hgm
    exact num_new hg ((List.mem_append.1 hgm).resolve_left hg)
  have hlen : s0.met.length < s.met.length := by rw [hS, List.length_append, List.length_cons]; omega
  exact {
    fnew := h.fnew
    gf := h.gf
    g0 := h.g0
    inv := hp.inv.lowS _ _
    ext := ⟨S ++ T, by show s'.met = _; rw [hT, hS]; simp⟩
    lowf := by
      show (s'.low.set f _)[f]? = _
      rw [List.getElem?_set_self (by rw [hp.inv.lowl]; exact hf)]
    low0 := fun x hx => by
      show (s'.low.set f _)[x]? = _
      rw [List.getElem?_set_ne (ne_mem hx h.fnew), hp.low0 x (h.sub hx)]; exact h.low0 x hx
    keep := fun x hx => hp.keep x (h.keep x hx)
    dsub := fun x hx => hp.dsub x (h.dsub x hx)
    p1 := by have := h.p1; omega
    p2 := fun hl => by
      by_cases h1 : ℓ ≤ ℓg
      · rw [Nat.min_eq_left h1] at hl ⊢; exact h.p2 hl
      · rw [Nat.min_eq_right (by omega)] at hl ⊢
        obtain ⟨y, hy, h2, h3⟩ := hp.p2 (by omega)
        have h0 : y ∈ s0.met := Classical.byContradiction fun h4 => by have := h.num1 h4 hy.1; omega
        exact ⟨y, ⟨h0, fun h4 => hy.2 (h.dsub y h4)⟩, by rw [← h.num0 h0]; exact h2, (R.edge hk).trans h3⟩
    p3 := fun u hu h1 h2 v hv hv2 => by
      have hu : Op s' u := hu
      by_cases hm : u ∈ s.met
      · have := h.p3 u ⟨hm, fun h4 => hu.2 (hp.dsub u h4)⟩ h1 h2 v hv hv2; omega
      · have := hp.p3 u hu hm v hv (h.keep v hv2)
        rw [h.num0 hv2.1] at this; omega
    p3f := fun v hv hv2 => by
      rcases List.mem_append.1 hv with hv | hv
      · have := h.p3f v hv hv2; omega
      · simp at hv; subst hv; exact absurd (h.sub hv2.1) hg
    seen := fun v hv => by
      show v ∈ s'.met
      rcases List.mem_append.1 hv with hv | hv
      · rw [hT]; exact List.mem_append_left _ (h.seen v hv)
      · simp at hv; subst hv; exact (hp.inv.mem v).2 (.inl hp.fl)
    run := fun k hk => by
      rw [List.foldl_append, ← h.run k hk]
      have := hp.run k (by omega)
      simp [step, hg, lowS, this] }

theorem Mid.away {e : List (List Nat)} {gray : List Nat} {f : Nat} {s0 s : TS} (h : Mid e gray f s0 (kids e f) s (s0.met.length + 1)) {y z : Nat} (hy : Op s y ∧ s0.met.length + 1 ≤ num s.met y) (hr : R e y z) :
    (Op s z ∧ s0.met.length + 1 ≤ num s.met z) ∨ z ∈ s.comps.flatten := by
  induction hr with
  | refl => exact .inl hy
  | @step x z _ hk ih =>
    rcases ih with ⟨hx, hx2⟩ | hx
    · have hxn : x ∉ s0.met := fun h2 => by
        rw [h.num0 h2] at hx2
        have := @num_le s0.met x; omega
      have hz : z ∈ s.met := by
        rcases (h.inv.mem x).1 hx.1 with h2 | h2
        · exact h.inv.closed x h2 z hk
        · rcases List.mem_append.1 h2 with h2 | h2
          · exact absurd (h.g0 x h2) hxn
          · simp at h2; subst h2; exact h.seen z hk
      by_cases hd : z ∈ s.comps.flatten
      · exact .inr hd
      · refine .inl ⟨⟨hz, hd⟩, Classical.byContradiction fun hlt => ?_⟩
        have h0 : z ∈ s0.met := Classical.byContradiction fun h4 => hlt (h.num1 h4 hz)
        have hop : Op s0 z := ⟨h0, fun h4 => hd (h.dsub z h4)⟩
        have hnz := h.num0 h0
        by_cases hxf : x = f
        · subst hxf
          have := h.p3f z hk hop; omega
        · have := h.p3 x hx hxn hxf z hk hop; omega
    · exact .inr (h.inv.dc hx hk)
/-- f was met first: what is open from it on is just those that lead to each other with it. -/
theorem Mid.sccE {e : List (List Nat)} {gray : List Nat} {f : Nat} {s0 s : TS} (h : Mid e gray f s0 (kids e f) s (s0.met.length + 1)) (hf : f < e.length) (y : Nat) : y ∈ scc e f ↔ Op s y ∧ num s.met f ≤ num s.met y := by
  have hnf := h.numf
  have hof : Op s f := h.inv.gop (by simp)
  rw [hnf, scc_mem]
  constructor
  · rintro ⟨_, h1, h2⟩
    rcases h.away ⟨hof, by omega⟩ h1 with h3 | h3
    · exact h3
    · exact absurd (h.inv.dR h3 h2) hof.2
  · intro hy
    have hfy := h.inv.i3 f y hof hy.1 (by omega)
    refine ⟨h.inv.lt y hy.1.1, hfy, ?_⟩
    obtain ⟨x, hx, h1, h2⟩ := h.inv.i4 y hy.1
    rcases List.mem_append.1 hx with hx | hx
    · have hx0 := h.g0 x hx
      have hop := h.inv.gop (x := x) (by simp [hx])
      rcases h.away hy h2 with h3 | h3
      · have := h3.2
        rw [h.num0 hx0] at this
        have := @num_le s0.met x; omega
      · exact absurd h3 hop.2
    · simp at hx; subst hx; exact h2
theorem Mid.root {e : List (List Nat)} {gray : List Nat} {f : Nat} {s0 s : TS} (h : Mid e gray f s0 (kids e f) s (s0.met.length + 1)) (hf : f < e.length) : IsRoot e s.met f := fun g hg h1 h2 =>
  ((h.sccE hf g).1 (scc_mem.2 ⟨h.inv.lt g hg, h1, h2⟩)).2
theorem compsOf_snoc {e : List (List Nat)} {M L : List Nat} {f : Nat} (h : IsRoot e M f) : compsOf e M (L ++ [f]) = compsOf e M L ++ [scc e f] := by
  unfold compsOf; rw [List.filter_append, List.map_append]; simp [h]
theorem compsOf_skip {e : List (List Nat)} {M L : List Nat} {f : Nat} (h : ¬ IsRoot e M f) : compsOf e M (L ++ [f]) = compsOf e M L := by
  unfold compsOf; rw [List.filter_append, List.map_append]; simp [h]

theorem Mid.notleft {e : List (List Nat)} {gray : List Nat} {f : Nat} {s0 s : TS} {p : List Nat} {ℓ : Nat} (h : Mid e gray f s0 p s ℓ) : f ∉ s.left := h.inv.gout f (by simp)
theorem Mid.runEnd {e : List (List Nat)} {gray : List Nat} {f : Nat} {s0 s : TS} {ℓ : Nat} (h : Mid e gray f s0 (kids e f) s ℓ) (h0 : s0.met.length < e.length) : ∀ k, e.length ≤ s0.met.length + k → (s.met, s.left ++ [f]) = dfs e k f (s0.met, s0.left) := by
  intro k hk
  cases k with
  | zero => omega
  | succ k =>
    rw [dfs_succ]
    have := h.run k hk
    simp only [← this]

theorem Mid.ends {e : List (List Nat)} {gray : List Nat} {f : Nat} {s0 s : TS} (h : Mid e gray f s0 (kids e f) s (s0.met.length + 1)) (h0 : s0.met.length < e.length) (hf : f < e.length) (hi : Inv e gray s0) : Post e gray f s0 (endS e s f) (s0.met.length + 1) := by
  have hs := h.sccE hf
  have hnf := h.numf
  have hfm : (endS e s f).comps.flatten = s.comps.flatten ++ scc e f := by simp [endS]
  have dmem : ∀ x, x ∈ (endS e s f).comps.flatten ↔ x ∈ s.comps.flatten ∨ (Op s x ∧ num s.met f ≤ num s.met x) := fun x => by rw [hfm, List.mem_append, hs]
  have opE : ∀ x, Op (endS e s f) x → Op s x ∧ num s.met x < num s.met f := fun x hx => by
    have h1 : x ∉ s.comps.flatten := fun h2 => hx.2 ((dmem x).2 (.inl h2))
    refine ⟨⟨hx.1, h1⟩, Classical.byContradiction fun h2 => hx.2 ((dmem x).2 (.inr ⟨⟨hx.1, h1⟩, by omega⟩))⟩
  have old : ∀ x, x ∈ s.met → num s.met x < num s.met f → x ∈ s0.met := fun x hx hlt => Classical.byContradiction fun h2 => by have := h.num1 h2 hx; omega
  have keep : ∀ x, Op s0 x → Op (endS e s f) x := fun x hx => ⟨h.sub hx.1, fun h2 => by
    rcases (dmem x).1 h2 with h3 | ⟨_, h3⟩
    · exact (h.keep x hx).2 h3
    · rw [h.num0 hx.1] at h3
      have := @num_le s0.met x; omega⟩
  have segl : ∀ x, Op s x → num s.met f ≤ num s.met x → x ∈ s.left ++ [f] := fun x hx hle => by
    rcases (h.inv.mem x).1 hx.1 with h2 | h2
    · exact List.mem_append_left _ h2
    · rcases List.mem_append.1 h2 with h2 | h2
      · have := h.g0 x h2
        rw [h.num0 this] at hle
        have := @num_le s0.met x; omega
      · exact List.mem_append_right _ h2
  exact {
    inv := {
      nodup := h.inv.nodup
      lt := h.inv.lt
      mem := fun x => by
        show x ∈ s.met ↔ x ∈ s.left ++ [f] ∨ x ∈ gray
        rw [h.inv.mem x, List.mem_append, List.mem_append]
        constructor
        · rintro (h1 | h1 | h1)
          · exact .inl (.inl h1)
          · exact .inr h1
          · exact .inl (.inr h1)
        · rintro ((h1 | h1) | h1)
          · exact .inl h1
          · exact .inr (.inr h1)
          · exact .inr (.inl h1)
      gout := fun x hx h2 => by
        rcases List.mem_append.1 h2 with h2 | h2
        · exact h.inv.gout x (by simp [hx]) h2
        · simp at h2; subst h2; exact h.fnew (h.g0 x hx)
      lnd := List.nodup_append.2 ⟨h.inv.lnd, by simp, fun a ha b hb => by simp at hb; subst hb; exact (ne_mem ha h.notleft).symm⟩
      closed := fun x hx y hy => by
        rcases List.mem_append.1 hx with hx | hx
        · exact h.inv.closed x hx y hy
        · simp at hx; subst hx; exact h.seen y hy
      comps := by
        show s.comps ++ [TarM.scc e f] = compsOf e s.met (s.left ++ [f])
        rw [compsOf_snoc (h.root hf), ← h.inv.comps]
      dl := fun x hx => by
        rcases (dmem x).1 hx with h1 | ⟨h1, h2⟩
        · exact List.mem_append_left _ (h.inv.dl x h1)
        · exact segl x h1 h2
      pref := fun k x hx y hy => by
        by_cases hk : k ≤ s.comps.length
        · have e1 : (endS e s f).comps.take k = s.comps.take k := by show (s.comps ++ _).take k = _; rw [List.take_append_of_le_length hk]
          rw [e1] at hx ⊢
          exact h.inv.pref k x hx y hy
        · have e1 : (endS e s f).comps.take k = (endS e s f).comps := List.take_of_length_le (by show (s.comps ++ _).length ≤ k; rw [List.length_append, List.length_singleton]; omega)
          rw [e1] at hx ⊢
          rcases (dmem x).1 hx with h1 | ⟨h1, h2⟩
          · exact (dmem y).2 (.inl (h.inv.dc h1 hy))
          · rcases h.away ⟨h1, by omega⟩ (.edge hy) with h3 | h3
            · exact (dmem y).2 (.inr ⟨h3.1, by omega⟩)
            · exact (dmem y).2 (.inl h3)
      i3 := fun x y hx hy hle => h.inv.i3 x y (opE x hx).1 (opE y hy).1 hle
      i4 := fun y hy => by
        obtain ⟨h1, h2⟩ := opE y hy
        obtain ⟨x, hx, h3, h4⟩ := h.inv.i4 y h1
        rcases List.mem_append.1 hx with hx | hx
        · exact ⟨x, hx, h3, h4⟩
        · simp at hx; subst hx; omega
      lowl := h.inv.lowl }
    ext := by obtain ⟨S, hS⟩ := h.ext; exact ⟨f :: S, hS⟩
    fl := by show f ∈ s.left ++ [f]; simp
    lowf := h.lowf
    low0 := h.low0
    keep := keep
    dsub := fun x hx => (dmem x).2 (.inl (h.dsub x hx))
    p1 := by show _ ≤ num s.met f; omega
    p2 := fun hl => by have hl : _ < num s.met f := hl; omega
    p3 := fun u hu hn => by
      obtain ⟨h1, h2⟩ := opE u hu
      exact absurd (old u h1.1 h2) hn
    run := h.runEnd h0 }

theorem Mid.stays {e : List (List Nat)} {gray : List Nat} {f : Nat} {s0 s : TS} {ℓ : Nat} (h : Mid e gray f s0 (kids e f) s ℓ) (h0 : s0.met.length < e.length) (hl : ℓ ≠ s0.met.length + 1) : Post e gray f s0 (stayS s f) ℓ := by
  have hnf := h.numf
  have hp1 := h.p1
  obtain ⟨y0, hy0, hy1, hy2⟩ := h.p2 (by omega)
  have hof : Op s f := h.inv.gop (by simp)
  have hy0s := h.keep y0 hy0
  have hny := h.num0 hy0.1
  have hyf : R e y0 f := h.inv.i3 y0 f hy0s hof (by omega)
  exact {
    inv := {
      nodup := h.inv.nodup
      lt := h.inv.lt
      mem := fun x => by
        show x ∈ s.met ↔ x ∈ s.left ++ [f] ∨ x ∈ gray
        rw [h.inv.mem x, List.mem_append, List.mem_append]
        constructor
        · rintro (h1 | h1 | h1)
          · exact .inl (.inl h1)
          · exact .inr h1
          · exact .inl (.inr h1)
        · rintro ((h1 | h1) | h1)
          · exact .inl h1
          · exact .inr (.inr h1)
          · exact .inr (.inl h1)
      gout := fun x hx h2 => by
        rcases List.mem_append.1 h2 with h2 | h2
        · exact h.inv.gout x (by simp [hx]) h2
        · simp at h2; subst h2; exact h.fnew (h.g0 x hx)
      lnd := List.nodup_append.2 ⟨h.inv.lnd, by simp, fun a ha b hb => by simp at hb; subst hb; exact (ne_mem ha h.notleft).symm⟩
      closed := fun x hx y hy => by
        rcases List.mem_append.1 hx with hx | hx
        · exact h.inv.closed x hx y hy
        · simp at hx; subst hx; exact h.seen y hy
      comps := by
        show s.comps = compsOf e s.met (s.left ++ [f])
        rw [compsOf_skip, ← h.inv.comps]
        intro hr
        have := hr y0 hy0s.1 hy2 hyf
        omega
      dl := fun x hx => List.mem_append_left _ (h.inv.dl x hx)
      pref := h.inv.pref
      i3 := h.inv.i3
      i4 := fun y hy => by
        obtain ⟨x, hx, h3, h4⟩ := h.inv.i4 y hy
        rcases List.mem_append.1 hx with hx | hx
        · exact ⟨x, hx, h3, h4⟩
        · simp at hx; subst hx
          obtain ⟨z, hz, h5, h6⟩ := h.inv.i4 y0 hy0s
          rcases List.mem_append.1 hz with hz | hz
          · have h3 : num s.met x ≤ num s.met y := h3
            refine ⟨z, hz, ?_, h4.trans (hy2.trans h6)⟩
            show num s.met z ≤ num s.met y
            omega
          · simp at hz; subst hz; omega
      lowl := h.inv.lowl }
    ext := by obtain ⟨S, hS⟩ := h.ext; exact ⟨f :: S, hS⟩
    fl := by show f ∈ s.left ++ [f]; simp
    lowf := h.lowf
    low0 := h.low0
    keep := h.keep
    dsub := h.dsub
    p1 := by show _ ≤ num s.met f; omega
    p2 := fun _ => ⟨y0, hy0, hy1, hy2⟩
    p3 := fun u hu hn v hv hv2 => by
      by_cases hu2 : u = f
      · subst hu2; exact h.p3f v hv hv2
      · exact h.p3 u hu hn hu2 v hv hv2
    run := h.runEnd h0 }
end Go.TarM
