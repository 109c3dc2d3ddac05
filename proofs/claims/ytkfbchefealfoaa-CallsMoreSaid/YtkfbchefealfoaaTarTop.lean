/- The walk in depth through all codes. No program in sight. -/
import Derived.Test.YtkfbchefealfoaaTarMem
namespace Go.TarM
open Go.Api Go.CalM

/-- The edges of a program, as numbers of codes. -/
def gr (x : IR) : List (List Nat) := (edges x).map fun l => l.map Int.toNat
theorem gr_len (x : IR) : (gr x).length = x.codes.length := by simp [gr, edges]
theorem edI_in (n : Nat) (l : List Ins) : ∀ y ∈ edI n l, 0 ≤ y ∧ y < (n : Int) := by
  unfold edI
  suffices h : ∀ (l : List Ins) (acc : List Int), (∀ y ∈ acc, 0 ≤ y ∧ y < (n : Int)) → ∀ y ∈ l.foldl (addI n) acc, 0 ≤ y ∧ y < (n : Int) from h l [] (by simp)
  intro l
  induction l with
  | nil => intro acc h; exact h
  | cons i l ih =>
    intro acc h
    refine ih _ ?_
    unfold addI
    split
    · rename_i hc
      intro y hy
      rcases List.mem_append.1 hy with hy | hy
      · exact h y hy
      · simp at hy; subst hy; exact ⟨hc.2.1, hc.2.2.1⟩
    · exact h
theorem gr_zs (x : IR) : (gr x).map zs = edges x := by
  unfold gr
  rw [List.map_map]
  conv => rhs; rw [← List.map_id (edges x)]
  apply List.map_congr_left
  intro l hl
  obtain ⟨c, _, rfl⟩ := List.mem_map.1 hl
  show (List.map Int.toNat _).map _ = _
  rw [List.map_map]
  show _ = edI x.codes.length c.ins
  conv => rhs; rw [← List.map_id (edI x.codes.length c.ins)]
  apply List.map_congr_left
  intro y hy
  have := (edI_in _ _ y hy).1
  show ((y.toNat : Nat) : Int) = y
  omega
theorem gr_kids (x : IR) (f : Nat) : ∀ y ∈ kids (gr x) f, y < (gr x).length := by
  intro y hy
  rw [gr_len]
  unfold kids gr edges at hy
  rw [List.getElem?_map, List.getElem?_map] at hy
  cases h : x.codes[f]? with
  | none => rw [h] at hy; simp at hy
  | some c =>
    rw [h] at hy
    simp only [Option.map_some, Option.getD_some] at hy
    obtain ⟨z, hz, rfl⟩ := List.mem_map.1 hy
    have := edI_in _ _ z hz
    omega
theorem edI_le (n : Nat) (l : List Ins) : (edI n l).length ≤ l.length := by
  have := edI_len n l l.length
  rwa [List.take_length] at this
theorem gr_few {x : IR} (h : ∀ c ∈ x.codes, c.ins.length ≤ 100000) (f : Nat) : (kids (gr x) f).length ≤ 100000 := by
  unfold kids gr edges
  rw [List.getElem?_map, List.getElem?_map]
  cases hc : x.codes[f]? with
  | none => simp
  | some c =>
    simp only [Option.map_some, Option.getD_some, List.length_map]
    have := edI_le x.codes.length c.ins
    have := h c (List.mem_of_getElem? hc)
    omega

/-- The first k codes are walked through. -/
def topN (e : List (List Nat)) (k : Nat) : List Nat × List Nat := (List.range k).foldl (step e e.length) ([], [])
theorem topN_succ (e : List (List Nat)) (k : Nat) : topN e (k + 1) = step e e.length (topN e k) k := by unfold topN; rw [List.range_succ, List.foldl_append]; rfl
def s0 (n : Nat) : TS := ⟨[], [], List.replicate n 0, []⟩
noncomputable def comps0 (e : List (List Nat)) : List (List Nat) := compsOf e (topN e e.length).1 (topN e e.length).2
structure Top (e : List (List Nat)) (k : Nat) (s : TS) : Prop where
  inv : Inv e [] s
  run : (s.met, s.left) = topN e k
  all : ∀ g, g < k → g ∈ s.met
theorem Top.begin (e : List (List Nat)) : Top e 0 (s0 e.length) where
  inv := {
    nodup := List.nodup_nil
    lt := fun x hx => by simp [s0] at hx
    mem := fun x => by simp [s0]
    gout := fun x hx => by simp at hx
    lnd := List.nodup_nil
    closed := fun x hx => by simp [s0] at hx
    comps := rfl
    dl := fun x hx => by simp [s0] at hx
    pref := fun k x hx => by simp [s0] at hx
    i3 := fun x y hx => absurd hx.1 (by simp [s0])
    i4 := fun y hy => absurd hy.1 (by simp [s0])
    lowl := by simp [s0] }
  run := rfl
  all := fun g hg => by omega
theorem Top.old {e : List (List Nat)} {k : Nat} {s : TS} (h : Top e k s) (hk : k ∈ s.met) : Top e (k + 1) s where
  inv := h.inv
  run := by rw [topN_succ, ← h.run]; simp [step, hk]
  all := fun g hg => by
    by_cases h2 : g = k
    · subst h2; exact hk
    · exact h.all g (by omega)
theorem Top.new {e : List (List Nat)} {k : Nat} {s s' : TS} {ℓ : Nat} (h : Top e k s) (hk : k ∉ s.met) (hp : Post e [] k s s' ℓ) : Top e (k + 1) s' where
  inv := hp.inv
  run := by
    rw [topN_succ, ← h.run, hp.run e.length (by omega)]
    simp [step, hk]
  all := fun g hg => by
    obtain ⟨S, hS⟩ := hp.ext
    by_cases h2 : g = k
    · subst h2; exact (hp.inv.mem g).2 (.inl hp.fl)
    · rw [hS]; exact List.mem_append_left _ (h.all g (by omega))
theorem Top.comps {e : List (List Nat)} {s : TS} (h : Top e e.length s) : s.comps = comps0 e := by
  have h1 := h.inv.comps
  have h2 := h.run
  rw [h1]; unfold comps0; rw [← h2]
end Go.TarM
