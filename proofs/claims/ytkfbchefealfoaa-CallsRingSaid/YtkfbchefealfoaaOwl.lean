/- Slices of slices of one's own: small helps. No program in sight. -/
import Derived.Test.YtkfbchefealfoaaGFun
namespace Go.GX
open Go
abbrev OL := List (Option Addr × Nat × List Int)
theorem hd_set {α : Type} (L : List (Option Addr × Nat × List α)) (y : Nat) (a : Option Addr) (c : Nat) (xs : List α) : (L.map GX.hd).set y (a, xs.length, c) = (L.set y (a, c, xs)).map GX.hd := by rw [List.map_set]
theorem hd_rep {α : Type} (n : Nat) : List.replicate n ((none : Option Addr), 0, 0) = (List.replicate n ((none : Option Addr), 0, ([] : List α))).map GX.hd := by rw [List.map_replicate]; rfl
theorem snd_get {α : Type} {L : List (Option Addr × Nat × List α)} {M : List (List α)} (h : L.map (·.2.2) = M) {y : Nat} {xs : List α} (hy : M[y]? = some xs) : ∃ a c, L[y]? = some (a, c, xs) ∧ (L.map GX.hd)[y]? = some (a, xs.length, c) := by
  rw [← h, List.getElem?_map] at hy
  obtain ⟨⟨a, c, ys⟩, h1, h2⟩ := Option.map_eq_some_iff.1 hy
  obtain rfl : ys = xs := h2
  exact ⟨a, c, h1, by rw [List.getElem?_map, h1]; rfl⟩
end Go.GX
