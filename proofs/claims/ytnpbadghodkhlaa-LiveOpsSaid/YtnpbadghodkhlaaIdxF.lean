/- Where the first one of a list is. No program in sight. -/
import Derived.Test.YtnpbadghodkhlaaGFun
namespace Go.Proofs.Ytnpbadghodkhlaa
/-- Where the first one is; -1: there is none. -/
def idxF (p : Int → Bool) (xs : List Int) : Int := match xs.findIdx? p with | some i => (i : Int) | none => -1
theorem idxF_some {p : Int → Bool} {xs : List Int} {i : Nat} {x : Int} (hx : xs[i]? = some x) (hp : p x = true) (hn : ∀ y ∈ xs.take i, p y = false) : idxF p xs = i := by
  have hl := (List.getElem?_eq_some_iff.1 hx).1
  have : xs.findIdx? p = some i := by
    rw [List.findIdx?_eq_some_iff_getElem]
    refine ⟨hl, by rw [(List.getElem?_eq_some_iff.1 hx).2]; exact hp, fun j hj => ?_⟩
    have := hn (xs[j]'(by omega)) (List.mem_take_iff_getElem.2 ⟨j, by omega, rfl⟩)
    simp [this]
  unfold idxF; rw [this]
theorem idxF_none {p : Int → Bool} {xs : List Int} (hn : ∀ y ∈ xs, p y = false) : idxF p xs = -1 := by
  have : xs.findIdx? p = none := List.findIdx?_eq_none_iff.2 hn
  unfold idxF; rw [this]
theorem idxF_any (p : Int → Bool) (xs : List Int) : decide (0 ≤ idxF p xs) = xs.any p := by
  unfold idxF
  cases h : xs.findIdx? p with
  | none =>
    have := List.findIdx?_eq_none_iff.1 h
    have e : xs.any p = false := List.any_eq_false.2 fun x hx => by simp [this x hx]
    rw [e]; rfl
  | some i =>
    obtain ⟨hl, hp, _⟩ := List.findIdx?_eq_some_iff_getElem.1 h
    have e : xs.any p = true := List.any_eq_true.2 ⟨_, List.getElem_mem hl, hp⟩
    rw [e]; simp
theorem take_all_succ {p : Int → Bool} {xs : List Int} {i : Nat} {x : Int} (hx : xs[i]? = some x) (hp : p x = false) (hn : ∀ y ∈ xs.take i, p y = false) : ∀ y ∈ xs.take (i + 1), p y = false := by
  intro y hy
  rw [List.take_add_one, hx, List.mem_append] at hy
  rcases hy with hy | hy
  · exact hn y hy
  · simp at hy; subst hy; exact hp

end Go.Proofs.Ytnpbadghodkhlaa
