/- slices.Sort over ints, as a contract on a slice of one's own. -/
import Derived.Test.YtnpbadghodkhlaaShelf
import Derived.Sort.OwnSortedInts
import Derived.Test.YtnpbadghodkhlaaTypes
import Derived.Test.YtnpbadghodkhlaaApiT
namespace Go.Proofs.Ytnpbadghodkhlaa
open Go Go.RR Go.RX Go.GX Go.Sort Go.Proofs

/-- A list, rising. -/
def sorted (xs : List Int) : List Int := xs.mergeSort fun x y => decide (x ≤ y)
theorem sorted_len (xs : List Int) : (sorted xs).length = xs.length := List.length_mergeSort _
theorem sorted_mem {xs : List Int} {x : Int} : x ∈ sorted xs ↔ x ∈ xs := List.mem_mergeSort
theorem sorted_rise (xs : List Int) : (sorted xs).Pairwise (· ≤ ·) := by
  have := List.pairwise_mergeSort (le := fun x y : Int => decide (x ≤ y)) (fun a b c h1 h2 => by simp only [decide_eq_true_eq] at *; omega) (fun a b => by simp only [Bool.or_eq_true, decide_eq_true_eq]; omega) xs
  exact this.imp fun h => by simpa using h
theorem els_ints {F : Nat → Prop} {w : World} : ∀ {xs : List Int} {cs : List Value}, Els Ty.int F w cs xs ↔ cs = xs.map (Value.int .i64)
  | [], cs => Iff.rfl
  | x :: xs, cs => by
    constructor
    · rintro ⟨c1, c2, rfl, h1, h2⟩
      have h1 : c1 = [.int .i64 x] := h1
      rw [h1, els_ints.1 h2]; rfl
    · rintro rfl
      exact ⟨[.int .i64 x], xs.map (Value.int .i64), rfl, rfl, els_ints.2 rfl⟩
theorem sort_spec (ao : Option Addr) (cap : Nat) (xs : List Int) (hl : xs.length < 4611686018427387904) : Does Try.prog 28 [.slice ao xs.length cap] [] [Own 3 Ty.int ao cap xs]
    (fun _ : Unit => .tuple #[]) (fun _ => []) (fun _ => [Own 3 Ty.int ao cap (sorted xs)]) := by
  constructor
  intro w F b s
  obtain ⟨cs, h1, h2⟩ : (Own 3 Ty.int ao cap xs).says F w := s.rs _ (by simp)
  rcases h1.2 with ⟨h3, h4⟩ | ⟨g, cap', cur, h3, hb, hg, h5, h6, h7, h8⟩
  · simp at h3
    obtain ⟨rfl, hx, rfl⟩ := h3
    subst hx
    have e0 : sorted [] = [] := List.length_eq_zero_iff.1 (sorted_len [])
    rw [e0]
    refine (Try.slices_Sort_int_none none 0 w).mono fun e w' ⟨he, hw⟩ => ⟨(), he, ?_⟩
    subst hw
    exact mkOk1 s (Upd.refl _ _) ⟨cs, h1, h2⟩ (fun k hk _ => hk)
  · simp at h3
    obtain ⟨rfl, rfl⟩ := h3
    have hcs := els_ints.1 h2
    have h7 : cur.size = cap * 1 := h7
    have ht : cur.toList.take xs.length = xs.map (Value.int .i64) := by
      have : cur.toList.take (xs.length * 1) = cs := h8
      rw [Nat.mul_one] at this
      rw [this, hcs]
    have hlt : g < w.heap.size := (Array.getElem?_eq_some_iff.1 hg).1
    refine (Try.slices_Sort_int g 0 cap xs w (holds_of_blockI hg ht) hlt hl).mono fun e w' ⟨he, n, os, hw⟩ => ⟨(), he, ?_⟩
    have hgr := grownBy_sortedI (w := w) (g := g) (n := n) (os := os) (sorted xs).toArray
    have hown := ownsRow_sortedI (w := w) (base := 0) (n := n) (os := os) (ts := sorted xs) (sorted_len xs) (Nat.zero_le _) hg h5 h6 h7
    have hw : w' = grow (putRow (Value.int .i64) (Sort.ahead w n) g 0 (sorted xs).toArray) os := hw
    rw [← hw] at hgr hown
    refine mkOk1 s ((Upd.refl _ w).grown hgr (fun k hk _ => ?_)) ⟨_, ?_, els_ints.2 rfl⟩ (fun k hk _ => ?_)
    · exact hk
    · rw [sorted_len]; exact hown
    · have hk : (some g : Option Nat) = some k := hk
      exact hk
end Go.Proofs.Ytnpbadghodkhlaa
