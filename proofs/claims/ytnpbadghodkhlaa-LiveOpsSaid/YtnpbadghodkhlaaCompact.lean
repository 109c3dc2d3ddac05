/- slices.Compact over ints, as a contract on a slice of one's own; a rising list, once each. -/
import Derived.Test.YtnpbadghodkhlaaSort
import Derived.Lib.SlicesCompact
namespace Go.Proofs.Ytnpbadghodkhlaa
open Go Go.RR Go.RX Go.GX Go.Sort Go.Proofs

/-- Equal neighbours once. -/
def once (xs : List Int) : List Int := Lib.compact xs
theorem once_len (xs : List Int) : (once xs).length ≤ xs.length := by
  unfold once Lib.compact Lib.compactUpTo
  rw [List.length_map]
  have := List.length_filter_le (Lib.keeps xs.toArray) (List.range xs.length)
  simpa using this
theorem compact_spec (ao : Option Addr) (cap : Nat) (xs : List Int) (hl : xs.length ≤ 9223372036854775807) : Does Try.prog 29 [.slice ao xs.length cap] [] [Own 3 Ty.int ao cap xs]
    (fun _ : Unit => .slice ao (once xs).length cap) (fun _ => []) (fun _ => [Own 3 Ty.int ao cap (once xs)]) := by
  constructor
  intro w F b s
  obtain ⟨cs, h1, h2⟩ : (Own 3 Ty.int ao cap xs).says F w := s.rs _ (by simp)
  rcases h1.2 with ⟨h3, h4⟩ | ⟨g, cap', cur, h3, hb, hg, h5, h6, h7, h8⟩
  · simp at h3
    obtain ⟨rfl, hx, rfl⟩ := h3
    subst hx
    have e0 : once [] = [] := List.length_eq_zero_iff.1 (Nat.le_zero.1 (once_len []))
    rw [e0]
    refine (Try.slices_Compact_int_empty none 0 w).mono fun e w' ⟨he, hw⟩ => ⟨(), he, ?_⟩
    subst hw
    exact mkOk1 s (Upd.refl _ _) ⟨cs, h1, h2⟩ (fun k hk _ => hk)
  · simp at h3
    obtain ⟨rfl, rfl⟩ := h3
    have hcs := els_ints.1 h2
    have h7 : cur.size = cap * 1 := h7
    have ht : cur.toList.take xs.length = xs.map (Value.int .i64) := by
      have : cur.toList.take (xs.length * 1) = cs := h8
      rw [Nat.mul_one] at this
      rw [this, hcs]
    have hlt : g < w.heap.size := (Array.getElem?_eq_some_iff.1 hg).1
    refine (Try.slices_Compact_int g 0 cap xs w (holds_of_blockI hg ht) hl h5).mono fun e w' ⟨he, q, hw⟩ => ⟨(), he, ?_⟩
    obtain ⟨d, hd⟩ : ∃ d, d = once xs ++ List.replicate (xs.length - (once xs).length) 0 := ⟨_, rfl⟩
    have hle := once_len xs
    have hdl : d.length = xs.length := by rw [hd]; simp; omega
    have hw : w' = grow (putRow (Value.int .i64) (Sort.ahead w q) g 0 d.toArray) #[] := by rw [grow_empty, hd]; exact hw
    have hgr := grownBy_sortedI (w := w) (g := g) (n := q) (os := #[]) d.toArray
    have hheap := heap_sortedI (n := q) (os := #[]) d.toArray hg
    rw [← hw] at hgr hheap
    have htk := take_putCellsI cur d (by omega)
    refine mkOk1 s ((Upd.refl _ w).grown hgr (fun k hk _ => hk)) ⟨(once xs).map (Value.int .i64), ⟨by rw [List.length_map]; exact (Nat.mul_one _).symm, .inr ⟨g, cap, _, rfl, Nat.zero_le _, hheap, by omega, h6, by show _ = cap * 1; simp [putCells, h7], ?_⟩⟩, els_ints.2 rfl⟩ (fun k hk _ => ?_)
    · show _ = _
      have e1 : (once xs).length = min (once xs).length d.length := by omega
      show (putCells (Value.int .i64) 0 d.toArray cur).toList.take ((once xs).length * 1) = _
      rw [Nat.mul_one, e1, ← List.take_take, htk, ← List.map_take, hd, List.take_left]
    · have hk : (some g : Option Nat) = some k := hk
      exact hk
end Go.Proofs.Ytnpbadghodkhlaa
