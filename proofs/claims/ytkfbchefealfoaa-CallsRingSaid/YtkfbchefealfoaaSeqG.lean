/- slices.Values, Collect and Sorted over a part of a list of ints of one's own. -/
import Derived.Test.YtkfbchefealfoaaSeqV
import Derived.Test.YtkfbchefealfoaaSort
import Derived.Test.YtkfbchefealfoaaLend
import Derived.Test.YtkfbchefealfoaaGWalk
namespace Go.Proofs.Ytkfbchefealfoaa
open Go Go.RR Go.RX Go.GX Go.RowKit Go.Shelf

/-- What was read off a part of it, in a new slice. -/
theorem appendSeq_spec (bl g at_ m cap c : Nat) (xs : List Int) (hm : at_ + m = xs.length) (hl : xs.length ≤ 1000000) : Does Try.prog 30 [.slice none 0 0, .func (.func 29) #[] #[.pointer (some ⟨bl, 0, none⟩)]]
    [Pt Ty.hdr bl 0 (some ⟨g, at_, none⟩, m, c)] [GX.Own 3 Ty.int (some ⟨g, 0, none⟩) cap xs] (fun s : Option Addr × Nat => .slice s.1 (xs.drop at_).length s.2) (fun _ => []) (fun s => [GX.Own 3 Ty.int s.1 s.2 (xs.drop at_), GX.Own 3 Ty.int (some ⟨g, 0, none⟩) cap xs]) := by
  constructor
  intro w F b s
  obtain ⟨hF, hbl, cs, hcs, hrd⟩ : (Pt Ty.hdr bl 0 (some ⟨g, at_, none⟩, m, c)).says F w := s.fs _ (by simp)
  have hrd : cs = [.slice (some ⟨g, at_, none⟩) m c] := hrd
  subst hrd
  have hown : (GX.Own 3 Ty.int (some ⟨g, 0, none⟩) cap xs).says F w := s.rs _ (by simp)
  obtain ⟨us, tl, hr, he, _⟩ := own_open hown
  have hus := els_ints.1 he
  have hgl : g < w.heap.size := hr.lt
  have hd : (xs.drop at_).length = m := by rw [List.length_drop]; omega
  have hcell : ∀ j, j < (xs.drop at_).length → w.cell? ⟨g, at_ + j, none⟩ = some (.int .i64 ((xs.drop at_)[j]?.getD 0)) := fun j hj => by
    refine hr.cell_some ?_
    rw [hus, List.getElem?_append_left (by rw [List.length_map]; omega), List.getElem?_map, List.getElem?_drop, List.getElem?_eq_getElem (by omega)]
    rfl
  have hb0 : w.cell? ⟨bl, 0, none⟩ = some (.slice (some ⟨g, at_, none⟩) (xs.drop at_).length c) := by rw [hd]; exact hcs 0 _ rfl
  refine ((callsIn_wide (n := 3)).1 (appendSeq_in Fence.wide 3 trivial trivial rfl (Nat.le_refl _) bl g at_ c (xs.drop at_) (by omega) w hbl hgl hb0 hcell)).mono fun e w' h => ?_
  obtain ⟨v, rfl, hrow, _, hB⟩ := h
  have hu : Upd (feet [GX.Own 3 Ty.int (some ⟨g, 0, none⟩) cap xs]) w w' := ⟨hB.os, hB.tape, hB.output, hB.size, fun k hk _ => hB.block k hk⟩
  obtain ⟨ao, ca, rfl, hbase⟩ : ∃ ao ca, v = .slice ao (xs.drop at_).length ca ∧ ∀ k, (Value.slice ao (xs.drop at_).length ca).ownBlock = some k → w.heap.size ≤ k := by
    rcases hrow.2 with ⟨rfl, h0⟩ | ⟨g', cap', cur, rfl, h3, _⟩
    · exact ⟨none, 0, by rw [h0], fun k hk => by rw [h0] at hk; cases hk⟩
    · exact ⟨some ⟨g', 0, none⟩, cap', rfl, fun k hk => by cases hk; exact h3⟩
  have hnew : (GX.Own 3 Ty.int ao ca (xs.drop at_)).says F w' := by
    refine ⟨(xs.drop at_).map (.int .i64), ⟨hrow.1, ?_⟩, els_ints.2 rfl⟩
    rcases hrow.2 with hn | ⟨g', cap', cur, h2, h3, h4⟩
    · exact .inl hn
    · exact .inr ⟨g', cap', cur, h2, Nat.zero_le _, h4⟩
  have hon : ∀ k, (GX.Own 3 Ty.int ao ca (xs.drop at_)).on k → w.heap.size ≤ k := hbase
  have hold : ∀ k, (GX.Own 3 Ty.int (some ⟨g, 0, none⟩) cap xs).on k → k < w.heap.size := fun k hk => (GX.Own 3 Ty.int (some ⟨g, 0, none⟩) cap xs).inn hown hk
  refine ⟨(ao, ca), rfl, ?_⟩
  refine mkOk s hu (fun _ => False) (fun k h => h.elim) (fun k h => h.elim) no_p ?_ (fun _ _ _ _ h => h) ?_ ?_
  · intro r hr'
    rcases List.mem_cons.1 hr' with rfl | hr'
    · exact (GX.Own 3 Ty.int ao ca (xs.drop at_)).move hnew (fun _ _ h => .inl h) (Agree.refl _ _) (Agree.refl _ _)
    · obtain rfl : r = _ := by simpa using hr'
      exact (GX.Own 3 Ty.int (some ⟨g, 0, none⟩) cap xs).move hown (fun _ _ h => .inl h) ⟨hB.size, fun k hk _ => hB.block k hk⟩ ⟨hB.size, fun k hk _ => hB.block k hk⟩
  · refine List.pairwise_cons.2 ⟨fun r hr' k h1 h2 => ?_, by simp⟩
    obtain rfl : r = _ := by simpa using hr'
    have := hon k h1
    have := hold k h2
    omega
  · intro r hr' k hk hlt
    rcases List.mem_cons.1 hr' with rfl | hr'
    · have := hon k hk; omega
    · exact ⟨r, by simpa using hr', hk⟩
attribute [local irreducible] wpList Code.wp wpPlan Exit.then Exit.inBlock bodyPost NoPanic Went GX.Post GX.Again GX.Meet GX.RowR GX.Own GX.Owns GX.Box GX.Sl GX.Pt GX.Ag GX.MapR GX.Kept GX.Pin wpT GoK AtEnd Both
theorem valuesG_spec (a : Option Addr) (m c : Nat) : Does Try.prog 26 [.slice a m c] [] [] (fun bl : Nat => .func (.func 29) #[] #[.pointer (some ⟨bl, 0, none⟩)]) (fun bl => [Pt Ty.hdr bl 0 (a, m, c)]) (fun _ => []) := by
  refine enter Try.func26 rfl Try.ntmps26 rfl fun b => ?_
  refine GX.wRA ?_; intros
  refine GX.nmP 1 ?_; rintro b1 rfl
  refine frzH b1 ?_ rfl
  exact rt1 b1 rfl
theorem collect_spec (bl g at_ m cap c : Nat) (xs : List Int) (hm : at_ + m = xs.length) (hl : xs.length ≤ 1000000) : Does Try.prog 27 [.func (.func 29) #[] #[.pointer (some ⟨bl, 0, none⟩)]]
    [Pt Ty.hdr bl 0 (some ⟨g, at_, none⟩, m, c)] [GX.Own 3 Ty.int (some ⟨g, 0, none⟩) cap xs] (fun s : Option Addr × Nat => .slice s.1 (xs.drop at_).length s.2) (fun _ => []) (fun s => [GX.Own 3 Ty.int s.1 s.2 (xs.drop at_), GX.Own 3 Ty.int (some ⟨g, 0, none⟩) cap xs]) := by
  refine enter Try.func27 rfl Try.ntmps27 rfl fun b => ?_
  refine GX.wR ?_; intros
  refine GX.o (cl (appendSeq_spec bl g at_ m cap c xs hm hl) fun s => ?_)
  refine GX.wR ?_; intros
  exact rt1 s rfl
theorem sortedG_spec (bl g at_ m cap c : Nat) (xs : List Int) (hm : at_ + m = xs.length) (hl : xs.length ≤ 1000000) : Does Try.prog 25 [.func (.func 29) #[] #[.pointer (some ⟨bl, 0, none⟩)]]
    [Pt Ty.hdr bl 0 (some ⟨g, at_, none⟩, m, c)] [GX.Own 3 Ty.int (some ⟨g, 0, none⟩) cap xs] (fun s : Option Addr × Nat => .slice s.1 (sorted (xs.drop at_)).length s.2) (fun _ => []) (fun s => [GX.Own 3 Ty.int s.1 s.2 (sorted (xs.drop at_)), GX.Own 3 Ty.int (some ⟨g, 0, none⟩) cap xs]) := by
  refine enter Try.func25 rfl Try.ntmps25 rfl fun b => ?_
  refine GX.wR ?_; intros
  refine GX.o (cl (collect_spec bl g at_ m cap c xs hm hl) fun s => ?_)
  refine GX.wR ?_; intros
  refine GX.o (cl (sort_spec s.1 s.2 (xs.drop at_) (by rw [List.length_drop]; omega)) fun _ => ?_)
  refine GX.wR ?_; intros
  exact rt1 s (by rw [sorted_len])
end Go.Proofs.Ytkfbchefealfoaa
