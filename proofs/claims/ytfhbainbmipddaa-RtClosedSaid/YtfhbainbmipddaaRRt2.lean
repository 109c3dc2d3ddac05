/- The walks over rising, named, All, Minus, Fields, Global, Out of the reference of chapter 26. -/
import Derived.Test.YtfhbainbmipddaaRRt1
namespace Go.Proofs.Ytfhbainbmipddaa
open Go Go.RR Go.RX Go.GX Go.Api Go.RiseM Go.ReachM Go.RtM
attribute [local irreducible] wpList Code.wp wpPlan Exit.then Exit.inBlock bodyPost NoPanic Went GX.Post GX.Again GX.Meet GX.RowR GX.Own GX.Owns GX.Box GX.Sl GX.Pt GX.Ag GX.MapR GX.Kept GX.Pin wpT GoK AtEnd Both

theorem rise_snoc {l : List Int} {i : Nat} {x : Int} (hx : l[i]? = some x) : Rise (l.take (i + 1)) ↔ Rise (l.take i) ∧ ∀ k y, i = k + 1 → l[k]? = some y → y < x := by
  have := upP_snoc (p := fun _ => true) hx
  simp only [UpP, implies_true, and_true] at this
  exact this
theorem rrising_spec (ao : Option Addr) (cap : Nat) (l : List Int) : Does Try.prog 47 [.slice ao l.length cap] [Sl Ty.int ao cap l] []
    (fun _ : Unit => .bool (decide (Rise l))) (fun _ => []) (fun _ => []) := by
  refine enter Try.func47 rfl Try.ntmps47 rfl fun b => ?_
  refine sln ao fun hl1 hl2 _ => ?_
  by_cases h0 : l.length = 0
  · have e : Rise l := by rw [List.length_eq_zero_iff.1 h0]; exact List.Pairwise.nil
    refine GX.wR ?_; intros
    refine GX.loop (σ := Nat) (fun i => [(0, .slice ao l.length cap), (3, .int .i64 ((i + 1 : Nat) : Int))]) (fun _ => []) (fun _ => []) (fun i => True) (fun i => 0) 0 ⟨rfl, rfl, trivial⟩ trivial (fun i hi => ?_)
    refine GX.wR ?_; intros
    exact rt1 () (vY e)
  refine GX.wR ?_; intros
  refine GX.loop (σ := Nat) (fun i => [(0, .slice ao l.length cap), (3, .int .i64 ((i + 1 : Nat) : Int))]) (fun _ => []) (fun _ => [])
    (fun i => i + 1 ≤ l.length ∧ Rise (l.take (i + 1))) (fun i => l.length - i) 0 ⟨rfl, rfl, trivial⟩ ⟨by omega, ?_⟩ (fun i hi => ?_)
  · obtain ⟨x, hx⟩ := get_lt (show 0 < l.length by omega)
    exact (rise_snoc hx).2 ⟨List.Pairwise.nil, fun k y h => by omega⟩
  obtain ⟨hi, hA⟩ := hi
  by_cases hlt : i + 1 < l.length
  · obtain ⟨x, hx⟩ := get_lt hlt
    obtain ⟨y, hy⟩ := get_lt (show i < l.length by omega)
    have hs := rise_snoc hx
    by_cases hxy : x ≤ y
    · refine GX.wR ?_; intros
      refine GX.drawn0  (fun j => !(List.contains [] j)) [(0, true), (1, true), (2, true), (3, true), (4, true), (5, true), (6, true), (7, true), (8, true), (9, true)] rfl (by kernel_rfl) (by kernel_rfl) (by first | ((repeat (first | apply Go.GX.SelR.nil | apply Go.GX.SelR.cons | (with_reducible apply Go.GX.TakeR.head) | apply Go.GX.TakeR.tail)); done) | (repeat (first | apply Go.GX.SelR.nil | apply Go.GX.SelR.cons | apply Go.GX.TakeR.head | apply Go.GX.TakeR.tail))) ?_; intro wd F hW hR
      refine GX.wT ?_; intros
      refine GX.wR ?_; intros
      exact rt1 () (vN fun h => by
        have := (hs.1 (h.sublist (List.take_sublist _ _))).2 i y rfl hy
        omega)
    · refine GX.wR ?_; intros
      refine GX.drawn0  (fun j => !(List.contains [] j)) [(0, true), (1, true), (2, true), (3, true), (4, true), (5, true), (6, true), (7, true), (8, true), (9, true)] rfl (by kernel_rfl) (by kernel_rfl) (by first | ((repeat (first | apply Go.GX.SelR.nil | apply Go.GX.SelR.cons | (with_reducible apply Go.GX.TakeR.head) | apply Go.GX.TakeR.tail)); done) | (repeat (first | apply Go.GX.SelR.nil | apply Go.GX.SelR.cons | apply Go.GX.TakeR.head | apply Go.GX.TakeR.tail))) ?_; intro wd F hW hR
      refine GX.wT ?_; intros
      refine GX.wR ?_; intros
      exact again (i + 1) ⟨rfl, rfl, trivial⟩ ⟨by omega, hs.2 ⟨hA, fun k z hk hz => last2 (show i = k by omega) hy hz (by omega)⟩⟩ (by omega)
  · rw [List.take_of_length_le (by omega)] at hA
    refine GX.wR ?_; intros
    exact rt1 () (vY hA)
theorem all_spec (a1 a2 : Option Addr) (c1 c2 : Nat) (l m : List Int) : Does Try.prog 41 [.slice a1 l.length c1, .slice a2 m.length c2] [Sl Ty.int a1 c1 l, Sl Ty.int a2 c2 m] []
    (fun _ : Unit => .bool (decide (∀ x ∈ l, x ∈ m))) (fun _ => []) (fun _ => []) := by
  refine enter Try.func41 rfl Try.ntmps41 rfl fun b => ?_
  refine sln a1 fun hl1 hl2 _ => ?_
  refine GX.wR ?_; intros
  refine GX.loop (σ := Nat) (fun i => [(0, .slice a1 l.length c1), (1, .slice a2 m.length c2), (5, .int .i64 (i : Int))]) (fun _ => []) (fun _ => [])
    (fun i => i ≤ l.length ∧ ∀ x ∈ l.take i, x ∈ m) (fun i => l.length - i) 0 ⟨rfl, rfl, rfl, trivial⟩ ⟨by omega, by simp⟩ (fun i hi => ?_)
  obtain ⟨hi, hA⟩ := hi
  by_cases hlt : i < l.length
  · obtain ⟨x, hx⟩ := get_lt hlt
    refine GX.wR ?_; intros
    refine GX.o (cl (in_spec a2 c2 m x) fun _ => ?_)
    by_cases h : x ∈ m
    · have h' := Classical.not_not.2 h
      refine GX.wR ?_; intros
      refine again (i + 1) ⟨rfl, rfl, rfl, trivial⟩ ⟨by omega, fun y hy => ?_⟩ (by omega)
      rw [List.take_add_one, hx, List.mem_append] at hy
      rcases hy with hy | hy
      · exact hA y hy
      · simp at hy; subst hy; exact h
    · refine GX.wR ?_; intros
      exact rt1 () (vN fun h2 => h (h2 x (List.mem_of_getElem? hx)))
  · rw [List.take_of_length_le (by omega)] at hA
    refine GX.wR ?_; intros
    exact rt1 () (vY hA)
theorem all2_spec (a1 a2 : Option Addr) (c1 c2 : Nat) (l m : List Int) : Does Try.prog 48 [.slice a1 l.length c1, .slice a2 m.length c2] [Sl Ty.int a1 c1 l, Sl Ty.int a2 c2 m] []
    (fun _ : Unit => .bool (decide (∀ x ∈ l, x ∈ m))) (fun _ => []) (fun _ => []) := by
  refine enter Try.func48 rfl Try.ntmps48 rfl fun b => ?_
  refine GX.wR ?_; intros
  refine GX.o (cl (all_spec a1 a2 c1 c2 l m) fun _ => ?_)
  refine GX.wR ?_; intros
  exact rt1 () rfl
/-- Those of the first i that are not among others. -/
def minusTo (l m : List Int) (i : Nat) : List Int := (l.take i).filter fun x => decide (x ∉ m)
def minus (l m : List Int) : List Int := l.filter fun x => decide (x ∉ m)
theorem minusTo_succ {l m : List Int} {i : Nat} {x : Int} (hx : l[i]? = some x) : minusTo l m (i + 1) = if x ∈ m then minusTo l m i else minusTo l m i ++ [x] := by
  unfold minusTo
  rw [List.take_add_one, hx, List.filter_append]
  split <;> rename_i h <;> simp [h]
theorem minusTo_len (l m : List Int) (i : Nat) : (minusTo l m i).length ≤ l.length := by
  have h1 := List.length_filter_le (fun x => decide (x ∉ m)) (l.take i)
  unfold minusTo
  rw [List.length_take] at h1; omega
theorem minus_spec (a1 a2 : Option Addr) (c1 c2 : Nat) (l m : List Int) (hl : l.length ≤ 1099511627776) : Does Try.prog 24 [.slice a1 l.length c1, .slice a2 m.length c2] [Sl Ty.int a1 c1 l, Sl Ty.int a2 c2 m] []
    (fun s : Option Addr × Nat => .slice s.1 (minus l m).length s.2) (fun _ => []) (fun s => [Own 3 Ty.int s.1 s.2 (minus l m)]) := by
  refine enter Try.func24 rfl Try.ntmps24 rfl fun b => ?_
  refine sln a1 fun hl1 hl2 _ => ?_
  refine GX.wR ?_; intros
  refine ownNil 3 Ty.int ?_
  refine GX.loop (σ := Nat × Option Addr × Nat) (fun s => [(0, .slice a1 l.length c1), (1, .slice a2 m.length c2), (5, .slice s.2.1 (minusTo l m s.1).length s.2.2), (6, .int .i64 (s.1 : Int))]) (fun _ => [])
    (fun s => [Own 3 Ty.int s.2.1 s.2.2 (minusTo l m s.1)]) (fun s => s.1 ≤ l.length) (fun s => l.length - s.1) (0, none, 0) ⟨rfl, rfl, rfl, rfl, trivial⟩ (by simp) (fun s hs => ?_)
  obtain ⟨i, aL, cL⟩ := s
  dsimp only at *
  have hml := minusTo_len l m i
  by_cases hlt : i < l.length
  · obtain ⟨x, hx⟩ := get_lt hlt
    have hms := minusTo_succ (m := m) hx
    refine GX.wR ?_; intros
    refine GX.o (cl (in_spec a2 c2 m x) fun _ => ?_)
    by_cases h : x ∈ m
    · have h' := Classical.not_not.2 h
      rw [if_pos h] at hms
      refine GX.wR ?_; intros
      exact again (i + 1, aL, cL) ⟨rfl, rfl, by dsimp only; rw [hms]; rfl, rfl, trivial⟩ (by dsimp only; omega) (by dsimp only; omega) (h2 := by dsimp only; rw [hms]; first | ((repeat (first | apply Go.GX.SelR.nil | apply Go.GX.SelR.cons | (with_reducible apply Go.GX.TakeR.head) | apply Go.GX.TakeR.tail)); done) | (repeat (first | apply Go.GX.SelR.nil | apply Go.GX.SelR.cons | apply Go.GX.TakeR.head | apply Go.GX.TakeR.tail)))
    · rw [if_neg h] at hms
      refine GX.wR ?_; intros
      rw [← hms]
      refine GX.nmS 5 ?_; rintro a5 c5 rfl rfl
      refine GX.wR ?_; intros
      exact again (i + 1, a5, c5) ⟨rfl, rfl, rfl, rfl, trivial⟩ (by dsimp only; omega) (by dsimp only; omega)
  · have e : minusTo l m i = minus l m := by unfold minusTo minus; rw [List.take_of_length_le (by omega)]
    rw [e]
    refine GX.wR ?_; intros
    exact rt1 (aL, cL) rfl
theorem rfields_spec (cs : List Value) (t : RTg) (hs : Small t) : Does Try.prog 16 [.agg cs.toArray] [Ag tyRTg cs t] []
    (fun s : Option Addr × Nat => .slice s.1 (flds t).length s.2) (fun s => [Sl (Ty.slice Ty.int) s.1 s.2 (flds t)]) (fun _ => []) := by
  have hc := hs.classes
  refine enter Try.func16 rfl Try.ntmps16 rfl fun b => ?_
  refine GX.wR ?_; intros
  refine GX.nmP 1 ?_; rintro b1 rfl
  refine ownNil 23 (Ty.slice Ty.int) ?_
  refine GX.loop (σ := Nat × Option Addr × Nat) (fun s => [(1, .pointer (some ⟨b1, 0, none⟩)), (3, .slice s.2.1 ((flds t).take s.1).length s.2.2), (4, .int .i64 (s.1 : Int))]) (fun _ => [])
    (fun s => [Own 23 (Ty.slice Ty.int) s.2.1 s.2.2 ((flds t).take s.1)]) (fun s => s.1 ≤ t.classes.length) (fun s => t.classes.length - s.1) (0, none, 0) ⟨rfl, rfl, rfl, trivial⟩ (by simp) (fun s hs2 => ?_)
  obtain ⟨i, aF, cF⟩ := s
  dsimp only at *
  have hfl := flds_len t
  have htl : ((flds t).take i).length = i := by rw [List.length_take]; omega
  by_cases hlt : i < t.classes.length
  · obtain ⟨L, hL⟩ := get_lt hlt
    have hr := hs.ref (List.mem_of_getElem? hL)
    have e : (flds t).take i ++ [L.refs] = (flds t).take (i + 1) := by
      rw [List.take_add_one]; unfold flds; rw [List.getElem?_map, hL]; rfl
    refine GX.wR ?_; intros
    refine GX.nmS 19 ?_; rintro aN cN rfl rfl
    refine frz aN ?_
    refine GX.wR ?_; intros
    rw [e]
    refine GX.nmS 21 ?_; rintro a3 c3 rfl rfl
    refine GX.wR ?_; intros
    exact again (i + 1, a3, c3) ⟨rfl, rfl, rfl, trivial⟩ (by dsimp only; omega) (by dsimp only; omega)
  · rw [List.take_of_length_le (by omega)]
    refine GX.wR ?_; intros
    refine frz aF ?_
    exact rt1 (aF, cF) rfl
theorem rglobal_spec (cs : List Value) (t : RTg) (hs : Small t) : Does Try.prog 19 [.agg cs.toArray] [Ag tyRTg cs t] []
    (fun s : Option Addr × Nat => .slice s.1 (glob t).length s.2) (fun s => [Sl Ty.int s.1 s.2 (glob t)]) (fun _ => []) := by
  have hc := hs.classes
  have hfl := flds_len t
  refine enter Try.func19 rfl Try.ntmps19 rfl fun b => ?_
  refine GX.wR ?_; intros
  refine GX.drawn0  (fun j => !(List.contains [4] j)) [(0, true), (2, true), (3, true), (1, false), (4, false), (5, true)] rfl (by kernel_rfl) (by kernel_rfl) (by first | ((repeat (first | apply Go.GX.SelR.nil | apply Go.GX.SelR.cons | (with_reducible apply Go.GX.TakeR.head) | apply Go.GX.TakeR.tail)); done) | (repeat (first | apply Go.GX.SelR.nil | apply Go.GX.SelR.cons | apply Go.GX.TakeR.head | apply Go.GX.TakeR.tail))) ?_; intro wd F hW hR
  refine GX.wT ?_; intros
  refine GX.nmS 6 ?_; rintro aG cG rfl rfl
  refine GX.gow ?_
  refine (cl (rfields_spec _ t hs) fun s => ?_)
  obtain ⟨aF, cF⟩ := s
  dsimp only
  refine GX.wT ?_; intros
  refine GX.gow ?_
  refine (cl (rfrom_spec aF aG cF cG (flds t) t.globals (by omega)) fun s => ?_)
  obtain ⟨a2, c2⟩ := s
  dsimp only
  refine GX.wT ?_; intros
  refine GX.wR ?_; intros
  refine frz a2 ?_
  exact rt1 (a2, c2) rfl
end Go.Proofs.Ytfhbainbmipddaa
