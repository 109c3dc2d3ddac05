import Derived.Test.YtomadjefdghliaaGreatW29
import Derived.Test.YtomadjefdghliaaGreatW31
/- The walks over the small functions of the reference of chapter 26. -/
namespace Go.Proofs.YtomadjefdghliaaGreat
open Go Go.RR Go.RX Go.GX Go.Api Go.RiseM Go.ReachM Go.RtM
attribute [local irreducible] wpList Code.wp wpPlan Exit.then Exit.inBlock bodyPost NoPanic Went GX.Post GX.Again GX.Meet GX.RowR GX.Own GX.Owns GX.Box GX.Sl GX.Pt GX.Ag GX.MapR GX.Kept GX.Pin wpT GoK AtEnd Both

theorem entry_spec (cs : List Value) (t : RTg) (n : Int) : Does Tryz.prog 82 [.agg cs.toArray, .int .i64 n] [Ag tyRTg cs t] [] (fun _ : Unit => .bool (decide (IsEntry t n))) (fun _ => []) (fun _ => []) := by
  refine enter Tryz.func82 rfl Tryz.ntmps82 rfl fun b => ?_
  have e := rentry_iff t n
  by_cases h : -2 ≤ n
  · refine GX.wR ?_; intros
    exact rt1 () (vI (e.symm.trans ⟨fun h => h.2, fun h2 => ⟨h, h2⟩⟩))
  · refine GX.wR ?_; intros
    exact rt1 () (vN fun h2 => h (e.2 h2).1)
theorem rentries_spec (cs : List Value) (t : RTg) (ao : Option Addr) (cap : Nat) (l : List Int) : Does Tryz.prog 35 [.agg cs.toArray, .slice ao l.length cap] [Sl Ty.int ao cap l, Ag tyRTg cs t] [] (fun _ : Unit => .bool (decide (Entries t l))) (fun _ => []) (fun _ => []) := by
  refine enter Tryz.func35 rfl Tryz.ntmps35 rfl fun b => ?_
  refine sln ao fun hl1 hl2 _ => ?_
  refine GX.wR ?_; intros
  refine GX.nmP 2 ?_; rintro b2 rfl
  refine GX.loop (σ := Nat) (fun i => [(1, .slice ao l.length cap), (2, .pointer (some ⟨b2, 0, none⟩)), (5, .int .i64 (i : Int))]) (fun _ => []) (fun _ => [])
    (fun i => i ≤ l.length ∧ ∀ x ∈ l.take i, IsEntry t x) (fun i => l.length - i) 0 ⟨rfl, rfl, rfl, trivial⟩ ⟨by omega, by simp⟩ (fun i hi => ?_)
  obtain ⟨hi, hA⟩ := hi
  by_cases hlt : i < l.length
  · obtain ⟨x, hx⟩ := get_lt hlt
    refine GX.wR ?_; intros
    refine GX.drawn0  (fun j => !(List.contains [5] j)) [(0, true), (1, true), (2, true), (3, true), (4, true), (5, false), (6, true)] rfl (by kernel_rfl) (by kernel_rfl) (by first | ((repeat (first | apply Go.GX.SelR.nil | apply Go.GX.SelR.cons | (with_reducible apply Go.GX.TakeR.head) | apply Go.GX.TakeR.tail)); done) | (repeat (first | apply Go.GX.SelR.nil | apply Go.GX.SelR.cons | apply Go.GX.TakeR.head | apply Go.GX.TakeR.tail))) ?_; intro wd F hW hR
    refine GX.wT ?_; intros
    refine GX.gow ?_
    refine (cl (entry_spec _ t x) fun _ => ?_)
    refine GX.wT ?_; intros
    by_cases h : IsEntry t x
    · have h' := Classical.not_not.2 h
      refine GX.wR ?_; intros
      refine again (i + 1) ⟨rfl, rfl, rfl, trivial⟩ ⟨by omega, fun y hy => ?_⟩ (by omega)
      rw [List.take_add_one, hx, List.mem_append] at hy
      rcases hy with hy | hy
      · exact hA y hy
      · simp at hy; subst hy; exact h
    · refine GX.wR ?_; intros
      exact rt1 () (vN fun h2 => h (h2 x (List.mem_of_getElem? hx)))
  · rw [List.take_of_length_le (by omega)] at hA
    refine GX.wR ?_; intros
    exact rt1 () (vY hA)
theorem rinto_spec (a c : Int) : Does Tryz.prog 89 [.int .i64 a, .int .i64 c] [] [] (fun _ : Unit => .bool (decide (RInto a c))) (fun _ => []) (fun _ => []) := by
  refine enter Tryz.func89 rfl Tryz.ntmps89 rfl fun b => ?_
  have e : RInto a c ↔ if a = -2 ∨ c = -2 then a = c else c = a ∨ c = -1 := Iff.rfl
  by_cases h1 : a = -2
  · rw [if_pos (.inl h1)] at e
    refine GX.wR ?_; intros
    exact rt1 () (vI e)
  · by_cases h2 : c = -2
    · rw [if_pos (.inr h2)] at e
      refine GX.wR ?_; intros
      exact rt1 () (vI e)
    · rw [if_neg (by omega)] at e
      by_cases h3 : c = a
      · refine GX.wR ?_; intros
        exact rt1 () (vY (e.2 (.inl h3)))
      · refine GX.wR ?_; intros
        exact rt1 () (vI (e.trans ⟨fun h => h.elim (fun h => absurd h h3) id, .inr⟩))
theorem rof_spec (cs : List Value) (u : Unt) (n : Int) : Does Tryz.prog 88 [.agg cs.toArray, .int .i64 n] [Ag tyUnt cs u] [] (fun _ : Unit => .int .i64 (rof u n)) (fun _ => []) (fun _ => []) := by
  refine enter Tryz.func88 rfl Tryz.ntmps88 rfl fun b => ?_
  by_cases h : n < 0
  · have e : rof u n = -4 := by unfold rof; rw [gt_out (.inl h)]; rfl
    rw [e]
    refine GX.wR ?_; intros
    exact rt1 () rfl
  · by_cases h2 : (u.vars.length : Int) ≤ n
    · have e : rof u n = -4 := by unfold rof; rw [gt_out (.inr h2)]; rfl
      rw [e]
      refine GX.wR ?_; intros
      exact rt1 () rfl
    · obtain ⟨x, hx, k, rfl, hk, hx2⟩ := gt_in (l := u.vars) (n := n) ⟨by omega, by omega⟩
      have e : rof u k = x := by unfold rof; rw [hx]; rfl
      rw [e]
      refine GX.wR ?_; intros
      exact rt1 () rfl
theorem rclass_spec (cs : List Value) (t : RTg) (c : Int) (arr : Bool) : Does Tryz.prog 92 [.agg cs.toArray, .int .i64 c, .bool arr] [Ag tyRTg cs t] [] (fun _ : Unit => .bool (decide (RClass t c arr))) (fun _ => []) (fun _ => []) := by
  refine enter Tryz.func92 rfl Tryz.ntmps92 rfl fun b => ?_
  by_cases h : c < 0
  · have e : ¬ RClass t c arr := by unfold RClass; rw [gt_out (.inl h)]; exact id
    refine GX.wR ?_; intros
    exact rt1 () (vN e)
  · by_cases h2 : (t.classes.length : Int) ≤ c
    · have e : ¬ RClass t c arr := by unfold RClass; rw [gt_out (.inr h2)]; exact id
      refine GX.wR ?_; intros
      exact rt1 () (vN e)
    · obtain ⟨L, hL, k, rfl, hk, hx2⟩ := gt_in (l := t.classes) (n := c) ⟨by omega, by omega⟩
      have e : RClass t k arr ↔ L.arr = arr := by unfold RClass; rw [hL]
      have e2 : decide (RClass t k arr) = (L.arr == arr) := by
        rw [Bool.eq_iff_iff, decide_eq_true_eq, beq_iff_eq]; exact e
      rw [e2]
      refine GX.wR ?_; intros
      exact rt1 () rfl
theorem record_spec (cs : List Value) (t : RTg) (e k : Int) (he : e < (t.classes.length : Int)) : Does Tryz.prog 90 [.agg cs.toArray, .int .i64 e, .int .i64 k] [Ag tyRTg cs t] []
    (fun _ : Unit => .tuple #[.int .i64 (record t e k).1, .bool (record t e k).2]) (fun _ => []) (fun _ => []) := by
  refine enter Tryz.func90 rfl Tryz.ntmps90 rfl fun b => ?_
  have none : ∀ {x}, (¬ (e = -1 ∧ 0 ≤ k ∧ k < 8)) → gt t.classes e = none → x = record t e k → x = (-4, false) := fun h1 h2 h3 => by rw [h3]; unfold record; rw [if_neg h1, h2]
  by_cases h1 : e = -1
  · have hg : gt t.classes e = Option.none := gt_out (.inl (by omega))
    by_cases h2 : 0 ≤ k
    · by_cases h3 : k < 8
      · have e1 : record t e k = (-4, true) := by unfold record; rw [if_pos ⟨h1, h2, h3⟩]
        rw [e1]
        refine GX.wR ?_; intros
        exact rt2 () rfl
      · rw [none (fun h => h3 h.2.2) hg rfl]
        refine GX.wR ?_; intros
        exact rt2 () rfl
    · rw [none (fun h => h2 h.2.1) hg rfl]
      refine GX.wR ?_; intros
      exact rt2 () rfl
  · have hn : ¬ (e = -1 ∧ 0 ≤ k ∧ k < 8) := fun h => h1 h.1
    by_cases h2 : e < 0
    · rw [none hn (gt_out (.inl h2)) rfl]
      refine GX.wR ?_; intros
      exact rt2 () rfl
    · obtain ⟨L, hL, j, rfl, hj, hx2⟩ := gt_in (l := t.classes) (n := e) ⟨by omega, he⟩
      by_cases h3 : L.arr = true
      · rw [record_arr hn hL h3]
        refine GX.wR ?_; intros
        exact rt2 () rfl
      · have h3' : L.arr = false := by simpa using h3
        by_cases h4 : k < 0
        · rw [record_out hn hL h3 (gt_out (.inl h4))]
          refine GX.wR ?_; intros
          exact rt2 () rfl
        · by_cases h5 : (L.refs.length : Int) ≤ k
          · rw [record_out hn hL h3 (gt_out (.inr h5))]
            refine GX.wR ?_; intros
            exact rt2 () rfl
          · obtain ⟨x, hx, m, rfl, hm, hx3⟩ := gt_in (l := L.refs) (n := k) ⟨by omega, by omega⟩
            rw [record_some hn hL h3 hx]
            refine GX.wR ?_; intros
            exact rt2 () rfl
theorem array_spec (cs : List Value) (t : RTg) (e : Int) (he : e < (t.classes.length : Int)) (hl : ∀ L ∈ t.classes, L.arr = true → L.refs.length = 1) : Does Tryz.prog 91 [.agg cs.toArray, .int .i64 e] [Ag tyRTg cs t] []
    (fun _ : Unit => .tuple #[.int .i64 (array t e).1, .bool (array t e).2]) (fun _ => []) (fun _ => []) := by
  refine enter Tryz.func91 rfl Tryz.ntmps91 rfl fun b => ?_
  by_cases h1 : e = -1
  · have e1 : array t e = (-4, true) := by unfold array; rw [if_pos h1]
    rw [e1]
    refine GX.wR ?_; intros
    exact rt2 () rfl
  · by_cases h2 : e < 0
    · have e1 : array t e = (-4, false) := by unfold array; rw [if_neg h1, gt_out (.inl h2)]
      rw [e1]
      refine GX.wR ?_; intros
      exact rt2 () rfl
    · obtain ⟨L, hL, j, rfl, hj, hx2⟩ := gt_in (l := t.classes) (n := e) ⟨by omega, he⟩
      by_cases h3 : L.arr = true
      · have h4 := hl L (List.mem_of_getElem? hx2) h3
        have hb : (!L.arr) = false := by rw [h3]; rfl
        obtain ⟨x, hx⟩ := get_lt (show 0 < L.refs.length by omega)
        rw [array_some h1 hL h3 (show gt L.refs 0 = some x from hx)]
        refine GX.wR ?_; intros
        exact rt2 () rfl
      · have hb : (!L.arr) = true := by simpa using h3
        rw [array_rec h1 hL h3]
        refine GX.wR ?_; intros
        exact rt2 () rfl
end Go.Proofs.YtomadjefdghliaaGreat

/- The walks over rising, named, All, Minus, Fields, Global, Out of the reference of chapter 26. -/
namespace Go.Proofs.YtomadjefdghliaaGreat
open Go Go.RR Go.RX Go.GX Go.Api Go.RiseM Go.ReachM Go.RtM
attribute [local irreducible] wpList Code.wp wpPlan Exit.then Exit.inBlock bodyPost NoPanic Went GX.Post GX.Again GX.Meet GX.RowR GX.Own GX.Owns GX.Box GX.Sl GX.Pt GX.Ag GX.MapR GX.Kept GX.Pin wpT GoK AtEnd Both

theorem rise_snoc {l : List Int} {i : Nat} {x : Int} (hx : l[i]? = some x) : Rise (l.take (i + 1)) ↔ Rise (l.take i) ∧ ∀ k y, i = k + 1 → l[k]? = some y → y < x := by
  have := upP_snoc (p := fun _ => true) hx
  simp only [UpP, implies_true, and_true] at this
  exact this
theorem rrising_spec (ao : Option Addr) (cap : Nat) (l : List Int) : Does Tryz.prog 83 [.slice ao l.length cap] [Sl Ty.int ao cap l] []
    (fun _ : Unit => .bool (decide (Rise l))) (fun _ => []) (fun _ => []) := by
  refine enter Tryz.func83 rfl Tryz.ntmps83 rfl fun b => ?_
  refine sln ao fun hl1 hl2 _ => ?_
  by_cases h0 : l.length = 0
  · have e : Rise l := by rw [List.length_eq_zero_iff.1 h0]; exact List.Pairwise.nil
    refine GX.wR ?_; intros
    refine GX.loop (σ := Nat) (fun i => [(0, .slice ao l.length cap), (3, .int .i64 ((i + 1 : Nat) : Int))]) (fun _ => []) (fun _ => []) (fun i => True) (fun i => 0) 0 ⟨rfl, rfl, trivial⟩ trivial (fun i hi => ?_)
    refine GX.wR ?_; intros
    exact rt1 () (vY e)
  refine GX.wR ?_; intros
  refine GX.loop (σ := Nat) (fun i => [(0, .slice ao l.length cap), (3, .int .i64 ((i + 1 : Nat) : Int))]) (fun _ => []) (fun _ => [])
    (fun i => i + 1 ≤ l.length ∧ Rise (l.take (i + 1))) (fun i => l.length - i) 0 ⟨rfl, rfl, trivial⟩ ⟨by omega, ?_⟩ (fun i hi => ?_)
  · obtain ⟨x, hx⟩ := get_lt (show 0 < l.length by omega)
    exact (rise_snoc hx).2 ⟨List.Pairwise.nil, fun k y h => by omega⟩
  obtain ⟨hi, hA⟩ := hi
  by_cases hlt : i + 1 < l.length
  · obtain ⟨x, hx⟩ := get_lt hlt
    obtain ⟨y, hy⟩ := get_lt (show i < l.length by omega)
    have hs := rise_snoc hx
    by_cases hxy : x ≤ y
    · refine GX.wR ?_; intros
      refine GX.drawn0  (fun j => !(List.contains [] j)) [(0, true), (1, true), (2, true), (3, true), (4, true), (5, true), (6, true), (7, true), (8, true), (9, true)] rfl (by kernel_rfl) (by kernel_rfl) (by first | ((repeat (first | apply Go.GX.SelR.nil | apply Go.GX.SelR.cons | (with_reducible apply Go.GX.TakeR.head) | apply Go.GX.TakeR.tail)); done) | (repeat (first | apply Go.GX.SelR.nil | apply Go.GX.SelR.cons | apply Go.GX.TakeR.head | apply Go.GX.TakeR.tail))) ?_; intro wd F hW hR
      refine GX.wT ?_; intros
      refine GX.wR ?_; intros
      exact rt1 () (vN fun h => by
        have := (hs.1 (h.sublist (List.take_sublist _ _))).2 i y rfl hy
        omega)
    · refine GX.wR ?_; intros
      refine GX.drawn0  (fun j => !(List.contains [] j)) [(0, true), (1, true), (2, true), (3, true), (4, true), (5, true), (6, true), (7, true), (8, true), (9, true)] rfl (by kernel_rfl) (by kernel_rfl) (by first | ((repeat (first | apply Go.GX.SelR.nil | apply Go.GX.SelR.cons | (with_reducible apply Go.GX.TakeR.head) | apply Go.GX.TakeR.tail)); done) | (repeat (first | apply Go.GX.SelR.nil | apply Go.GX.SelR.cons | apply Go.GX.TakeR.head | apply Go.GX.TakeR.tail))) ?_; intro wd F hW hR
      refine GX.wT ?_; intros
      refine GX.wR ?_; intros
      exact again (i + 1) ⟨rfl, rfl, trivial⟩ ⟨by omega, hs.2 ⟨hA, fun k z hk hz => last2 (show i = k by omega) hy hz (by omega)⟩⟩ (by omega)
  · rw [List.take_of_length_le (by omega)] at hA
    refine GX.wR ?_; intros
    exact rt1 () (vY hA)
theorem all_spec (a1 a2 : Option Addr) (c1 c2 : Nat) (l m : List Int) : Does Tryz.prog 124 [.slice a1 l.length c1, .slice a2 m.length c2] [Sl Ty.int a1 c1 l, Sl Ty.int a2 c2 m] []
    (fun _ : Unit => .bool (decide (∀ x ∈ l, x ∈ m))) (fun _ => []) (fun _ => []) := by
  refine enter Tryz.func124 rfl Tryz.ntmps124 rfl fun b => ?_
  refine sln a1 fun hl1 hl2 _ => ?_
  refine GX.wR ?_; intros
  refine GX.loop (σ := Nat) (fun i => [(0, .slice a1 l.length c1), (1, .slice a2 m.length c2), (5, .int .i64 (i : Int))]) (fun _ => []) (fun _ => [])
    (fun i => i ≤ l.length ∧ ∀ x ∈ l.take i, x ∈ m) (fun i => l.length - i) 0 ⟨rfl, rfl, rfl, trivial⟩ ⟨by omega, by simp⟩ (fun i hi => ?_)
  obtain ⟨hi, hA⟩ := hi
  by_cases hlt : i < l.length
  · obtain ⟨x, hx⟩ := get_lt hlt
    refine GX.wR ?_; intros
    refine GX.o (cl (in_spec a2 c2 m x) fun _ => ?_)
    by_cases h : x ∈ m
    · have h' := Classical.not_not.2 h
      refine GX.wR ?_; intros
      refine again (i + 1) ⟨rfl, rfl, rfl, trivial⟩ ⟨by omega, fun y hy => ?_⟩ (by omega)
      rw [List.take_add_one, hx, List.mem_append] at hy
      rcases hy with hy | hy
      · exact hA y hy
      · simp at hy; subst hy; exact h
    · refine GX.wR ?_; intros
      exact rt1 () (vN fun h2 => h (h2 x (List.mem_of_getElem? hx)))
  · rw [List.take_of_length_le (by omega)] at hA
    refine GX.wR ?_; intros
    exact rt1 () (vY hA)
theorem all2_spec (a1 a2 : Option Addr) (c1 c2 : Nat) (l m : List Int) : Does Tryz.prog 84 [.slice a1 l.length c1, .slice a2 m.length c2] [Sl Ty.int a1 c1 l, Sl Ty.int a2 c2 m] []
    (fun _ : Unit => .bool (decide (∀ x ∈ l, x ∈ m))) (fun _ => []) (fun _ => []) := by
  refine enter Tryz.func84 rfl Tryz.ntmps84 rfl fun b => ?_
  refine GX.wR ?_; intros
  refine GX.o (cl (all_spec a1 a2 c1 c2 l m) fun _ => ?_)
  refine GX.wR ?_; intros
  exact rt1 () rfl
/-- Those of the first i that are not among others. -/
def minusTo (l m : List Int) (i : Nat) : List Int := (l.take i).filter fun x => decide (x ∉ m)
def minus (l m : List Int) : List Int := l.filter fun x => decide (x ∉ m)
theorem minusTo_succ {l m : List Int} {i : Nat} {x : Int} (hx : l[i]? = some x) : minusTo l m (i + 1) = if x ∈ m then minusTo l m i else minusTo l m i ++ [x] := by
  unfold minusTo
  rw [List.take_add_one, hx, List.filter_append]
  split <;> rename_i h <;> simp [h]
theorem minusTo_len (l m : List Int) (i : Nat) : (minusTo l m i).length ≤ l.length := by
  have h1 := List.length_filter_le (fun x => decide (x ∉ m)) (l.take i)
  unfold minusTo
  rw [List.length_take] at h1; omega
theorem minus_spec (a1 a2 : Option Addr) (c1 c2 : Nat) (l m : List Int) (hl : l.length ≤ 1099511627776) : Does Tryz.prog 125 [.slice a1 l.length c1, .slice a2 m.length c2] [Sl Ty.int a1 c1 l, Sl Ty.int a2 c2 m] []
    (fun s : Option Addr × Nat => .slice s.1 (minus l m).length s.2) (fun _ => []) (fun s => [GX.Own 3 Ty.int s.1 s.2 (minus l m)]) := by
  refine enter Tryz.func125 rfl Tryz.ntmps125 rfl fun b => ?_
  refine sln a1 fun hl1 hl2 _ => ?_
  refine GX.wR ?_; intros
  refine ownNil 3 Ty.int ?_
  refine GX.loop (σ := Nat × Option Addr × Nat) (fun s => [(0, .slice a1 l.length c1), (1, .slice a2 m.length c2), (5, .slice s.2.1 (minusTo l m s.1).length s.2.2), (6, .int .i64 (s.1 : Int))]) (fun _ => [])
    (fun s => [GX.Own 3 Ty.int s.2.1 s.2.2 (minusTo l m s.1)]) (fun s => s.1 ≤ l.length) (fun s => l.length - s.1) (0, none, 0) ⟨rfl, rfl, rfl, rfl, trivial⟩ (by simp) (fun s hs => ?_)
  obtain ⟨i, aL, cL⟩ := s
  dsimp only at *
  have hml := minusTo_len l m i
  by_cases hlt : i < l.length
  · obtain ⟨x, hx⟩ := get_lt hlt
    have hms := minusTo_succ (m := m) hx
    refine GX.wR ?_; intros
    refine GX.o (cl (in_spec a2 c2 m x) fun _ => ?_)
    by_cases h : x ∈ m
    · have h' := Classical.not_not.2 h
      rw [if_pos h] at hms
      refine GX.wR ?_; intros
      exact again (i + 1, aL, cL) ⟨rfl, rfl, by dsimp only; rw [hms]; rfl, rfl, trivial⟩ (by dsimp only; omega) (by dsimp only; omega) (h2 := by dsimp only; rw [hms]; first | ((repeat (first | apply Go.GX.SelR.nil | apply Go.GX.SelR.cons | (with_reducible apply Go.GX.TakeR.head) | apply Go.GX.TakeR.tail)); done) | (repeat (first | apply Go.GX.SelR.nil | apply Go.GX.SelR.cons | apply Go.GX.TakeR.head | apply Go.GX.TakeR.tail)))
    · rw [if_neg h] at hms
      refine GX.wR ?_; intros
      rw [← hms]
      refine GX.nmS 5 ?_; rintro a5 c5 rfl rfl
      refine GX.wR ?_; intros
      exact again (i + 1, a5, c5) ⟨rfl, rfl, rfl, rfl, trivial⟩ (by dsimp only; omega) (by dsimp only; omega)
  · have e : minusTo l m i = minus l m := by unfold minusTo minus; rw [List.take_of_length_le (by omega)]
    rw [e]
    refine GX.wR ?_; intros
    exact rt1 (aL, cL) rfl
theorem rfields_spec (cs : List Value) (t : RTg) (hs : Small t) : Does Tryz.prog 69 [.agg cs.toArray] [Ag tyRTg cs t] []
    (fun s : Option Addr × Nat => .slice s.1 (flds t).length s.2) (fun s => [Sl (Ty.slice Ty.int) s.1 s.2 (flds t)]) (fun _ => []) := by
  have hc := hs.classes
  refine enter Tryz.func69 rfl Tryz.ntmps69 rfl fun b => ?_
  refine GX.wR ?_; intros
  refine GX.nmP 1 ?_; rintro b1 rfl
  refine ownNil 23 (Ty.slice Ty.int) ?_
  refine GX.loop (σ := Nat × Option Addr × Nat) (fun s => [(1, .pointer (some ⟨b1, 0, none⟩)), (3, .slice s.2.1 ((flds t).take s.1).length s.2.2), (4, .int .i64 (s.1 : Int))]) (fun _ => [])
    (fun s => [GX.Own 23 (Ty.slice Ty.int) s.2.1 s.2.2 ((flds t).take s.1)]) (fun s => s.1 ≤ t.classes.length) (fun s => t.classes.length - s.1) (0, none, 0) ⟨rfl, rfl, rfl, trivial⟩ (by simp) (fun s hs2 => ?_)
  obtain ⟨i, aF, cF⟩ := s
  dsimp only at *
  have hfl := flds_len t
  have htl : ((flds t).take i).length = i := by rw [List.length_take]; omega
  by_cases hlt : i < t.classes.length
  · obtain ⟨L, hL⟩ := get_lt hlt
    have hr := hs.ref (List.mem_of_getElem? hL)
    have e : (flds t).take i ++ [L.refs] = (flds t).take (i + 1) := by
      rw [List.take_add_one]; unfold flds; rw [List.getElem?_map, hL]; rfl
    refine GX.wR ?_; intros
    refine GX.nmS 19 ?_; rintro aN cN rfl rfl
    refine frz aN ?_
    refine GX.wR ?_; intros
    rw [e]
    refine GX.nmS 21 ?_; rintro a3 c3 rfl rfl
    refine GX.wR ?_; intros
    exact again (i + 1, a3, c3) ⟨rfl, rfl, rfl, trivial⟩ (by dsimp only; omega) (by dsimp only; omega)
  · rw [List.take_of_length_le (by omega)]
    refine GX.wR ?_; intros
    refine frz aF ?_
    exact rt1 (aF, cF) rfl
theorem rglobal_spec (cs : List Value) (t : RTg) (hs : Small t) : Does Tryz.prog 29 [.agg cs.toArray] [Ag tyRTg cs t] []
    (fun s : Option Addr × Nat => .slice s.1 (glob t).length s.2) (fun s => [Sl Ty.int s.1 s.2 (glob t)]) (fun _ => []) := by
  have hc := hs.classes
  have hfl := flds_len t
  refine enter Tryz.func29 rfl Tryz.ntmps29 rfl fun b => ?_
  refine GX.wR ?_; intros
  refine GX.drawn0  (fun j => !(List.contains [4] j)) [(0, true), (2, true), (3, true), (1, false), (4, false), (5, true)] rfl (by kernel_rfl) (by kernel_rfl) (by first | ((repeat (first | apply Go.GX.SelR.nil | apply Go.GX.SelR.cons | (with_reducible apply Go.GX.TakeR.head) | apply Go.GX.TakeR.tail)); done) | (repeat (first | apply Go.GX.SelR.nil | apply Go.GX.SelR.cons | apply Go.GX.TakeR.head | apply Go.GX.TakeR.tail))) ?_; intro wd F hW hR
  refine GX.wT ?_; intros
  refine GX.nmS 6 ?_; rintro aG cG rfl rfl
  refine GX.gow ?_
  refine (cl (rfields_spec _ t hs) fun s => ?_)
  obtain ⟨aF, cF⟩ := s
  dsimp only
  refine GX.wT ?_; intros
  refine GX.gow ?_
  refine (cl (rfrom_spec aF aG cF cG (flds t) t.globals (by omega)) fun s => ?_)
  obtain ⟨a2, c2⟩ := s
  dsimp only
  refine GX.wT ?_; intros
  refine GX.wR ?_; intros
  refine frz a2 ?_
  exact rt1 (a2, c2) rfl
end Go.Proofs.YtomadjefdghliaaGreat

/- The walks over Out, call and named of the reference of chapter 26. -/
namespace Go.Proofs.YtomadjefdghliaaGreat
open Go Go.RR Go.RX Go.GX Go.Api Go.RiseM Go.ReachM Go.RtM
attribute [local irreducible] wpList Code.wp wpPlan Exit.then Exit.inBlock bodyPost NoPanic Went GX.Post GX.Again GX.Meet GX.RowR GX.Own GX.Owns GX.Box GX.Sl GX.Pt GX.Ag GX.MapR GX.Kept GX.Pin wpT GoK AtEnd Both

/-- The roots as the reference gathers them. -/
def rootsTo (u : Unt) (i : Nat) : List Int := u.result :: u.vars.take i
theorem rootsTo_len (u : Unt) (i : Nat) : (rootsTo u i).length ≤ u.vars.length + 1 := by unfold rootsTo; rw [List.length_cons, List.length_take]; omega
theorem outOf_minus (t : RTg) (u : Unt) : minus (fromL (flds t) (rootsTo u (pars u))) (glob t) = outOf t u := by
  unfold minus outOf
  rw [fromL_congr (f := flds t) (r := rootsTo u (pars u)) (s := roots u)]
  intro x
  unfold rootsTo roots
  simp only [List.mem_cons, List.mem_append, List.not_mem_nil, or_false]
  exact ⟨fun h => h.elim .inr .inl, fun h => h.elim .inr .inl⟩
theorem rout_spec (cs : List Value) (t : RTg) (hs : Small t) (k : Int) : Does Tryz.prog 85 [.agg cs.toArray, .int .i64 k] [Ag tyRTg cs t] []
    (fun s : Option Addr × Nat => .slice s.1 (out t k).length s.2) (fun s => [Sl Ty.int s.1 s.2 (out t k)]) (fun _ => []) := by
  by_cases h1 : k < 0
  · rw [out_none (.inl h1)]
    refine enter Tryz.func85 rfl Tryz.ntmps85 rfl fun b => ?_
    refine GX.wR ?_; intros
    refine slNil Ty.int ?_
    exact rt1 (none, 0) rfl
  by_cases h2 : (t.units.length : Int) ≤ k
  · rw [out_none (.inr h2)]
    refine enter Tryz.func85 rfl Tryz.ntmps85 rfl fun b => ?_
    refine GX.wR ?_; intros
    refine slNil Ty.int ?_
    exact rt1 (none, 0) rfl
  obtain ⟨k, rfl⟩ := Int.eq_ofNat_of_zero_le (show 0 ≤ k by omega)
  obtain ⟨u, hu⟩ := get_lt (show k < t.units.length by omega)
  rw [out_some hu]
  have hc := hs.classes
  have hfl := flds_len t
  have hp := pars_le u
  have hul := (hs.unit u (List.mem_of_getElem? hu)).1
  have hpe : ((pars u : Nat) : Int) = min (max u.params 0) (u.vars.length : Int) := by unfold pars; omega
  refine enter Tryz.func85 rfl Tryz.ntmps85 rfl fun b => ?_
  refine GX.wRO ?_; intros
  refine GX.nmP 2 ?_; rintro b2 rfl
  refine GX.nmP 5 ?_; rintro b5 rfl
  refine GX.nmB 6 ?_; rintro b6 rfl
  refine frzB b5 ?_
  refine GX.loop (σ := Nat × Option Addr × Nat) (fun s => [(1, .int .i64 (k : Int)), (2, .pointer (some ⟨b2, 0, none⟩)), (5, .pointer (some ⟨b5, 0, none⟩)), (6, .slice s.2.1 (rootsTo u s.1).length s.2.2), (7, .int .i64 (s.1 : Int))]) (fun _ => [])
    (fun s => [GX.Own 3 Ty.int s.2.1 s.2.2 (rootsTo u s.1)]) (fun s => s.1 ≤ pars u) (fun s => pars u - s.1) (0, some ⟨b6, 0, none⟩, 1) ⟨rfl, rfl, rfl, rfl, rfl, trivial⟩ (by simp) (fun s hs2 => ?_)
  obtain ⟨i, aL, cL⟩ := s
  dsimp only at *
  have hrl := rootsTo_len u i
  by_cases hlt : i < pars u
  · obtain ⟨x, hx⟩ := get_lt (show i < u.vars.length by omega)
    have e : rootsTo u i ++ [x] = rootsTo u (i + 1) := by unfold rootsTo; rw [List.take_add_one, hx]; rfl
    refine GX.wR ?_; intros
    rw [e]
    refine GX.nmS 6 ?_; rintro a6 c6 rfl rfl
    refine GX.wR ?_; intros
    exact again (i + 1, a6, c6) ⟨rfl, rfl, rfl, rfl, rfl, trivial⟩ (by dsimp only; omega) (by dsimp only; omega)
  · have hip : i = pars u := by omega
    subst hip
    refine frz aL ?_
    by_cases h3 : ((pars u : Nat) : Int) < u.params
    · refine GX.wR ?_; intros
      refine GX.drawn0  (fun j => !(List.contains [5, 6] j)) [(0, true), (2, true), (4, true), (1, false), (3, false), (5, false), (6, false), (7, true)] rfl (by kernel_rfl) (by kernel_rfl) (by first | ((repeat (first | apply Go.GX.SelR.nil | apply Go.GX.SelR.cons | (with_reducible apply Go.GX.TakeR.head) | apply Go.GX.TakeR.tail)); done) | (repeat (first | apply Go.GX.SelR.nil | apply Go.GX.SelR.cons | apply Go.GX.TakeR.head | apply Go.GX.TakeR.tail))) ?_; intro wd F hW hR
      refine GX.wT ?_; intros
      refine GX.gow ?_
      refine (cl (rfields_spec _ t hs) fun s => ?_)
      obtain ⟨aF, cF⟩ := s
      dsimp only
      refine GX.wT ?_; intros
      refine GX.gow ?_
      refine (cl (rfrom_spec aF aL cF cL (flds t) (rootsTo u (pars u)) (by omega)) fun s => ?_)
      obtain ⟨aR, cR⟩ := s
      dsimp only
      refine frz aR ?_
      refine GX.wT ?_; intros
      refine GX.gow ?_
      refine (cl (rglobal_spec _ t hs) fun s => ?_)
      obtain ⟨aG, cG⟩ := s
      dsimp only
      refine GX.wT ?_; intros
      refine GX.gow ?_
      refine (cl (minus_spec aR aG cR cG (fromL (flds t) (rootsTo u (pars u))) (glob t) (by have := fromL_len (flds t) (rootsTo u (pars u)); omega)) fun s => ?_)
      obtain ⟨aM, cM⟩ := s
      dsimp only
      rw [outOf_minus]
      refine GX.wT ?_; intros
      refine GX.wR ?_; intros
      refine frz aM ?_
      exact rt1 (aM, cM) rfl
    · refine GX.wR ?_; intros
      refine GX.drawn0  (fun j => !(List.contains [5, 6] j)) [(0, true), (2, true), (4, true), (1, false), (3, false), (5, false), (6, false), (7, true)] rfl (by kernel_rfl) (by kernel_rfl) (by first | ((repeat (first | apply Go.GX.SelR.nil | apply Go.GX.SelR.cons | (with_reducible apply Go.GX.TakeR.head) | apply Go.GX.TakeR.tail)); done) | (repeat (first | apply Go.GX.SelR.nil | apply Go.GX.SelR.cons | apply Go.GX.TakeR.head | apply Go.GX.TakeR.tail))) ?_; intro wd F hW hR
      refine GX.wT ?_; intros
      refine GX.gow ?_
      refine (cl (rfields_spec _ t hs) fun s => ?_)
      obtain ⟨aF, cF⟩ := s
      dsimp only
      refine GX.wT ?_; intros
      refine GX.gow ?_
      refine (cl (rfrom_spec aF aL cF cL (flds t) (rootsTo u (pars u)) (by omega)) fun s => ?_)
      obtain ⟨aR, cR⟩ := s
      dsimp only
      refine frz aR ?_
      refine GX.wT ?_; intros
      refine GX.gow ?_
      refine (cl (rglobal_spec _ t hs) fun s => ?_)
      obtain ⟨aG, cG⟩ := s
      dsimp only
      refine GX.wT ?_; intros
      refine GX.gow ?_
      refine (cl (minus_spec aR aG cR cG (fromL (flds t) (rootsTo u (pars u))) (glob t) (by have := fromL_len (flds t) (rootsTo u (pars u)); omega)) fun s => ?_)
      obtain ⟨aM, cM⟩ := s
      dsimp only
      rw [outOf_minus]
      refine GX.wT ?_; intros
      refine GX.wR ?_; intros
      refine frz aM ?_
      exact rt1 (aM, cM) rfl

theorem rcall_spec (c1 c2 c3 : List Value) (t : RTg) (u : Unt) (i : Ins) : Does Tryz.prog 93 [.agg c1.toArray, .agg c2.toArray, .agg c3.toArray] [Ag tyRTg c1 t, Ag tyUnt c2 u, Ag tyIns c3 i] []
    (fun _ : Unit => .bool (decide (RCall t u i))) (fun _ => []) (fun _ => []) := by
  refine enter Tryz.func93 rfl Tryz.ntmps93 rfl fun b => ?_
  by_cases h1 : i.c < 0
  · have e : ¬ RCall t u i := by unfold RCall; rw [gt_out (.inl h1)]; exact id
    refine GX.wR ?_; intros
    exact rt1 () (vN e)
  by_cases h2 : (t.units.length : Int) ≤ i.c
  · have e : ¬ RCall t u i := by unfold RCall; rw [gt_out (.inr h2)]; exact id
    refine GX.wR ?_; intros
    exact rt1 () (vN e)
  obtain ⟨g, hg, k, hk, hkl, hg2⟩ := gt_in (l := t.units) (n := i.c) ⟨by omega, by omega⟩
  have e : RCall t u i ↔ (0 ≤ g.params ∧ g.params ≤ (g.vars.length : Int) ∧ (i.args.length : Int) = g.params ∧ (∀ p ∈ i.args.zip g.vars, rof u p.1 ≠ -4 ∧ RInto p.2 (rof u p.1))) ∧ (i.a = -1 ∨ rof u i.a ≠ -4 ∧ g.result ≠ -3 ∧ RInto (rof u i.a) g.result) := by unfold RCall; rw [hg]
  by_cases h3 : g.params < 0
  · refine GX.wR ?_; intros
    exact rt1 () (vN fun h => by have := (e.1 h).1.1; omega)
  by_cases h4 : (g.vars.length : Int) < g.params
  · refine GX.wR ?_; intros
    exact rt1 () (vN fun h => by have := (e.1 h).1.2.1; omega)
  by_cases h5 : (i.args.length : Int) = g.params
  · refine GX.wR ?_; intros
    refine GX.nmP 4 ?_; rintro b4 rfl
    refine GX.nmP 5 ?_; rintro b5 rfl
    refine GX.nmP 7 ?_; rintro b7 rfl
    refine frzB b7 ?_
    refine GX.loop (σ := Nat) (fun k => [(4, .pointer (some ⟨b4, 0, none⟩)), (5, .pointer (some ⟨b5, 0, none⟩)), (7, .pointer (some ⟨b7, 0, none⟩)), (8, .int .i64 (k : Int))]) (fun _ => []) (fun _ => [])
      (fun k => k ≤ i.args.length ∧ ∀ p ∈ (i.args.zip g.vars).take k, rof u p.1 ≠ -4 ∧ RInto p.2 (rof u p.1)) (fun k => i.args.length - k) 0 ⟨rfl, rfl, rfl, rfl, trivial⟩ ⟨by omega, by simp⟩ (fun k hk => ?_)
    obtain ⟨hk, hA⟩ := hk
    have hzl : (i.args.zip g.vars).length = i.args.length := by rw [List.length_zip]; omega
    by_cases hlt : k < i.args.length
    · obtain ⟨a, ha⟩ := get_lt hlt
      obtain ⟨w, hw⟩ := get_lt (show k < g.vars.length by omega)
      have hz : (i.args.zip g.vars)[k]? = some (a, w) := by rw [List.getElem?_zip_eq_some]; exact ⟨ha, hw⟩
      refine GX.wR ?_; intros
      refine GX.drawn0  (fun j => !(List.contains [6] j)) [(0, true), (1, true), (2, true), (3, true), (4, true), (5, true), (6, false), (7, true)] rfl (by kernel_rfl) (by kernel_rfl) (by first | ((repeat (first | apply Go.GX.SelR.nil | apply Go.GX.SelR.cons | (with_reducible apply Go.GX.TakeR.head) | apply Go.GX.TakeR.tail)); done) | (repeat (first | apply Go.GX.SelR.nil | apply Go.GX.SelR.cons | apply Go.GX.TakeR.head | apply Go.GX.TakeR.tail))) ?_; intro wd F hW hR
      refine GX.wT ?_; intros
      refine GX.gow ?_
      refine (cl (rof_spec _ u a) fun _ => ?_)
      refine GX.wT ?_; intros
      by_cases h6 : rof u a = -4
      · refine GX.wR ?_; intros
        exact rt1 () (vN fun h => ((e.1 h).1.2.2.2 (a, w) (List.mem_of_getElem? hz)).1 h6)
      · refine GX.wR ?_; intros
        refine GX.o (cl (rinto_spec w _) fun _ => ?_)
        by_cases h7 : RInto w (rof u a)
        · have h7' := Classical.not_not.2 h7
          refine GX.wR ?_; intros
          refine again (k + 1) ⟨rfl, rfl, rfl, rfl, trivial⟩ ⟨by omega, fun p hp => ?_⟩ (by omega)
          rw [List.take_add_one, hz, List.mem_append] at hp
          rcases hp with hp | hp
          · exact hA p hp
          · simp at hp; subst hp; exact ⟨h6, h7⟩
        · refine GX.wR ?_; intros
          exact rt1 () (vN fun h => h7 ((e.1 h).1.2.2.2 (a, w) (List.mem_of_getElem? hz)).2)
    · rw [List.take_of_length_le (by omega)] at hA
      have hh : 0 ≤ g.params ∧ g.params ≤ (g.vars.length : Int) ∧ (i.args.length : Int) = g.params ∧ (∀ p ∈ i.args.zip g.vars, rof u p.1 ≠ -4 ∧ RInto p.2 (rof u p.1)) := ⟨by omega, by omega, h5, hA⟩
      by_cases h6 : i.a = -1
      · refine GX.wR ?_; intros
        exact rt1 () (vY (e.2 ⟨hh, .inl h6⟩))
      · refine GX.wR ?_; intros
        refine GX.o (cl (rof_spec _ u _) fun _ => ?_)
        by_cases h7 : rof u i.a = -4
        · refine GX.wR ?_; intros
          exact rt1 () (vN fun h => (e.1 h).2.elim h6 (fun h => h.1 h7))
        · by_cases h8 : g.result = -3
          · refine GX.wR ?_; intros
            exact rt1 () (vN fun h => (e.1 h).2.elim h6 (fun h => h.2.1 h8))
          · refine GX.wR ?_; intros
            refine GX.o (cl (rinto_spec _ g.result) fun _ => ?_)
            refine GX.wR ?_; intros
            exact rt1 () (vI (e.trans ⟨fun h => h.2.elim (fun h => absurd h h6) (fun h => h.2.2), fun h => ⟨hh, .inr ⟨h7, h8, h⟩⟩⟩))
  · refine GX.wR ?_; intros
    exact rt1 () (vN fun h => h5 (e.1 h).1.2.2.1)
set_option maxHeartbeats 2000000 in
theorem named_spec (cs : List Value) (i : Ins) : Does Tryz.prog 87 [.agg cs.toArray] [Ag tyIns cs i] []
    (fun _ : Unit => .bool (decide (Named i))) (fun _ => []) (fun _ => []) := by
  refine enter Tryz.func87 rfl Tryz.ntmps87 rfl fun b => ?_
  refine GX.wRB ?_; intros
  refine GX.nmP 1 ?_; rintro b1 rfl
  refine GX.cut (σ := Unit) (fun _ => [(1, .pointer (some ⟨b1, 0, none⟩)), (3, .bool (rnames i.op).2.1), (4, .bool (rnames i.op).2.2.1), (5, .bool (rnames i.op).2.2.2.1), (6, .bool (rnames i.op).2.2.2.2), (7, .bool (rnames i.op).1)]) (fun _ => []) (fun _ => []) (fun _ => True) ?_ (fun _ _ => ?_)
  · repeat' (first | (apply GX.s_list; first | apply GX.nil | (refine GX.o ?_; first | (apply GX.k_load; first | refine GX.lr ?_ | refine GX.lrA ?_ | refine GX.ln ?_ | refine GX.lb ?_ | refine GX.lh ?_ | (refine GX.ls ?_; intro ao cap _ _) | (refine GX.lA ?_; intro cs) | (refine GX.l0 ?_; intro cs) | refine GX.o1n ?_ | refine GX.o1b ?_ | refine GX.o1h ?_ | (refine GX.o1s ?_; intro ao cap _ _) | refine GX.omn ?_ | refine GX.omb ?_ | refine GX.omh ?_ | (refine GX.oms ?_; intro ao cap _ _) | refine GX.ofn ?_ | refine GX.ofb ?_ | refine GX.ofh ?_ | (refine GX.ofs ?_; intro ao cap _ _) | (refine GX.oA ?_; intro cs)) | (apply GX.k_move; refine GX.m ?_) | (apply GX.k_assign; refine GX.a ?_) | (apply GX.k_fieldAddr; first | refine GX.f0 ?_ | refine GX.fh ?_ | refine GX.fa ?_) | (apply GX.k_call; refine GX.c_len ?_) | (apply GX.k_pick; first | refine GX.pt ?_ | refine GX.pf ?_ | refine GX.pk ?_) | (apply GX.k_box; first | (refine GX.bxF ?_; intro _) | (refine GX.bxR ?_; intro _)) | (apply GX.k_binOp_eql; first | refine GX.b_eql ?_ | refine GX.b_pn ?_ | refine GX.b_nn ?_ | refine GX.b_snn ?_ | refine GX.b_sns ?_ | refine GX.b_eqls ?_ | refine GX.b_eqltf ?_ | refine GX.b_eqlft ?_ | refine GX.b_eqlb ?_)) | refine GX.gt ?_ | refine GX.gf ?_ | refine GX.gbt ?_ | refine GX.gbf ?_ | refine GX.un ?_ | refine GX.un0 ?_ | (refine GX.gs ?_ ?_ <;> intro _) | (refine GX.gsb ?_ ?_ <;> intro _)) | apply GX.then_normal | apply GX.seq | apply GX.region | (apply GX.s_cond; first | refine GX.ct ?_ | refine GX.cf ?_ | refine GX.cdf ?_ | refine GX.cdt ?_ | refine GX.cbt ?_ | refine GX.cbf ?_ | (refine GX.cs ?_ ?_ <;> intro _) | (refine GX.csb ?_ ?_ <;> intro _)) | apply GX.skip | apply GX.block | apply GX.inBlock_normal | apply GX.exit | apply GX.then_exit | apply GX.inBlock_exit | refine GX.ibo ?_ | apply GX.ret | apply GX.then_ret | apply GX.inBlock_ret)
    all_goals refine meet () ⟨rfl, (rfl : RX.lk _ 3 = some (.bool _)).trans ?_, (rfl : RX.lk _ 4 = some (.bool _)).trans ?_, (rfl : RX.lk _ 5 = some (.bool _)).trans ?_, (rfl : RX.lk _ 6 = some (.bool _)).trans ?_, (rfl : RX.lk _ 7 = some (.bool _)).trans ?_, trivial⟩ trivial
    all_goals (unfold rnames; simp_all)
  · have e : Named i ↔ Only i (rnames i.op).1 (rnames i.op).2.1 (rnames i.op).2.2.1 (rnames i.op).2.2.2.1 (rnames i.op).2.2.2.2 := Iff.rfl
    generalize rnames i.op = x at *
    obtain ⟨a, c, d, n, g⟩ := x
    dsimp only at *
    have eg : (i.args.length : Int) = 0 ↔ i.args = [] := by rw [← List.length_eq_zero_iff]; omega
    repeat' (first | (apply GX.s_list; first | apply GX.nil | (refine GX.o ?_; first | (apply GX.k_load; first | refine GX.lr ?_ | refine GX.lrA ?_ | refine GX.ln ?_ | refine GX.lb ?_ | refine GX.lh ?_ | (refine GX.ls ?_; intro ao cap _ _) | (refine GX.lA ?_; intro cs) | (refine GX.l0 ?_; intro cs) | refine GX.o1n ?_ | refine GX.o1b ?_ | refine GX.o1h ?_ | (refine GX.o1s ?_; intro ao cap _ _) | refine GX.omn ?_ | refine GX.omb ?_ | refine GX.omh ?_ | (refine GX.oms ?_; intro ao cap _ _) | refine GX.ofn ?_ | refine GX.ofb ?_ | refine GX.ofh ?_ | (refine GX.ofs ?_; intro ao cap _ _) | (refine GX.oA ?_; intro cs)) | (apply GX.k_move; refine GX.m ?_) | (apply GX.k_assign; refine GX.a ?_) | (apply GX.k_fieldAddr; first | refine GX.f0 ?_ | refine GX.fh ?_ | refine GX.fa ?_) | (apply GX.k_call; refine GX.c_len ?_) | (apply GX.k_pick; first | refine GX.pt ?_ | refine GX.pf ?_ | refine GX.pk ?_) | (apply GX.k_box; first | (refine GX.bxF ?_; intro _) | (refine GX.bxR ?_; intro _)) | (apply GX.k_binOp_eql; first | refine GX.b_eql ?_ | refine GX.b_pn ?_ | refine GX.b_nn ?_ | refine GX.b_snn ?_ | refine GX.b_sns ?_ | refine GX.b_eqls ?_ | refine GX.b_eqltf ?_ | refine GX.b_eqlft ?_ | refine GX.b_eqlb ?_)) | refine GX.gt ?_ | refine GX.gf ?_ | refine GX.gbt ?_ | refine GX.gbf ?_ | refine GX.un ?_ | refine GX.un0 ?_ | (refine GX.gs ?_ ?_ <;> intro _) | (refine GX.gsb ?_ ?_ <;> intro _)) | apply GX.then_normal | apply GX.seq | apply GX.region | (apply GX.s_cond; first | refine GX.ct ?_ | refine GX.cf ?_ | refine GX.cdf ?_ | refine GX.cdt ?_ | refine GX.cbt ?_ | refine GX.cbf ?_ | (refine GX.cs ?_ ?_ <;> intro _) | (refine GX.csb ?_ ?_ <;> intro _)) | apply GX.skip | apply GX.block | apply GX.inBlock_normal | apply GX.exit | apply GX.then_exit | apply GX.inBlock_exit | refine GX.ibo ?_ | apply GX.ret | apply GX.then_ret | apply GX.inBlock_ret)
    all_goals first
      | exact rt1 () (vI (Q := ((i.args.length : Int) = 0)) (e.trans (by unfold Only; simp_all)))
      | exact rt1 () (vY (e.2 (by unfold Only; simp_all)))
      | exact rt1 () (vN (fun h => absurd (e.1 h) (by unfold Only; simp_all)))
end Go.Proofs.YtomadjefdghliaaGreat
