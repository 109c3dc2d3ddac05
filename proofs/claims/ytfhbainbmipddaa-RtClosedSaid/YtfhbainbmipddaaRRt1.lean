/- The walks over the small functions of the reference of chapter 26. -/
import Derived.Test.YtfhbainbmipddaaIn
import Derived.Test.YtfhbainbmipddaaRt8
import Derived.Test.YtfhbainbmipddaaRtRef
namespace Go.Proofs.Ytfhbainbmipddaa
open Go Go.RR Go.RX Go.GX Go.Api Go.RiseM Go.ReachM Go.RtM
attribute [local irreducible] wpList Code.wp wpPlan Exit.then Exit.inBlock bodyPost NoPanic Went GX.Post GX.Again GX.Meet GX.RowR GX.Own GX.Owns GX.Box GX.Sl GX.Pt GX.Ag GX.MapR GX.Kept GX.Pin wpT GoK AtEnd Both

theorem entry_spec (cs : List Value) (t : RTg) (n : Int) : Does Try.prog 46 [.agg cs.toArray, .int .i64 n] [Ag tyRTg cs t] [] (fun _ : Unit => .bool (decide (IsEntry t n))) (fun _ => []) (fun _ => []) := by
  refine enter Try.func46 rfl Try.ntmps46 rfl fun b => ?_
  have e := rentry_iff t n
  by_cases h : -2 ≤ n
  · refine GX.wR ?_; intros
    exact rt1 () (vI (e.symm.trans ⟨fun h => h.2, fun h2 => ⟨h, h2⟩⟩))
  · refine GX.wR ?_; intros
    exact rt1 () (vN fun h2 => h (e.2 h2).1)
theorem rentries_spec (cs : List Value) (t : RTg) (ao : Option Addr) (cap : Nat) (l : List Int) : Does Try.prog 31 [.agg cs.toArray, .slice ao l.length cap] [Sl Ty.int ao cap l, Ag tyRTg cs t] [] (fun _ : Unit => .bool (decide (Entries t l))) (fun _ => []) (fun _ => []) := by
  refine enter Try.func31 rfl Try.ntmps31 rfl fun b => ?_
  refine sln ao fun hl1 hl2 _ => ?_
  refine GX.wR ?_; intros
  refine GX.nmP 2 ?_; rintro b2 rfl
  refine GX.loop (σ := Nat) (fun i => [(1, .slice ao l.length cap), (2, .pointer (some ⟨b2, 0, none⟩)), (5, .int .i64 (i : Int))]) (fun _ => []) (fun _ => [])
    (fun i => i ≤ l.length ∧ ∀ x ∈ l.take i, IsEntry t x) (fun i => l.length - i) 0 ⟨rfl, rfl, rfl, trivial⟩ ⟨by omega, by simp⟩ (fun i hi => ?_)
  obtain ⟨hi, hA⟩ := hi
  by_cases hlt : i < l.length
  · obtain ⟨x, hx⟩ := get_lt hlt
    refine GX.wR ?_; intros
    refine GX.drawn0  (fun j => !(List.contains [5] j)) [(0, true), (1, true), (2, true), (3, true), (4, true), (5, false), (6, true)] rfl (by kernel_rfl) (by kernel_rfl) (by first | ((repeat (first | apply Go.GX.SelR.nil | apply Go.GX.SelR.cons | (with_reducible apply Go.GX.TakeR.head) | apply Go.GX.TakeR.tail)); done) | (repeat (first | apply Go.GX.SelR.nil | apply Go.GX.SelR.cons | apply Go.GX.TakeR.head | apply Go.GX.TakeR.tail))) ?_; intro wd F hW hR
    refine GX.wT ?_; intros
    refine GX.gow ?_
    refine (cl (entry_spec _ t x) fun _ => ?_)
    refine GX.wT ?_; intros
    by_cases h : IsEntry t x
    · have h' := Classical.not_not.2 h
      refine GX.wR ?_; intros
      refine again (i + 1) ⟨rfl, rfl, rfl, trivial⟩ ⟨by omega, fun y hy => ?_⟩ (by omega)
      rw [List.take_add_one, hx, List.mem_append] at hy
      rcases hy with hy | hy
      · exact hA y hy
      · simp at hy; subst hy; exact h
    · refine GX.wR ?_; intros
      exact rt1 () (vN fun h2 => h (h2 x (List.mem_of_getElem? hx)))
  · rw [List.take_of_length_le (by omega)] at hA
    refine GX.wR ?_; intros
    exact rt1 () (vY hA)
theorem rinto_spec (a c : Int) : Does Try.prog 51 [.int .i64 a, .int .i64 c] [] [] (fun _ : Unit => .bool (decide (RInto a c))) (fun _ => []) (fun _ => []) := by
  refine enter Try.func51 rfl Try.ntmps51 rfl fun b => ?_
  have e : RInto a c ↔ if a = -2 ∨ c = -2 then a = c else c = a ∨ c = -1 := Iff.rfl
  by_cases h1 : a = -2
  · rw [if_pos (.inl h1)] at e
    refine GX.wR ?_; intros
    exact rt1 () (vI e)
  · by_cases h2 : c = -2
    · rw [if_pos (.inr h2)] at e
      refine GX.wR ?_; intros
      exact rt1 () (vI e)
    · rw [if_neg (by omega)] at e
      by_cases h3 : c = a
      · refine GX.wR ?_; intros
        exact rt1 () (vY (e.2 (.inl h3)))
      · refine GX.wR ?_; intros
        exact rt1 () (vI (e.trans ⟨fun h => h.elim (fun h => absurd h h3) id, .inr⟩))
theorem rof_spec (cs : List Value) (u : Unt) (n : Int) : Does Try.prog 50 [.agg cs.toArray, .int .i64 n] [Ag tyUnt cs u] [] (fun _ : Unit => .int .i64 (rof u n)) (fun _ => []) (fun _ => []) := by
  refine enter Try.func50 rfl Try.ntmps50 rfl fun b => ?_
  by_cases h : n < 0
  · have e : rof u n = -4 := by unfold rof; rw [gt_out (.inl h)]; rfl
    rw [e]
    refine GX.wR ?_; intros
    exact rt1 () rfl
  · by_cases h2 : (u.vars.length : Int) ≤ n
    · have e : rof u n = -4 := by unfold rof; rw [gt_out (.inr h2)]; rfl
      rw [e]
      refine GX.wR ?_; intros
      exact rt1 () rfl
    · obtain ⟨x, hx, k, rfl, hk, hx2⟩ := gt_in (l := u.vars) (n := n) ⟨by omega, by omega⟩
      have e : rof u k = x := by unfold rof; rw [hx]; rfl
      rw [e]
      refine GX.wR ?_; intros
      exact rt1 () rfl
theorem rclass_spec (cs : List Value) (t : RTg) (c : Int) (arr : Bool) : Does Try.prog 54 [.agg cs.toArray, .int .i64 c, .bool arr] [Ag tyRTg cs t] [] (fun _ : Unit => .bool (decide (RClass t c arr))) (fun _ => []) (fun _ => []) := by
  refine enter Try.func54 rfl Try.ntmps54 rfl fun b => ?_
  by_cases h : c < 0
  · have e : ¬ RClass t c arr := by unfold RClass; rw [gt_out (.inl h)]; exact id
    refine GX.wR ?_; intros
    exact rt1 () (vN e)
  · by_cases h2 : (t.classes.length : Int) ≤ c
    · have e : ¬ RClass t c arr := by unfold RClass; rw [gt_out (.inr h2)]; exact id
      refine GX.wR ?_; intros
      exact rt1 () (vN e)
    · obtain ⟨L, hL, k, rfl, hk, hx2⟩ := gt_in (l := t.classes) (n := c) ⟨by omega, by omega⟩
      have e : RClass t k arr ↔ L.arr = arr := by unfold RClass; rw [hL]
      have e2 : decide (RClass t k arr) = (L.arr == arr) := by
        rw [Bool.eq_iff_iff, decide_eq_true_eq, beq_iff_eq]; exact e
      rw [e2]
      refine GX.wR ?_; intros
      exact rt1 () rfl
theorem record_spec (cs : List Value) (t : RTg) (e k : Int) (he : e < (t.classes.length : Int)) : Does Try.prog 52 [.agg cs.toArray, .int .i64 e, .int .i64 k] [Ag tyRTg cs t] []
    (fun _ : Unit => .tuple #[.int .i64 (record t e k).1, .bool (record t e k).2]) (fun _ => []) (fun _ => []) := by
  refine enter Try.func52 rfl Try.ntmps52 rfl fun b => ?_
  have none : ∀ {x}, (¬ (e = -1 ∧ 0 ≤ k ∧ k < 8)) → gt t.classes e = none → x = record t e k → x = (-4, false) := fun h1 h2 h3 => by rw [h3]; unfold record; rw [if_neg h1, h2]
  by_cases h1 : e = -1
  · have hg : gt t.classes e = Option.none := gt_out (.inl (by omega))
    by_cases h2 : 0 ≤ k
    · by_cases h3 : k < 8
      · have e1 : record t e k = (-4, true) := by unfold record; rw [if_pos ⟨h1, h2, h3⟩]
        rw [e1]
        refine GX.wR ?_; intros
        exact rt2 () rfl
      · rw [none (fun h => h3 h.2.2) hg rfl]
        refine GX.wR ?_; intros
        exact rt2 () rfl
    · rw [none (fun h => h2 h.2.1) hg rfl]
      refine GX.wR ?_; intros
      exact rt2 () rfl
  · have hn : ¬ (e = -1 ∧ 0 ≤ k ∧ k < 8) := fun h => h1 h.1
    by_cases h2 : e < 0
    · rw [none hn (gt_out (.inl h2)) rfl]
      refine GX.wR ?_; intros
      exact rt2 () rfl
    · obtain ⟨L, hL, j, rfl, hj, hx2⟩ := gt_in (l := t.classes) (n := e) ⟨by omega, he⟩
      by_cases h3 : L.arr = true
      · rw [record_arr hn hL h3]
        refine GX.wR ?_; intros
        exact rt2 () rfl
      · have h3' : L.arr = false := by simpa using h3
        by_cases h4 : k < 0
        · rw [record_out hn hL h3 (gt_out (.inl h4))]
          refine GX.wR ?_; intros
          exact rt2 () rfl
        · by_cases h5 : (L.refs.length : Int) ≤ k
          · rw [record_out hn hL h3 (gt_out (.inr h5))]
            refine GX.wR ?_; intros
            exact rt2 () rfl
          · obtain ⟨x, hx, m, rfl, hm, hx3⟩ := gt_in (l := L.refs) (n := k) ⟨by omega, by omega⟩
            rw [record_some hn hL h3 hx]
            refine GX.wR ?_; intros
            exact rt2 () rfl
theorem array_spec (cs : List Value) (t : RTg) (e : Int) (he : e < (t.classes.length : Int)) (hl : ∀ L ∈ t.classes, L.arr = true → L.refs.length = 1) : Does Try.prog 53 [.agg cs.toArray, .int .i64 e] [Ag tyRTg cs t] []
    (fun _ : Unit => .tuple #[.int .i64 (array t e).1, .bool (array t e).2]) (fun _ => []) (fun _ => []) := by
  refine enter Try.func53 rfl Try.ntmps53 rfl fun b => ?_
  by_cases h1 : e = -1
  · have e1 : array t e = (-4, true) := by unfold array; rw [if_pos h1]
    rw [e1]
    refine GX.wR ?_; intros
    exact rt2 () rfl
  · by_cases h2 : e < 0
    · have e1 : array t e = (-4, false) := by unfold array; rw [if_neg h1, gt_out (.inl h2)]
      rw [e1]
      refine GX.wR ?_; intros
      exact rt2 () rfl
    · obtain ⟨L, hL, j, rfl, hj, hx2⟩ := gt_in (l := t.classes) (n := e) ⟨by omega, he⟩
      by_cases h3 : L.arr = true
      · have h4 := hl L (List.mem_of_getElem? hx2) h3
        have hb : (!L.arr) = false := by rw [h3]; rfl
        obtain ⟨x, hx⟩ := get_lt (show 0 < L.refs.length by omega)
        rw [array_some h1 hL h3 (show gt L.refs 0 = some x from hx)]
        refine GX.wR ?_; intros
        exact rt2 () rfl
      · have hb : (!L.arr) = true := by simpa using h3
        rw [array_rec h1 hL h3]
        refine GX.wR ?_; intros
        exact rt2 () rfl
end Go.Proofs.Ytfhbainbmipddaa
