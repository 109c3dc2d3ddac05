/- The walk over Right of the reference of chapter 26. -/
import Derived.Test.YtfhbainbmipddaaRRt4
namespace Go.Proofs.Ytfhbainbmipddaa
open Go Go.RR Go.RX Go.GX Go.Api Go.RiseM Go.ReachM Go.RtM
attribute [local irreducible] wpList Code.wp wpPlan Exit.then Exit.inBlock bodyPost NoPanic Went GX.Post GX.Again GX.Meet GX.RowR GX.Own GX.Owns GX.Box GX.Sl GX.Pt GX.Ag GX.MapR GX.Kept GX.Pin wpT GoK AtEnd Both

theorem hds_of {t : RTg} {u : Unt} (hu : u ∈ t.units) (h1 : ∀ L ∈ t.classes, LayoutOk t L) (h2 : Entries t t.globals) (h3 : ∀ u ∈ t.units, UnitHd t u) : Hds t u :=
  ⟨h1, (h3 u hu).2.1, (h3 u hu).2.2.1, h2, fun g hg => ⟨(h3 g hg).2.1, (h3 g hg).2.2.1, (h3 g hg).1.1⟩⟩
/-- Right, as the reference tests it. -/
theorem right_ref {t : RTg} (h0 : t.classes.length ≤ 60 ∧ t.globals.length ≤ 8 ∧ t.units.length ≠ 0 ∧ t.units.length ≤ 16) (h1 : ∀ L ∈ t.classes, LayoutOk t L) (h2 : Entries t t.globals) (h3 : insOf t.units ≤ 16000) (h4 : ∀ u ∈ t.units, UnitHd t u) (h5 : ∀ u ∈ t.units, ∀ i ∈ u.ins, Step t u i) : RightP t ↔ MainOk t :=
  ⟨fun h => h.2.1, fun h => ⟨h0, h, h1, h2, h3, fun u hu => ⟨h4 u hu, fun i hi => (fits_step (hds_of hu h1 h2 h4) i).2 (h5 u hu i hi)⟩⟩⟩
theorem all_snoc {α : Type} {P : α → Prop} {l : List α} {i : Nat} {x : α} (hx : l[i]? = some x) (h : ∀ y ∈ l.take i, P y) (hp : P x) : ∀ y ∈ l.take (i + 1), P y := by
  intro y hy
  rw [List.take_add_one, hx, List.mem_append] at hy
  rcases hy with hy | hy
  · exact h y hy
  · simp at hy; subst hy; exact hp
set_option maxHeartbeats 4000000 in
theorem rright_spec (cs : List Value) (t : RTg) (hs : Small t) : Does Try.prog 12 [.agg cs.toArray] [Ag tyRTg cs t] [] (fun _ : Unit => .bool (decide (RightP t))) (fun _ => []) (fun _ => []) := by
  refine enter Try.func12 rfl Try.ntmps12 rfl fun b => ?_
  by_cases h1 : 60 < (t.classes.length : Int)
  · refine GX.wR ?_; intros
    exact rt1 () (vN fun h => by have := h.1.1; omega)
  by_cases h2 : 8 < (t.globals.length : Int)
  · refine GX.wR ?_; intros
    exact rt1 () (vN fun h => by have := h.1.2.1; omega)
  refine GX.wR ?_; intros
  refine GX.nmP 1 ?_; rintro b1 rfl
  refine GX.nmS 22 ?_; rintro aG cG rfl rfl
  refine GX.o (cl (rentries_spec _ t aG cG t.globals) fun _ => ?_)
  by_cases h3 : Entries t t.globals
  rotate_left
  · refine GX.wR ?_; intros
    exact rt1 () (vN fun h => h3 h.2.2.2.1)
  have h3' := Classical.not_not.2 h3
  by_cases h4 : (t.units.length : Int) < 1
  · refine GX.wR ?_; intros
    exact rt1 () (vN fun h => by have := h.1.2.2.1; omega)
  by_cases h5 : 16 < (t.units.length : Int)
  · refine GX.wR ?_; intros
    exact rt1 () (vN fun h => by have := h.1.2.2.2; omega)
  have h0 : t.classes.length ≤ 60 ∧ t.globals.length ≤ 8 ∧ t.units.length ≠ 0 ∧ t.units.length ≤ 16 := by omega
  refine GX.wR ?_; intros
  refine GX.loop (σ := Nat) (fun i => [(1, .pointer (some ⟨b1, 0, none⟩)), (3, .int .i64 (i : Int))]) (fun _ => []) (fun _ => [])
    (fun i => i ≤ t.classes.length ∧ ∀ L ∈ t.classes.take i, LayoutOk t L) (fun i => t.classes.length - i) 0 ⟨rfl, rfl, trivial⟩ ⟨by omega, by simp⟩ (fun i hi => ?_)
  obtain ⟨hi, hA⟩ := hi
  by_cases hlt : i < t.classes.length
  · obtain ⟨L, hL⟩ := get_lt hlt
    have hm := List.mem_of_getElem? hL
    by_cases g1 : 8 < (L.refs.length : Int)
    · refine GX.wR ?_; intros
      exact rt1 () (vN fun h => by have := (h.2.2.1 L hm).1; omega)
    by_cases g2 : L.arr = true
    · by_cases g3 : (L.refs.length : Int) = 1
      · have g3' := Classical.not_not.2 g3
        refine GX.wR ?_; intros
        refine GX.nmS 67 ?_; rintro aR cR rfl rfl
        refine GX.o (cl (rentries_spec _ t aR cR L.refs) fun _ => ?_)
        by_cases g4 : Entries t L.refs
        · have g4' := Classical.not_not.2 g4
          refine GX.wR ?_; intros
          exact again (i + 1) ⟨rfl, rfl, trivial⟩ ⟨by omega, all_snoc hL hA ⟨by omega, fun _ => by omega, g4⟩⟩ (by omega)
        · refine GX.wR ?_; intros
          exact rt1 () (vN fun h => g4 (h.2.2.1 L hm).2.2)
      · refine GX.wR ?_; intros
        exact rt1 () (vN fun h => g3 (by have := (h.2.2.1 L hm).2.1 g2; omega))
    · have g2' : L.arr = false := by simpa using g2
      refine GX.wR ?_; intros
      refine GX.nmS 67 ?_; rintro aR cR rfl rfl
      refine GX.o (cl (rentries_spec _ t aR cR L.refs) fun _ => ?_)
      by_cases g4 : Entries t L.refs
      · have g4' := Classical.not_not.2 g4
        refine GX.wR ?_; intros
        exact again (i + 1) ⟨rfl, rfl, trivial⟩ ⟨by omega, all_snoc hL hA ⟨by omega, fun h => absurd h g2, g4⟩⟩ (by omega)
      · refine GX.wR ?_; intros
        exact rt1 () (vN fun h => g4 (h.2.2.1 L hm).2.2)
  rw [List.take_of_length_le (by omega)] at hA
  clear hi
  refine GX.wR ?_; intros
  refine GX.loop (σ := Nat) (fun i => [(1, .pointer (some ⟨b1, 0, none⟩)), (5, .int .i64 ((insOf (t.units.take i) : Nat) : Int)), (6, .int .i64 (i : Int))]) (fun _ => []) (fun _ => [])
    (fun i => i ≤ t.units.length ∧ insOf (t.units.take i) ≤ 16000 ∧ ∀ u ∈ t.units.take i, UnitHd t u) (fun i => t.units.length - i) 0 ⟨rfl, rfl, rfl, trivial⟩ ⟨by omega, by simp [insOf], by simp⟩ (fun k hk => ?_)
  obtain ⟨hk, hn, hU⟩ := hk
  by_cases hkl : k < t.units.length
  · obtain ⟨u, hu⟩ := get_lt hkl
    have hm := List.mem_of_getElem? hu
    have hul := (hs.unit u hm).2
    have ht : t.units.take (k + 1) = t.units.take k ++ [u] := by rw [List.take_add_one, hu]; rfl
    have hsn : ((insOf (t.units.take k) : Nat) : Int) + (u.ins.length : Int) = ((insOf (t.units.take (k + 1)) : Nat) : Int) := by rw [ht, insOf_snoc]; omega
    have hle := insOf_take t.units (k + 1)
    refine GX.wR ?_; intros
    rw [hsn]
    by_cases g1 : 16000 < ((insOf (t.units.take (k + 1)) : Nat) : Int)
    · refine GX.wR ?_; intros
      exact rt1 () (vN fun h => by have := h.2.2.2.2.1; omega)
    · refine GX.wR ?_; intros
      refine GX.o (cl (runit_spec _ t hs k u hu) fun _ => ?_)
      by_cases g2 : UnitHd t u
      · have g2' := Classical.not_not.2 g2
        refine GX.wR ?_; intros
        exact again (k + 1) ⟨rfl, rfl, rfl, trivial⟩ ⟨by omega, by omega, all_snoc hu hU g2⟩ (by omega)
      · refine GX.wR ?_; intros
        exact rt1 () (vN fun h => g2 (h.2.2.2.2.2 u hm).1)
  have hkl : k = t.units.length := by omega
  subst hkl
  rw [List.take_length] at hn hU
  clear hk
  refine GX.wR ?_; intros
  refine GX.loop (σ := Nat) (fun i => [(1, .pointer (some ⟨b1, 0, none⟩)), (7, .int .i64 (i : Int))]) (fun _ => []) (fun _ => [])
    (fun i => i ≤ t.units.length ∧ ∀ u ∈ t.units.take i, ∀ x ∈ u.ins, Step t u x) (fun i => t.units.length - i) 0 ⟨rfl, rfl, trivial⟩ ⟨by omega, by simp⟩ (fun k hk => ?_)
  obtain ⟨hk, hS⟩ := hk
  by_cases hkl : k < t.units.length
  · obtain ⟨u, hu⟩ := get_lt hkl
    have hm := List.mem_of_getElem? hu
    have hH := hds_of hm hA h3 hU
    refine GX.wR ?_; intros
    refine GX.loop (σ := Nat) (fun j => [(1, .pointer (some ⟨b1, 0, none⟩)), (7, .int .i64 (k : Int)), (8, .int .i64 (j : Int))]) (fun _ => []) (fun _ => [])
      (fun j => j ≤ u.ins.length ∧ ∀ x ∈ u.ins.take j, Step t u x) (fun j => u.ins.length - j) 0 ⟨rfl, rfl, rfl, trivial⟩ ⟨by omega, by simp⟩ (fun j hj => ?_)
    obtain ⟨hj, hT⟩ := hj
    have hul := (hs.unit u hm).2
    by_cases hjl : j < u.ins.length
    · obtain ⟨x, hx⟩ := get_lt hjl
      refine GX.wR ?_; intros
      refine GX.drawn0  (fun j => !(List.contains [15] j)) [(0, true), (1, true), (2, true), (3, true), (4, true), (5, true), (6, true), (7, true), (8, true), (9, true), (10, true), (11, true), (12, true), (13, true), (14, true), (15, false), (16, true)] rfl (by kernel_rfl) (by kernel_rfl) (by first | ((repeat (first | apply Go.GX.SelR.nil | apply Go.GX.SelR.cons | (with_reducible apply Go.GX.TakeR.head) | apply Go.GX.TakeR.tail)); done) | (repeat (first | apply Go.GX.SelR.nil | apply Go.GX.SelR.cons | apply Go.GX.TakeR.head | apply Go.GX.TakeR.tail))) ?_; intro wd F hW hR
      refine GX.wT ?_; intros
      refine GX.gow ?_
      refine (cl (step_spec _ _ _ t u x hH) fun _ => ?_)
      refine GX.wT ?_; intros
      by_cases g1 : Step t u x
      · have g1' := Classical.not_not.2 g1
        refine GX.wR ?_; intros
        exact again (j + 1) ⟨rfl, rfl, rfl, trivial⟩ ⟨by omega, all_snoc hx hT g1⟩ (by omega)
      · refine GX.wR ?_; intros
        exact rt1 () (vN fun h => g1 ((fits_step hH x).1 ((h.2.2.2.2.2 u hm).2 x (List.mem_of_getElem? hx))))
    · rw [List.take_of_length_le (by omega)] at hT
      refine GX.wR ?_; intros
      exact again (k + 1) ⟨rfl, rfl, trivial⟩ ⟨by omega, all_snoc hu hS hT⟩ (by omega)
  rw [List.take_of_length_le (by omega)] at hS
  clear hk
  have e := right_ref h0 hA h3 hn hU hS
  by_cases g1 : 0 ≤ t.main
  rotate_left
  · have e2 : ¬ MainOk t := by unfold MainOk; rw [gt_out (.inl (by omega))]; exact id
    refine GX.wR ?_; intros
    exact rt1 () (vN fun h => e2 (e.1 h))
  by_cases g2 : t.main < (t.units.length : Int)
  rotate_left
  · have e2 : ¬ MainOk t := by unfold MainOk; rw [gt_out (.inr (by omega))]; exact id
    refine GX.wR ?_; intros
    exact rt1 () (vN fun h => e2 (e.1 h))
  obtain ⟨u, hu, k, hk, hkl, hu2⟩ := gt_in (l := t.units) (n := t.main) ⟨by omega, by omega⟩
  have e2 : MainOk t ↔ u.params = 0 ∧ u.result = -3 := by unfold MainOk; rw [hu]
  by_cases g3 : u.params = 0
  · refine GX.wR ?_; intros
    exact rt1 () (vI (e.trans (e2.trans ⟨fun h => h.2, fun h => ⟨g3, h⟩⟩)))
  · refine GX.wR ?_; intros
    exact rt1 () (vN fun h => g3 (e2.1 (e.1 h)).1)
end Go.Proofs.Ytfhbainbmipddaa
