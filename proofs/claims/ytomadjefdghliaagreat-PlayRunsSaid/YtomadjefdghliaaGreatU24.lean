import Derived.Test.YtomadjefdghliaaGreatU9
import Derived.Test.YtomadjefdghliaaGreatU10
import Derived.Test.YtomadjefdghliaaGreatU22
import Derived.Test.YtomadjefdghliaaGreatU23
import Derived.ProofKit
import Derived.Deep.Slices
import Derived.OpenShut
namespace Go.Proofs.YtomadjefdghliaaGreat
open Go Go.RR Go.RX Go.GX Go.Api Go.RiseM Go.ReachM Go.RtM
attribute [local irreducible] wpList Code.wp wpPlan Exit.then Exit.inBlock bodyPost NoPanic Went GX.Post GX.Again GX.Meet GX.RowR GX.Own GX.Owns GX.Box GX.Sl GX.Pt GX.Ag GX.MapR GX.Kept GX.Pin wpT GoK AtEnd Both
theorem unit1_spec (bl : Nat) (g : List Int) (n : Int) : Does Tryz.prog 130 [.int .i64 n, .pointer (some ⟨bl, 0, none⟩)] [Pt (Ty.slice Ty.int) bl 0 g] [] (fun _ : Unit => .bool (decide (n ∈ g))) (fun _ => []) (fun _ => []) := by
 refine enter Tryz.func130 rfl Tryz.ntmps130 rfl fun b => ?_
 refine GX.wR ?_; intros
 refine GX.nmS 4 ?_; rintro ao cap rfl rfl
 refine GX.o (cl (contains_spec ao cap g n) fun _ => ?_)
 refine GX.wR ?_; intros
 exact rt1 () rfl
theorem unit2_spec (bt bo bg : Nat) (t : RTg) (o g : List Int) (n : Int) : Does Tryz.prog 132 [.int .i64 n, .pointer (some ⟨bt, 0, none⟩), .pointer (some ⟨bo, 0, none⟩), .pointer (some ⟨bg, 0, none⟩)] [Pt tyRTg bt 0 t, Pt (Ty.slice Ty.int) bo 0 o, Pt (Ty.slice Ty.int) bg 0 g] [] (fun _ : Unit => .bool (decide (IsClass t n ∧ n ∉ o ∧ n ∉ g))) (fun _ => []) (fun _ => []) := by
 refine enter Tryz.func132 rfl Tryz.ntmps132 rfl fun b => ?_
 refine GX.wR ?_; intros
 refine GX.o (cl (isClass_spec _ t n) fun _ => ?_)
 by_cases h1 : IsClass t n
 ·refine GX.wR ?_; intros
  refine GX.nmS 10 ?_; rintro ao cap rfl rfl
  refine GX.o (cl (contains_spec ao cap o n) fun _ => ?_)
  by_cases h2 : n ∈ o
  ·have h2' := Classical.not_not.2 h2
   refine GX.wR ?_; intros
   exact rt1 () (vN fun h => h.2.1 h2)
  ·refine GX.wR ?_; intros
   refine GX.nmS 16 ?_; rintro ag cag rfl rfl
   refine GX.o (cl (contains_spec ag cag g n) fun _ => ?_)
   refine GX.wR ?_; intros
   exact rt1 () (vI ⟨fun h => h.2.2, fun h => ⟨h1, h2, h⟩⟩)
 ·refine GX.wR ?_; intros
  exact rt1 () (vN fun h => h1 h.1)
theorem layouts_spec (cs : List Value) (t : RTg) : Does Tryz.prog 38 [.agg cs.toArray] [Ag tyRTg cs t] [] (fun _ : Unit => .bool (decide (∀ L ∈ t.classes, LayoutOk t L))) (fun _ => []) (fun _ => []) := by
 refine enter Tryz.func38 rfl Tryz.ntmps38 rfl fun b => ?_
 refine GX.wR ?_; intros
 refine GX.nmP 1 ?_; rintro b1 rfl
 refine GX.nmS 6 ?_; rintro aC cC rfl rfl
 refine GX.loop (σ := Nat) (fun i => [(1, .pointer (some ⟨b1, 0, none⟩)), (6, .slice aC t.classes.length cC), (7, .int .i64 (t.classes.length : Int)), (8, .int .i64 (i : Int))]) (fun _ => []) (fun _ => [])
  (fun i => i ≤ t.classes.length ∧ ∀ L ∈ t.classes.take i, LayoutOk t L) (fun i => t.classes.length - i) 0 ⟨rfl, rfl, rfl, rfl, trivial⟩ ⟨by omega, by simp⟩ (fun i hi => ?_)
 obtain ⟨hi, hA⟩ := hi
 by_cases hlt : i < t.classes.length
 ·obtain ⟨L, hL⟩ := get_lt hlt
  have hm := List.mem_of_getElem? hL
  have next : LayoutOk t L → ∀ K ∈ t.classes.take (i + 1), LayoutOk t K := fun h K hK => by
   rw [List.take_add_one, hL, List.mem_append] at hK
   rcases hK with hK | hK
   ·exact hA K hK
   ·simp at hK; subst hK; exact h
  by_cases h1 : 8 < (L.refs.length : Int)
  ·refine GX.wR ?_; intros
   exact rt1 () (vN fun h => by have := (h L hm).1; omega)
  by_cases h2 : L.arr = true
  ·by_cases h3 : (L.refs.length : Int) = 1
   ·have h3' := Classical.not_not.2 h3
    refine GX.wR ?_; intros
    refine GX.nmS 29 ?_; rintro aR cR rfl rfl
    refine GX.o (cl (entries_spec _ t aR cR L.refs) fun _ => ?_)
    by_cases h4 : Entries t L.refs
    ·have h4' := Classical.not_not.2 h4
     refine GX.wR ?_; intros
     exact again (i + 1) ⟨rfl, rfl, rfl, rfl, trivial⟩ ⟨by omega, next ⟨by omega, fun _ => by omega, h4⟩⟩ (by omega)
    ·refine GX.wR ?_; intros
     exact rt1 () (vN fun h => h4 (h L hm).2.2)
   ·refine GX.wR ?_; intros
    exact rt1 () (vN fun h => h3 (by have := (h L hm).2.1 h2; omega))
  ·have h2' : L.arr = false := by simpa using h2
   refine GX.wR ?_; intros
   refine GX.nmS 29 ?_; rintro aR cR rfl rfl
   refine GX.o (cl (entries_spec _ t aR cR L.refs) fun _ => ?_)
   by_cases h4 : Entries t L.refs
   ·have h4' := Classical.not_not.2 h4
    refine GX.wR ?_; intros
    exact again (i + 1) ⟨rfl, rfl, rfl, rfl, trivial⟩ ⟨by omega, next ⟨by omega, fun h => absurd h h2, h4⟩⟩ (by omega)
   ·refine GX.wR ?_; intros
    exact rt1 () (vN fun h => h4 (h L hm).2.2)
 ·have hil : i = t.classes.length := by omega
  subst hil
  rw [List.take_length] at hA
  refine GX.wR ?_; intros
  exact rt1 () (vY hA)
theorem upP_dec {Q : Int → Prop} [DecidablePred Q] (l : List Int) : UpP (fun n => decide (Q n)) l ↔ Rise l ∧ ∀ n ∈ l, Q n := by simp [UpP]
def HdA (t : RTg) (u : Unt) : Prop := (0 ≤ u.params ∧ u.params ≤ 6 ∧ u.params ≤ (u.vars.length : Int) ∧ u.vars.length ≤ 4000) ∧ Entries t u.vars ∧ (u.result = -3 ∨ IsEntry t u.result) ∧ u.ins ≠ []
instance (t : RTg) (u : Unt) : Decidable (HdA t u) := by unfold HdA; infer_instance
theorem outU_spec (cs : List Value) (t : RTg) (hs : Small t) (k : Nat) (u : Unt) (hu : t.units[k]? = some u) : Does Tryz.prog 128 [.agg cs.toArray, .int .i64 (k : Int)] [Ag tyRTg cs t] []
  (fun s : Option Addr × Nat => .slice s.1 (outOf t u).length s.2) (fun s => [Sl Ty.int s.1 s.2 (outOf t u)]) (fun _ => []) := by
 have := out_spec cs t hs k
 rw [out_some hu] at this
 exact this
structure UnS where
 b6 : Nat
 b7 : Nat
set_option maxHeartbeats 2000000 in
theorem unit_spec (cs : List Value) (t : RTg) (hs : Small t) (k : Nat) (u : Unt) (hu : t.units[k]? = some u) : Does Tryz.prog 97 [.agg cs.toArray, .int .i64 (k : Int)] [Ag tyRTg cs t] [] (fun _ : Unit => .bool (decide (UnitOk t u))) (fun _ => []) (fun _ => []) := by
 refine enter Tryz.func97 rfl Tryz.ntmps97 rfl fun b => ?_
 have hkl := (List.getElem?_eq_some_iff.1 hu).1
 have hur := hs.unit u (List.mem_of_getElem? hu)
 refine GX.wRN ?_; intros
 apply GX.region
 refine GX.wRN ?_; intros
 apply GX.region
 refine GX.wRN ?_; intros
 refine GX.nmP 2 ?_; rintro b2 rfl
 refine GX.nmP 5 ?_; rintro b5 rfl
 refine frzB b5 ?_
 refine GX.cut (σ := Bool) (fun p => [(1, .int .i64 (k : Int)), (2, .pointer (some ⟨b2, 0, none⟩)), (5, .pointer (some ⟨b5, 0, none⟩)), (64, .bool p)]) (fun _ => []) (fun _ => []) (fun p => p = decide (¬ HdA t u)) ?_ (fun p hp => ?_)
 ·by_cases h1 : u.params < 0
  ·refine GX.wR ?_; intros
   exact meet true ⟨rfl, rfl, rfl, rfl, trivial⟩ (decide_eq_true (show ¬ HdA t u from fun h => by have := h.1.1; omega)).symm
  by_cases h2 : 6 < u.params
  ·refine GX.wR ?_; intros
   exact meet true ⟨rfl, rfl, rfl, rfl, trivial⟩ (decide_eq_true (show ¬ HdA t u from fun h => by have := h.1.2.1; omega)).symm
  by_cases h3 : (u.vars.length : Int) < u.params
  ·refine GX.wR ?_; intros
   exact meet true ⟨rfl, rfl, rfl, rfl, trivial⟩ (decide_eq_true (show ¬ HdA t u from fun h => by have := h.1.2.2.1; omega)).symm
  by_cases h4 : 4000 < (u.vars.length : Int)
  ·refine GX.wR ?_; intros
   exact meet true ⟨rfl, rfl, rfl, rfl, trivial⟩ (decide_eq_true (show ¬ HdA t u from fun h => by have := h.1.2.2.2; omega)).symm
  refine GX.wR ?_; intros
  refine GX.nmS 43 ?_; rintro aV cV rfl rfl
  refine GX.o (cl (entries_spec _ t aV cV u.vars) fun _ => ?_)
  by_cases h5 : Entries t u.vars
  ·have h5' := Classical.not_not.2 h5
   have ei : (u.ins.length : Int) = 0 ↔ u.ins = [] := by rw [← List.length_eq_zero_iff]; omega
   by_cases h6 : u.result = -3
   ·have h6' := Classical.not_not.2 h6
    refine GX.wR ?_; intros
    refine meet _ ⟨rfl, rfl, rfl, rfl, trivial⟩ (decide_eq_decide.2 (ei.trans ⟨fun h7 h => h.2.2.2 h7, fun h => Classical.byContradiction fun h7 => h ⟨by omega, h5, .inl h6, h7⟩⟩))
   ·refine GX.wR ?_; intros
    refine GX.o (cl (isEntry_spec _ t u.result) fun _ => ?_)
    by_cases h7 : IsEntry t u.result
    ·have h7' := Classical.not_not.2 h7
     refine GX.wR ?_; intros
     refine meet _ ⟨rfl, rfl, rfl, rfl, trivial⟩ (decide_eq_decide.2 (ei.trans ⟨fun h7 h => h.2.2.2 h7, fun h => Classical.byContradiction fun h8 => h ⟨by omega, h5, .inr h7, h8⟩⟩))
    ·refine GX.wR ?_; intros
     exact meet true ⟨rfl, rfl, rfl, rfl, trivial⟩ (decide_eq_true (show ¬ HdA t u from fun h => h.2.2.1.elim h6 h7)).symm
  ·refine GX.wR ?_; intros
   exact meet true ⟨rfl, rfl, rfl, rfl, trivial⟩ (decide_eq_true (show ¬ HdA t u from fun h => h5 h.2.1)).symm
 refine GX.csb (fun hpt => ?_) (fun hpf => ?_)
 ·have hH : ¬ HdA t u := of_decide_eq_true (hp.symm.trans hpt)
  refine GX.wR ?_; intros
  exact rt1 () (vN fun h => hH ⟨h.1.1, h.1.2.1, h.1.2.2.1, h.1.2.2.2.1⟩)
 have hH : HdA t u := Classical.not_not.1 (of_decide_eq_false (hp.symm.trans hpf))
 refine GX.wRN ?_; intros
 refine GX.cut (σ := UnS) (fun s => [(1, .int .i64 (k : Int)), (2, .pointer (some ⟨b2, 0, none⟩)), (5, .pointer (some ⟨b5, 0, none⟩)), (6, .pointer (some ⟨s.b6, 0, none⟩)), (7, .pointer (some ⟨s.b7, 0, none⟩))]) (fun _ => [])
  (fun s => [Box 23 (Ty.slice Ty.int) s.b6 (outOf t u), Box 23 (Ty.slice Ty.int) s.b7 (glob t)]) (fun _ => True) ?_ (fun s _ => ?_)
 ·refine GX.drawnT (fun j => !(List.contains [4, 7, 8] j)) (.br [(0, true), (1, true), (3, true)] (.alt 2 (.br [] (.alt 4 (.br [] (.alt 5 (.lin [(6, false), (7, false), (8, false)]) (.alt 6 (.lin [(5, false), (7, false), (8, false)]) .nil))) (.alt 5 (.br [] (.alt 4 (.lin [(6, false), (7, false), (8, false)]) (.alt 6 (.lin [(4, false), (7, false), (8, false)]) .nil))) (.alt 6 (.br [] (.alt 4 (.lin [(5, false), (7, false), (8, false)]) (.alt 5 (.lin [(4, false), (7, false), (8, false)]) .nil))) .nil)))) (.alt 5 (.br [] (.alt 2 (.br [] (.alt 4 (.lin [(6, false), (7, false), (8, false)]) (.alt 6 (.lin [(4, false), (7, false), (8, false)]) .nil))) (.alt 6 (.lin [(2, false), (4, false), (7, false), (8, false)]) .nil))) (.alt 6 (.br [] (.alt 2 (.br [] (.alt 4 (.lin [(5, false), (7, false), (8, false)]) (.alt 5 (.lin [(4, false), (7, false), (8, false)]) .nil))) (.alt 5 (.lin [(2, false), (4, false), (7, false), (8, false)]) .nil))) .nil)))) (by kernel_rfl) (by kernel_rfl) ?_; intro wd F hW hR
  refine GX.wT ?_; intros
  repeat' first
   | (refine GX.treeA ?_ ?_ <;> (refine GX.wT ?_; intros))
   | (refine GX.gok ?_; refine (cl (outU_spec _ t hs k u hu) fun s => ?_); refine GX.wT ?_; intros)
   | (refine GX.gok ?_; refine (cl (global_spec _ t hs) fun s => ?_); refine GX.wT ?_; intros)
   | (refine GX.gow ?_; refine (cl (outU_spec _ t hs k u hu) fun s => ?_); refine GX.wT ?_; intros)
   | (refine GX.gow ?_; refine (cl (global_spec _ t hs) fun s => ?_); refine GX.wT ?_; intros)
   | (refine GX.wR ?_; intros; exact meet ⟨_, _⟩ ⟨rfl, rfl, rfl, rfl, rfl, trivial⟩ trivial)
 obtain ⟨b6, b7⟩ := s
 dsimp only
 refine frzB b6 ?_
 refine frzB b7 ?_
 refine GX.wR ?_; intros
 refine GX.nmS 71 ?_; rintro aT cT rfl rfl
 refine GX.o (cl (rising_spec aT cT u.takes 130 [.pointer (some ⟨b6, 0, none⟩)] [Pt (Ty.slice Ty.int) b6 0 (outOf t u)] [] (fun n => decide (n ∈ outOf t u)) (fun n _ => unit1_spec b6 (outOf t u) n)) fun _ => ?_)
 refine GX.wR ?_; intros
 refine GX.nmS 75 ?_; rintro aO cO rfl rfl
 refine GX.o (cl (rising_spec aO cO u.owns 132 [.pointer (some ⟨b2, 0, none⟩), .pointer (some ⟨b6, 0, none⟩), .pointer (some ⟨b7, 0, none⟩)] [Pt tyRTg b2 0 t, Pt (Ty.slice Ty.int) b6 0 (outOf t u), Pt (Ty.slice Ty.int) b7 0 (glob t)] [] (fun n => decide (IsClass t n ∧ n ∉ outOf t u ∧ n ∉ glob t)) (fun n _ => unit2_spec b2 b6 b7 t (outOf t u) (glob t) n)) fun _ => ?_)
 have e1 := upP_dec (Q := fun n => n ∈ outOf t u) u.takes
 have e2 := upP_dec (Q := fun n => IsClass t n ∧ n ∉ outOf t u ∧ n ∉ glob t) u.owns
 by_cases h1 : UpP (fun n => decide (n ∈ outOf t u)) u.takes
 ·have h1' := Classical.not_not.2 h1
  by_cases h2 : UpP (fun n => decide (IsClass t n ∧ n ∉ outOf t u ∧ n ∉ glob t)) u.owns
  ·have h2' := Classical.not_not.2 h2
   refine GX.wR ?_; intros
   refine GX.nmS 85 ?_; rintro aI cI rfl rfl
   refine GX.loop (σ := Nat) (fun i => [(2, .pointer (some ⟨b2, 0, none⟩)), (5, .pointer (some ⟨b5, 0, none⟩)), (85, .slice aI u.ins.length cI), (86, .int .i64 (u.ins.length : Int)), (87, .int .i64 (i : Int))]) (fun _ => []) (fun _ => [])
    (fun i => i ≤ u.ins.length ∧ ∀ x ∈ u.ins.take i, Bare x ∧ Fits t u x) (fun i => u.ins.length - i) 0 ⟨rfl, rfl, rfl, rfl, rfl, trivial⟩ ⟨by omega, by simp⟩ (fun i hi => ?_)
   obtain ⟨hi, hA⟩ := hi
   by_cases hlt : i < u.ins.length
   ·obtain ⟨x, hx⟩ := get_lt hlt
    refine GX.wR ?_; intros
    refine GX.o (cl (bare_spec _ x) fun _ => ?_)
    by_cases h3 : Bare x
    ·have h3' := Classical.not_not.2 h3
     refine GX.wR ?_; intros
     refine GX.o (bdv fun cv => ?_)
     refine GX.wR ?_; intros
     refine GX.o (cl (fits_spec cv ⟨t, u, x⟩) fun _ => ?_)
     by_cases h4 : Fits t u x
     ·have h4' := Classical.not_not.2 h4
      refine GX.wR ?_; intros
      refine again (i + 1) ⟨rfl, rfl, rfl, rfl, rfl, trivial⟩ ⟨by omega, fun y hy => ?_⟩ (by omega)
      rw [List.take_add_one, hx, List.mem_append] at hy
      rcases hy with hy | hy
      ·exact hA y hy
      ·simp at hy; subst hy; exact ⟨h3, h4⟩
     ·refine GX.wR ?_; intros
      exact rt1 () (vN fun h => h4 (h.2 x (List.mem_of_getElem? hx)).2)
    ·refine GX.wR ?_; intros
     exact rt1 () (vN fun h => h3 (h.2 x (List.mem_of_getElem? hx)).1)
   ·rw [List.take_of_length_le (by omega)] at hA
    have hne : u.ins.length ≠ 0 := fun h => hH.2.2.2 (List.length_eq_zero_iff.1 h)
    obtain ⟨m, hm⟩ : ∃ m, u.ins.length = m + 1 := ⟨u.ins.length - 1, by omega⟩
    obtain ⟨x, hx⟩ := get_lt (show m < u.ins.length by omega)
    have hlo : lastOp u = x.op := by unfold lastOp; rw [hm, Nat.add_sub_cancel, hx]
    have all : (x.op = 16 ∨ x.op = 17 ∨ x.op = 18) ↔ UnitOk t u := ⟨fun h => ⟨⟨hH.1, hH.2.1, hH.2.2.1, hH.2.2.2, e1.1 h1, e2.1 h2, by rw [hlo]; exact h⟩, hA⟩, fun h => by rw [← hlo]; exact h.1.2.2.2.2.2.2⟩
    by_cases g1 : x.op = 16
    ·refine GX.wR ?_; intros
     exact rt1 () (vY (all.1 (.inl g1)))
    ·by_cases g2 : x.op = 17
     ·refine GX.wR ?_; intros
      exact rt1 () (vY (all.1 (.inr (.inl g2))))
     ·refine GX.wR ?_; intros
      exact rt1 () (vI (all.symm.trans ⟨fun h => h.elim (fun h => absurd h g1) fun h => h.elim (fun h => absurd h g2) id, fun h => .inr (.inr h)⟩))
  ·refine GX.wR ?_; intros
   exact rt1 () (vN fun h => h2 (e2.2 h.1.2.2.2.2.2.1))
 ·refine GX.wR ?_; intros
  exact rt1 () (vN fun h => h1 (e1.2 h.1.2.2.2.2.1))
theorem units_spec (cs : List Value) (t : RTg) (hs : Small t) : Does Tryz.prog 40 [.agg cs.toArray] [Ag tyRTg cs t] [] (fun _ : Unit => .bool (decide (UnitsOk t))) (fun _ => []) (fun _ => []) := by
 refine enter Tryz.func40 rfl Tryz.ntmps40 rfl fun b => ?_
 refine GX.wR ?_; intros
 refine GX.nmP 1 ?_; rintro b1 rfl
 refine GX.nmS 7 ?_; rintro aU cU rfl rfl
 refine GX.loop (σ := Nat) (fun i => [(1, .pointer (some ⟨b1, 0, none⟩)), (3, .int .i64 ((insOf (t.units.take i) : Nat) : Int)), (7, .slice aU t.units.length cU), (8, .int .i64 (t.units.length : Int)), (9, .int .i64 (i : Int))]) (fun _ => []) (fun _ => [])
  (fun i => i ≤ t.units.length ∧ insOf (t.units.take i) ≤ 16000 ∧ ∀ u ∈ t.units.take i, UnitOk t u) (fun i => t.units.length - i) 0 ⟨rfl, rfl, rfl, rfl, rfl, trivial⟩ ⟨by omega, by simp [insOf], by simp⟩ (fun i hi => ?_)
 obtain ⟨hi, hn, hA⟩ := hi
 by_cases hlt : i < t.units.length
 ·obtain ⟨u, hu⟩ := get_lt hlt
  have hm := List.mem_of_getElem? hu
  have hul := (hs.unit u hm).2
  have ht : t.units.take (i + 1) = t.units.take i ++ [u] := by rw [List.take_add_one, hu]; rfl
  have hsn : ((insOf (t.units.take i) : Nat) : Int) + (u.ins.length : Int) = ((insOf (t.units.take (i + 1)) : Nat) : Int) := by rw [ht, insOf_snoc]; omega
  have hle := insOf_take t.units (i + 1)
  refine GX.wR ?_; intros
  rw [hsn]
  by_cases h1 : 16000 < ((insOf (t.units.take (i + 1)) : Nat) : Int)
  ·refine GX.wR ?_; intros
   exact rt1 () (vN fun h => by have := h.1; omega)
  ·refine GX.wR ?_; intros
   refine GX.o (cl (unit_spec _ t hs i u hu) fun _ => ?_)
   by_cases h2 : UnitOk t u
   ·have h2' := Classical.not_not.2 h2
    refine GX.wR ?_; intros
    refine again (i + 1) ⟨rfl, rfl, rfl, rfl, rfl, trivial⟩ ⟨by omega, by omega, fun x hx => ?_⟩ (by omega)
    rw [ht, List.mem_append, List.mem_singleton] at hx
    rcases hx with hx | hx
    ·exact hA x hx
    ·subst hx; exact h2
   ·refine GX.wR ?_; intros
    exact rt1 () (vN fun h => h2 (h.2 u hm))
 ·have hil : i = t.units.length := by omega
  subst hil
  rw [List.take_length] at hA hn
  refine GX.wR ?_; intros
  exact rt1 () (vY ⟨hn, hA⟩)
theorem right_spec (cs : List Value) (t : RTg) (hs : Small t) : Does Tryz.prog 17 [.agg cs.toArray] [Ag tyRTg cs t] [] (fun _ : Unit => .bool (decide (RightP t))) (fun _ => []) (fun _ => []) := by
 refine enter Tryz.func17 rfl Tryz.ntmps17 rfl fun b => ?_
 by_cases h1 : 60 < (t.classes.length : Int)
 ·refine GX.wR ?_; intros
  exact rt1 () (vN fun h => by have := h.1.1; omega)
 by_cases h2 : 8 < (t.globals.length : Int)
 ·refine GX.wR ?_; intros
  exact rt1 () (vN fun h => by have := h.1.2.1; omega)
 by_cases h3 : (t.units.length : Int) = 0
 ·refine GX.wR ?_; intros
  exact rt1 () (vN fun h => by have := h.1.2.2.1; omega)
 by_cases h4 : 16 < (t.units.length : Int)
 ·refine GX.wR ?_; intros
  exact rt1 () (vN fun h => by have := h.1.2.2.2; omega)
 by_cases h5 : t.main < 0
 ·have e : ¬ MainOk t := by unfold MainOk; rw [gt_out (.inl h5)]; exact id
  refine GX.wR ?_; intros
  exact rt1 () (vN fun h => e h.2.1)
 by_cases h6 : (t.units.length : Int) ≤ t.main
 ·have e : ¬ MainOk t := by unfold MainOk; rw [gt_out (.inr h6)]; exact id
  refine GX.wR ?_; intros
  exact rt1 () (vN fun h => e h.2.1)
 obtain ⟨u, hu, k, hk, hkl, hu2⟩ := gt_in (l := t.units) (n := t.main) ⟨by omega, by omega⟩
 have e : MainOk t ↔ u.params = 0 ∧ u.result = -3 := by unfold MainOk; rw [hu]
 by_cases h7 : u.params = 0
 ·by_cases h8 : u.result = -3
  ·refine GX.wR ?_; intros
   refine GX.o (cl (layouts_spec _ t) fun _ => ?_)
   by_cases h9 : ∀ L ∈ t.classes, LayoutOk t L
   ·refine GX.wR ?_; intros
    refine GX.nmS 60 ?_; rintro aG cG rfl rfl
    refine GX.o (cl (entries_spec _ t aG cG t.globals) fun _ => ?_)
    by_cases h10 : Entries t t.globals
    ·refine GX.wR ?_; intros
     refine GX.o (cl (units_spec _ t hs) fun _ => ?_)
     refine GX.wR ?_; intros
     exact rt1 () (vI ⟨fun h => h.2.2.2.2, fun h => ⟨⟨by omega, by omega, by omega, by omega⟩, e.2 ⟨h7, h8⟩, h9, h10, h⟩⟩)
    ·refine GX.wR ?_; intros
     exact rt1 () (vN fun h => h10 h.2.2.2.1)
   ·refine GX.wR ?_; intros
    exact rt1 () (vN fun h => h9 h.2.2.1)
  ·refine GX.wR ?_; intros
   exact rt1 () (vN fun h => h8 (e.1 h.2.1).2)
 ·refine GX.wR ?_; intros
  exact rt1 () (vN fun h => h7 (e.1 h.2.1).1)
end Go.Proofs.YtomadjefdghliaaGreat
namespace Go.GX
open Go Go.RowKit Go.RR Go.RX
section
variable {P : Program} {n : Nat} {env : Env} {b : Base} {ps : List Pf} {hp : List Res} {Q : Exit → Act → World → Prop} {K : Act → World → Prop}
end
end Go.GX
namespace Go.GX
open Go Go.RowKit Go.RR Go.RX Go.Api
section
variable {P : Program}
def Conv (P : Program) (t : TypeId) {α : Type} (e : Ty α) (ok : α → Prop) : Prop :=
 ∀ {H : Type} (enc : TypeId × Value → H) (w : World) (spare : Nat → Bool) (held : Bool) (fuel : Nat) (cs : List Value) (x : DataW H × List MemPlace),
  DataW.trod enc P w 0 spare held fuel t cs = some x → ∃ y, e.rd (fun k => k < w.heap.size) w cs y ∧ ok y
theorem wf_i64 {a : Int} (h : (Lit.int .i64 a).wf = true) : -9223372036854775808 ≤ a ∧ a ≤ 9223372036854775807 := by
 simp only [Lit.wf, Bool.and_eq_true, decide_eq_true_eq] at h
 exact h
theorem conv_int {t : TypeId} (h : P.underlying t = some (.int .i64)) : Conv P t Ty.int I64 := by
 intro H enc w spare held fuel cs x hx
 obtain ⟨n, rfl, _, hw⟩ := DataW.trod_int h hx
 exact ⟨n, rfl, wf_i64 hw⟩
theorem conv_bool {t : TypeId} (h : P.underlying t = some .bool) : Conv P t Ty.bool (fun _ => True) := by
 intro H enc w spare held fuel cs x hx
 cases fuel with
 | zero => simp [DataW.trod] at hx
 | succ n =>
  unfold DataW.trod at hx
  rw [h] at hx
  split at hx <;> first | (rename_i b _; exact ⟨_, rfl, trivial⟩) | simp_all
theorem choose_list {α : Type} {p : Nat → α → Prop} : ∀ (n : Nat), (∀ i, i < n → ∃ x, p i x) → ∃ l : List α, l.length = n ∧ ∀ (i : Nat) x, l[i]? = some x → p i x
 | 0, _ => ⟨[], rfl, by simp⟩
 | n + 1, h => by
  obtain ⟨l, hl, hp⟩ := choose_list n (fun i hi => h i (by omega))
  obtain ⟨x, hx⟩ := h n (by omega)
  refine ⟨l ++ [x], by simp [hl], fun i y hy => ?_⟩
  rcases Nat.lt_or_ge i l.length with hi | hi
  ·rw [List.getElem?_append_left hi] at hy; exact hp i y hy
  ·rw [List.getElem?_append_right hi] at hy
   rcases hq : i - l.length with _ | q
   ·rw [hq] at hy; simp at hy; subst hy
    rw [show i = n by omega]; exact hx
   ·rw [hq] at hy; simp at hy
theorem conv_slice {t et : TypeId} {α : Type} {e : Ty α} {ok : α → Prop} (ht : P.underlying t = some (.slice et)) (hs : P.cellsOf et = e.size) (hp : 0 < e.size) (he : Conv P et e ok) : Conv P t (Ty.slice e) (fun l => ∀ x ∈ l, ok x) := by
 intro H enc w spare held fuel cs x hx
 rcases Go.Deep.open_slice ht hx with ⟨rfl, _⟩ | ⟨a, len, cap, m, n, D, Pl, rfl, _, hl, hm, hmm, _, hel⟩
 ·exact ⟨[], ⟨none, 0, rfl, by simp, by omega, fun i x hx => by simp at hx⟩, by simp⟩
 ·have hml : len ≤ m := by rw [hmm]; split <;> omega
  obtain ⟨l, hll, hlp⟩ := choose_list (α := α × List Value) (p := fun i q => w.cells? 0 (a.add (i * e.size)) e.size = some q.2 ∧ e.rd (fun k => k < w.heap.size) w q.2 q.1 ∧ ok q.1) len (fun i hi => by
   obtain ⟨cs', h1, h2⟩ := hel i (by omega)
   obtain ⟨y, hy⟩ := he enc w spare held n cs' _ h2
   rw [hs] at h1
   exact ⟨(y, cs'), h1, hy⟩)
  refine ⟨l.map (·.1), ⟨some a, cap, by simp [hll], by simp [hll, hl], by simp only [maxLen] at hm; omega, fun i x hx => ?_⟩, fun x hx => ?_⟩
  ·rw [List.getElem?_map] at hx
   obtain ⟨⟨y, cs'⟩, hq, rfl⟩ := Option.map_eq_some_iff.1 hx
   obtain ⟨h1, h2, _⟩ := hlp i _ hq
   dsimp only at h1 h2 ⊢
   have hi : i < len := by have := (List.getElem?_eq_some_iff.1 hq).1; omega
   obtain ⟨_, hlen, hc⟩ := World.cells?_some h1
   have hspot : a.spot = none := by
    obtain ⟨cs0, g1, g2⟩ := hel 0 (by omega)
    rw [hs] at g1
    obtain ⟨_, g3, g4⟩ := World.cells?_some g1
    have := g4 0 (by omega)
    simp only [Nat.zero_mul, Addr.add_zero'] at this
    have g5 : cs0[0]? = some cs0[0] := List.getElem?_eq_getElem (by omega)
    cases hsp : a.spot with
    | none => rfl
    | some q =>
     exfalso
     have h6 : w.cell? a = some cs0[0] := by simpa [g5] using this
     unfold World.cell? at h6
     split at h6
     ·simp [hsp] at h6
     ·cases h6
   obtain ⟨b, o, sp⟩ := a
   dsimp only at hspot
   subst hspot
   have hcell : CellsAt w b (o + i * e.size) cs' := fun j c hj => by
    have hjl : j < e.size := by have := (List.getElem?_eq_some_iff.1 hj).1; omega
    have := hc j (by omega)
    rw [Addr.add_lit, Addr.add_lit] at this
    rw [this, hj]
   have h0 : cs'[0]? = some cs'[0] := List.getElem?_eq_getElem (by omega)
   have hb := cell_lt (hcell 0 _ h0)
   exact ⟨b, o, cs', rfl, hb, hb, hcell, h2⟩
  ·obtain ⟨q, hq, rfl⟩ := List.mem_map.1 hx
   obtain ⟨i, hi⟩ := List.getElem?_of_mem hq
   exact (hlp i q hi).2.2
def ConvF (P : Program) (fs : List Field) (off : Nat) {α : Type} (r : Ty α) (ok : α → Prop) : Prop :=
 ∀ {H : Type} (enc : TypeId × Value → H) (w : World) (spare : Nat → Bool) (held : Bool) (fuel : Nat) (cs : List Value) (xs : List (DataW H × List MemPlace)),
  off + r.size = cs.length → fs.mapM (fun f => DataW.trod enc P w 0 spare held fuel f.type ((cs.drop f.offset).take (P.cellsOf f.type))) = some xs → ∃ y, r.rd (fun k => k < w.heap.size) w (cs.drop off) y ∧ ok y
theorem convF_nil {off : Nat} : ConvF P [] off Ty.unit (fun _ => True) := by
 intro H enc w spare held fuel cs xs hl _
 exact ⟨(), by simp [Ty.unit] at hl ⊢; omega, trivial⟩
theorem convF_cons {f : Field} {fs : List Field} {off : Nat} {α β : Type} {r : Ty α} {s : Ty β} {ok1 : α → Prop} {ok2 : β → Prop} (ho : f.offset = off) (hs : P.cellsOf f.type = r.size) (h1 : Conv P f.type r ok1) (h2 : ConvF P fs (off + r.size) s ok2) : ConvF P (f :: fs) off (Ty.pair r s) (fun x => ok1 x.1 ∧ ok2 x.2) := by
 intro H enc w spare held fuel cs xs hl hx
 rw [List.mapM_cons] at hx
 cases hy : DataW.trod enc P w 0 spare held fuel f.type ((cs.drop f.offset).take (P.cellsOf f.type)) with
 | none => rw [hy] at hx; simp at hx
 | some y =>
  rw [hy] at hx
  cases hz : fs.mapM (fun f => DataW.trod enc P w 0 spare held fuel f.type ((cs.drop f.offset).take (P.cellsOf f.type))) with
  | none => rw [hz] at hx; simp at hx
  | some zs =>
   obtain ⟨u, hu, ou⟩ := h1 enc w spare held fuel _ _ hy
   obtain ⟨v, hv, ov⟩ := h2 enc w spare held fuel cs zs (by simp only [Ty.pair] at hl; omega) hz
   rw [ho, hs] at hu
   refine ⟨(u, v), ⟨_, _, ?_, hu, hv⟩, ou, ov⟩
   rw [← List.drop_drop, List.take_append_drop]
theorem conv_struct {t : TypeId} {fs : Array Field} {l : List Field} {α : Type} {r : Ty α} {ok : α → Prop} (ht : P.underlying t = some (.struct fs)) (hl : fs.toList = l) (hs : P.cellsOf t = r.size) (h : ConvF P l 0 r ok) : Conv P t r ok := by
 intro H enc w spare held fuel cs x hx
 subst hl
 cases fuel with
 | zero => simp [DataW.trod] at hx
 | succ n =>
  unfold DataW.trod at hx
  rw [ht] at hx
  simp only at hx
  split at hx
  ·rename_i hl
   obtain ⟨xs, hxs, _⟩ := Option.map_eq_some_iff.1 hx
   have := h enc w spare held n cs xs (by omega) hxs
   simpa using this
  ·cases hx
theorem conv_co {t : TypeId} {α β : Type} {r : Ty α} {ok : α → Prop} {g : β → α} {ok' : β → Prop} (inv : α → β) (h1 : ∀ x, g (inv x) = x) (h2 : ∀ x, ok x → ok' (inv x)) (h : Conv P t r ok) : Conv P t (Ty.co r g) ok' := by
 intro H enc w spare held fuel cs x hx
 obtain ⟨y, hy, ho⟩ := h enc w spare held fuel cs x hx
 exact ⟨inv y, by show r.rd _ _ _ (g (inv y)); rw [h1]; exact hy, h2 y ho⟩
theorem Does.calls {f : FuncId} {args : List Value} {ps : List Pf} (h : Does P f args ps [] (fun _ : Unit => .bool true) (fun _ => []) (fun _ => [])) (w : World) (hps : AllP (fun k => k < w.heap.size) w ps) :
  Calls P f args.toArray w fun e w' => e = .returned (.bool true) ∧ Upd (fun _ => False) w w' := by
 refine (h.run w (fun k => k < w.heap.size) ⟨w, fun _ => False, fun k => k < w.heap.size⟩ ⟨Upd.refl _ _, fun _ h => h, fun k h _ => .inl h, hps, no_r, by simp, by simp, by simp⟩).mono ?_
 rintro e w' ⟨_, he, F', s⟩
 exact ⟨he, s.upd.mono (fun k _ hk => absurd hk feet_nil)⟩
theorem all_nil {F : Nat → Prop} {w : World} : AllP F w [] := no_p
theorem all_cons {F : Nat → Prop} {w : World} {p : Pf} {l : List Pf} (h : p.says F w) (hl : AllP F w l) : AllP F w (p :: l) := fun q hq => by
 rcases List.mem_cons.1 hq with rfl | hq
 ·exact h
 ·exact hl q hq
theorem sl_in {F : Nat → Prop} {w : World} {α : Type} {e : Ty α} {s : Option Addr} {k c : Nat} {x : List α} (z : (Ty.slice e).rd F w (Value.slice s k c).cells.toList x) : k = x.length ∧ (Sl e s c x).says F w := by
 obtain ⟨ao, cap, he, h1, h2, h3⟩ := z
 have : [Value.slice s k c] = [Value.slice ao x.length cap] := he
 simp at this
 obtain ⟨rfl, rfl, rfl⟩ := this
 exact ⟨rfl, h1, h2, h3⟩
theorem ag_in {F : Nat → Prop} {w : World} {α : Type} {e : Ty α} {cs : Array Value} {x : α} (z : e.rd F w (Value.agg cs).cells.toList x) : (Ag e cs.toList x).says F w := z
end
end Go.GX
namespace Go.Proofs.YtomadjefdghliaaGreat
open Go Go.RowKit Go.RR Go.RX Go.GX Go.Api
theorem cv_int : Conv Tryz.prog 3 Ty.int I64 := conv_int Tryz.underlying3
theorem cv_bool : Conv Tryz.prog 4 Ty.bool (fun _ => True) := conv_bool Tryz.underlying4
theorem cv_ints : Conv Tryz.prog 23 (Ty.slice Ty.int) (fun l => ∀ x ∈ l, I64 x) := conv_slice (et := 3) Tryz.underlying23 (by kernel_rfl) (by decide) cv_int
theorem conv_ins : Conv Tryz.prog 39 tyIns Go.Api.Ins.ok := by
 refine conv_co (ok := fun x => I64 x.1 ∧ I64 x.2.1 ∧ I64 x.2.2.1 ∧ I64 x.2.2.2.1 ∧ I64 x.2.2.2.2.1 ∧ (fun l => ∀ x ∈ l, I64 x) x.2.2.2.2.2.1 ∧ True) (fun x => ⟨x.1, x.2.1, x.2.2.1, x.2.2.2.1, x.2.2.2.2.1, x.2.2.2.2.2.1⟩) (fun x => rfl) (fun x h => ⟨h.1, h.2.1, h.2.2.1, h.2.2.2.1, h.2.2.2.2.1, h.2.2.2.2.2.1⟩) ?_
 apply conv_struct (l := [_, _, _, _, _, _]) Tryz.underlying39 rfl (by kernel_rfl)
 apply convF_cons (ok1 := I64) (ok2 := fun x : Int × Int × Int × Int × (List Int) × Unit => I64 x.1 ∧ I64 x.2.1 ∧ I64 x.2.2.1 ∧ I64 x.2.2.2.1 ∧ (fun l => ∀ x ∈ l, I64 x) x.2.2.2.2.1 ∧ True) rfl (by kernel_rfl) cv_int
 apply convF_cons (ok1 := I64) (ok2 := fun x : Int × Int × Int × (List Int) × Unit => I64 x.1 ∧ I64 x.2.1 ∧ I64 x.2.2.1 ∧ (fun l => ∀ x ∈ l, I64 x) x.2.2.2.1 ∧ True) rfl (by kernel_rfl) cv_int
 apply convF_cons (ok1 := I64) (ok2 := fun x : Int × Int × (List Int) × Unit => I64 x.1 ∧ I64 x.2.1 ∧ (fun l => ∀ x ∈ l, I64 x) x.2.2.1 ∧ True) rfl (by kernel_rfl) cv_int
 apply convF_cons (ok1 := I64) (ok2 := fun x : Int × (List Int) × Unit => I64 x.1 ∧ (fun l => ∀ x ∈ l, I64 x) x.2.1 ∧ True) rfl (by kernel_rfl) cv_int
 apply convF_cons (ok1 := I64) (ok2 := fun x : (List Int) × Unit => (fun l => ∀ x ∈ l, I64 x) x.1 ∧ True) rfl (by kernel_rfl) cv_int
 apply convF_cons (ok1 := (fun l => ∀ x ∈ l, I64 x)) (ok2 := fun x : Unit => True) rfl (by kernel_rfl) cv_ints
 apply convF_nil
theorem conv_inss : Conv Tryz.prog 40 (Ty.slice tyIns) (fun l => ∀ x ∈ l, Go.Api.Ins.ok x) := conv_slice (et := 39) Tryz.underlying40 (by kernel_rfl) (by decide) conv_ins
theorem conv_layout : Conv Tryz.prog 45 tyLayout Go.Api.Layout.ok := by
 refine conv_co (ok := fun x => (fun _ => True) x.1 ∧ (fun l => ∀ x ∈ l, I64 x) x.2.1 ∧ True) (fun x => ⟨x.1, x.2.1⟩) (fun x => rfl) (fun x h => h.2.1) ?_
 apply conv_struct (l := [_, _]) Tryz.underlying45 rfl (by kernel_rfl)
 apply convF_cons (ok1 := (fun _ => True)) (ok2 := fun x : (List Int) × Unit => (fun l => ∀ x ∈ l, I64 x) x.1 ∧ True) rfl (by kernel_rfl) cv_bool
 apply convF_cons (ok1 := (fun l => ∀ x ∈ l, I64 x)) (ok2 := fun x : Unit => True) rfl (by kernel_rfl) cv_ints
 apply convF_nil
theorem conv_layouts : Conv Tryz.prog 22 (Ty.slice tyLayout) (fun l => ∀ x ∈ l, Go.Api.Layout.ok x) := conv_slice (et := 45) Tryz.underlying22 (by kernel_rfl) (by decide) conv_layout
theorem conv_unt : Conv Tryz.prog 47 tyUnt Go.Api.Unt.ok := by
 refine conv_co (ok := fun x => I64 x.1 ∧ (fun l => ∀ x ∈ l, I64 x) x.2.1 ∧ I64 x.2.2.1 ∧ (fun l => ∀ x ∈ l, I64 x) x.2.2.2.1 ∧ (fun l => ∀ x ∈ l, I64 x) x.2.2.2.2.1 ∧ (fun l => ∀ x ∈ l, Go.Api.Ins.ok x) x.2.2.2.2.2.1 ∧ True) (fun x => ⟨x.1, x.2.1, x.2.2.1, x.2.2.2.1, x.2.2.2.2.1, x.2.2.2.2.2.1⟩) (fun x => rfl) (fun x h => ⟨h.1, h.2.1, h.2.2.1, h.2.2.2.1, h.2.2.2.2.1, h.2.2.2.2.2.1⟩) ?_
 apply conv_struct (l := [_, _, _, _, _, _]) Tryz.underlying47 rfl (by kernel_rfl)
 apply convF_cons (ok1 := I64) (ok2 := fun x : (List Int) × Int × (List Int) × (List Int) × (List Go.Api.Ins) × Unit => (fun l => ∀ x ∈ l, I64 x) x.1 ∧ I64 x.2.1 ∧ (fun l => ∀ x ∈ l, I64 x) x.2.2.1 ∧ (fun l => ∀ x ∈ l, I64 x) x.2.2.2.1 ∧ (fun l => ∀ x ∈ l, Go.Api.Ins.ok x) x.2.2.2.2.1 ∧ True) rfl (by kernel_rfl) cv_int
 apply convF_cons (ok1 := (fun l => ∀ x ∈ l, I64 x)) (ok2 := fun x : Int × (List Int) × (List Int) × (List Go.Api.Ins) × Unit => I64 x.1 ∧ (fun l => ∀ x ∈ l, I64 x) x.2.1 ∧ (fun l => ∀ x ∈ l, I64 x) x.2.2.1 ∧ (fun l => ∀ x ∈ l, Go.Api.Ins.ok x) x.2.2.2.1 ∧ True) rfl (by kernel_rfl) cv_ints
 apply convF_cons (ok1 := I64) (ok2 := fun x : (List Int) × (List Int) × (List Go.Api.Ins) × Unit => (fun l => ∀ x ∈ l, I64 x) x.1 ∧ (fun l => ∀ x ∈ l, I64 x) x.2.1 ∧ (fun l => ∀ x ∈ l, Go.Api.Ins.ok x) x.2.2.1 ∧ True) rfl (by kernel_rfl) cv_int
 apply convF_cons (ok1 := (fun l => ∀ x ∈ l, I64 x)) (ok2 := fun x : (List Int) × (List Go.Api.Ins) × Unit => (fun l => ∀ x ∈ l, I64 x) x.1 ∧ (fun l => ∀ x ∈ l, Go.Api.Ins.ok x) x.2.1 ∧ True) rfl (by kernel_rfl) cv_ints
 apply convF_cons (ok1 := (fun l => ∀ x ∈ l, I64 x)) (ok2 := fun x : (List Go.Api.Ins) × Unit => (fun l => ∀ x ∈ l, Go.Api.Ins.ok x) x.1 ∧ True) rfl (by kernel_rfl) cv_ints
 apply convF_cons (ok1 := (fun l => ∀ x ∈ l, Go.Api.Ins.ok x)) (ok2 := fun x : Unit => True) rfl (by kernel_rfl) conv_inss
 apply convF_nil
theorem conv_unts : Conv Tryz.prog 24 (Ty.slice tyUnt) (fun l => ∀ x ∈ l, Go.Api.Unt.ok x) := conv_slice (et := 47) Tryz.underlying24 (by kernel_rfl) (by decide) conv_unt
theorem conv_rtg : Conv Tryz.prog 26 tyRTg Go.Api.RTg.ok := by
 refine conv_co (ok := fun x => (fun l => ∀ x ∈ l, Go.Api.Layout.ok x) x.1 ∧ (fun l => ∀ x ∈ l, I64 x) x.2.1 ∧ (fun l => ∀ x ∈ l, Go.Api.Unt.ok x) x.2.2.1 ∧ I64 x.2.2.2.1 ∧ True) (fun x => ⟨x.1, x.2.1, x.2.2.1, x.2.2.2.1⟩) (fun x => rfl) (fun x h => ⟨h.1, h.2.1, h.2.2.1, h.2.2.2.1⟩) ?_
 apply conv_struct (l := [_, _, _, _]) Tryz.underlying26 rfl (by kernel_rfl)
 apply convF_cons (ok1 := (fun l => ∀ x ∈ l, Go.Api.Layout.ok x)) (ok2 := fun x : (List Int) × (List Go.Api.Unt) × Int × Unit => (fun l => ∀ x ∈ l, I64 x) x.1 ∧ (fun l => ∀ x ∈ l, Go.Api.Unt.ok x) x.2.1 ∧ I64 x.2.2.1 ∧ True) rfl (by kernel_rfl) conv_layouts
 apply convF_cons (ok1 := (fun l => ∀ x ∈ l, I64 x)) (ok2 := fun x : (List Go.Api.Unt) × Int × Unit => (fun l => ∀ x ∈ l, Go.Api.Unt.ok x) x.1 ∧ I64 x.2.1 ∧ True) rfl (by kernel_rfl) cv_ints
 apply convF_cons (ok1 := (fun l => ∀ x ∈ l, Go.Api.Unt.ok x)) (ok2 := fun x : Int × Unit => I64 x.1 ∧ True) rfl (by kernel_rfl) conv_unts
 apply convF_cons (ok1 := I64) (ok2 := fun x : Unit => True) rfl (by kernel_rfl) cv_int
 apply convF_nil
end Go.Proofs.YtomadjefdghliaaGreat
namespace Go.GX
open Go Go.RowKit Go.RR Go.RX Go.Api
section
variable {n : Nat} {env : Env} {b : Base} {ps : List Pf} {hp : List Res} {K : Act → World → Prop}
theorem slice_rd {α : Type} {e : Ty α} {F : Nat → Prop} {w : World} {cs : List Value} {xs : List α} (h : (Ty.slice e).rd F w cs xs) : ∃ ao cap, cs = [.slice ao xs.length cap] ∧ (Sl e ao cap xs).says F w := by
 obtain ⟨ao, cap, h1, h2⟩ := h
 exact ⟨ao, cap, h1, h2⟩
theorem opRTg (cs : List Value) {t : RTg} [hf : FAg cs ps tyRTg t] (h : ∀ aC cC aG cG aU cU, cs = [.slice aC t.classes.length cC, .slice aG t.globals.length cG, .slice aU t.units.length cU, .int .i64 t.main] → G n env b (Sl tyLayout aC cC t.classes :: Sl Ty.int aG cG t.globals :: Sl tyUnt aU cU t.units :: ps) hp K) : G n env b ps hp K := by
 constructor
 rintro w ⟨F, s⟩
 obtain ⟨c1, r1, e1, h1, c2, r2, e2, h2, c3, r3, e3, h3, c4, r4, e4, h4, h5⟩ : tyRTg.rd F w cs t := s.fs _ hf.mem
 obtain ⟨aC, cC, rfl, k1⟩ := slice_rd h1
 obtain ⟨aG, cG, rfl, k2⟩ := slice_rd h2
 obtain ⟨aU, cU, rfl, k3⟩ := slice_rd h3
 have h4 : c4 = [.int .i64 t.main] := h4
 have h5 : r4 = [] := h5
 refine (h aC cC aG cG aU cU (by rw [e1, e2, e3, e4, h4, h5]; rfl)).run w ⟨F, s.upd, s.lt, s.old, fun p hp => ?_, s.rs, s.apF, s.apart, s.on⟩
 rcases List.mem_cons.1 hp with rfl | hp
 ·exact k1
 rcases List.mem_cons.1 hp with rfl | hp
 ·exact k2
 rcases List.mem_cons.1 hp with rfl | hp
 ·exact k3
 ·exact s.fs p hp
end
end Go.GX
namespace Go.Proofs.YtomadjefdghliaaGreat
open Go Go.RR Go.RX Go.GX Go.Api Go.RtM
attribute [local irreducible] wpList Code.wp wpPlan Exit.then Exit.inBlock bodyPost NoPanic Went GX.Post GX.Again GX.Meet GX.RowR GX.Own GX.Owns GX.Box GX.Sl GX.Pt GX.Ag GX.MapR GX.Star GX.Kept GX.Pin wpT GoK AtEnd Both
def ran0 : Api.Ran := ⟨⟨0, 0, [], 0⟩, 0, 0, 0, 0, 0, 0⟩
noncomputable def playP (t : RTg) (inp : List Int) (fuel : Int) : Api.Ran := if RightP t then ranP t (glob t) inp fuel else ran0
structure RnS where
 p : Nat
 k : MK
theorem run_spec (cs : List Value) (t : RTg) (hs : Small t) (hT : Tame30 t) (ai : Option Addr) (ci : Nat) (inp : List Int) (fuel : Int) (hf : fuel ≤ 100000) :
  Does Tryz.prog 9 [.agg cs.toArray, .slice ai inp.length ci, .int .i64 fuel] [Ag tyRTg cs t, Sl Ty.int ai ci inp] [] (fun s : List Value => .agg s.toArray) (fun s => [Ag tyRan s (playP t inp fuel)]) (fun _ => []) := by
 refine enter Tryz.func9 rfl Tryz.ntmps9 rfl fun _ => ?_
 refine GX.wp_R ?_; intros
 refine GX.nmP 3 ?_; rintro b3 rfl
 refine GX.nmP 6 ?_; rintro b6 rfl
 refine GX.nmA 8 ?_; rintro c8 rfl
 refine GX.o (cl (right_spec c8 t hs) fun _ => ?_)
 by_cases hRt : RightP t
 ·rw [show playP t inp fuel = ranP t (glob t) inp fuel from if_pos hRt]
  have hRn := Classical.not_not.2 hRt
  refine GX.wp_RN ?_; intros
  have hgl := hRt.1.2.1
  refine GX.cut (σ := RnS) (fun s => [(2, .int .i64 fuel), (3, .pointer (some ⟨b3, 0, none⟩)), (6, .pointer (some ⟨b6, 0, none⟩)), (7, .pointer (some ⟨s.p, 0, none⟩))]) (fun s => [Sl Ty.int s.k.aL s.k.cL (glob t), Sl tyLayout s.k.aC s.k.cC t.classes, Sl tyUnt s.k.aU s.k.cU t.units])
   (fun s => [RowR s.p 57 [.slice s.k.aC t.classes.length s.k.cC, .slice s.k.aG t.globals.length s.k.cG, .slice s.k.aU t.units.length s.k.cU, .int .i64 t.main, .slice s.k.aL (glob t).length s.k.cL, .pointer (some ⟨s.k.tp, 0, none⟩), .int .i64 0, .slice ai inp.length ci, .slice (some ⟨s.k.gb, 0, none⟩) t.globals.length t.globals.length, .slice none 0 0, .int .i64 1, .map (some s.k.om), .int .i64 0, .int .i64 0, .slice none 0 0, .int .i64 0, .int .i64 ran0.made, .int .i64 ran0.gone, .int .i64 ran0.live, .int .i64 ran0.peak, .int .i64 0, .int .i64 ran0.most], RowR s.k.tp 86 [.slice none (TabC.mk none 0 [] none 0 [] 0 0 0 0).R.length 0, .slice none (TabC.mk none 0 [] none 0 [] 0 0 0 0).L.length 0, .int .i64 0, .int .i64 0, .int .i64 0, .int .i64 0], GX.Own 90 tyRegion none 0 (TabC.mk none 0 [] none 0 [] 0 0 0 0).R, GX.Own 148 tyThing none 0 ((TabC.mk none 0 [] none 0 [] 0 0 0 0).L.map thg), Owns 3 Ty.int ((TabC.mk none 0 [] none 0 [] 0 0 0 0).L.map (fun x : Th => x.2)), GX.Own 3 Ty.int (some ⟨s.k.gb, 0, none⟩) t.globals.length (List.replicate t.globals.length 0), GX.MapR s.k.om opsF, Box 32 tyRan b6 ran0]) (fun _ => True) ?_ (fun s _ => ?_)
  ·refine GX.drawnT (fun j => !(List.contains [] j)) (.br [(0, true), (1, true), (4, true), (5, true), (6, true), (7, true)] (.alt 2 (.br [] (.alt 3 (.br [] (.alt 8 (.lin [(9, false), (10, true), (11, false), (12, true)]) (.alt 9 (.lin [(8, false), (10, true), (11, false), (12, true)]) .nil))) (.alt 8 (.lin [(3, false), (9, false), (10, true), (11, false), (12, true)]) .nil))) (.alt 8 (.lin [(2, false), (3, false), (9, false), (10, true), (11, false), (12, true)]) .nil))) (by kernel_rfl) (by kernel_rfl) ?_; intro wd F hW hR
   refine GX.wp_TA ?_; intros
   refine GX.nmA 12 ?_; rintro c12 rfl
   refine GX.nmA 13 ?_; rintro c13 rfl
   refine opRTg c12 fun aC cC aG cG aU cU e12 => ?_
   subst e12
   repeat' first
    | (refine GX.treeA ?_ ?_ <;> (refine GX.wp_TA ?_; intros))
    | (refine GX.gok ?_; refine (cl (global_spec c13 t hs) fun s => ?_); obtain ⟨aL, cL⟩ := s; dsimp only; refine GX.wp_TA ?_; intros)
    | (refine GX.gok ?_; refine (cl tnew_spec fun tp => ?_); refine GX.wp_TA ?_; intros)
    | (refine GX.gok ?_; refine (cl steps_spec fun om => ?_); refine GX.wp_TA ?_; intros)
    | (refine GX.gow ?_; refine (cl (global_spec c13 t hs) fun s => ?_); obtain ⟨aL, cL⟩ := s; dsimp only; refine GX.wp_TA ?_; intros)
    | (refine GX.gow ?_; refine (cl tnew_spec fun tp => ?_); refine GX.wp_TA ?_; intros)
    | (refine GX.gow ?_; refine (cl steps_spec fun om => ?_); refine GX.wp_TA ?_; intros)
   all_goals (
    refine GX.wp_R ?_; intros
    refine GX.nmP 7 ?_; rintro p rfl
    refine GX.nmB 20 ?_; rintro gb rfl
    exact GX.meet ⟨p, ⟨aC, cC, aG, cG, aU, cU, aL, cL, tp, gb, om⟩⟩ ⟨rfl, rfl, rfl, rfl, trivial⟩ trivial)
  obtain ⟨p, k⟩ := s
  dsimp only
  have hm := hRt.2.1
  unfold MainOk at hm
  cases hg : gt t.units t.main with
  | none => rw [hg] at hm; exact hm.elim
  | some u =>
  obtain ⟨j, hj, hjl, hju⟩ := gt_some hg
  have hum : u ∈ t.units := gt_mem hg
  have huv : u.vars.length ≤ 4000 := (right_unit hRt hum).1.1.2.2.2
  have huo := hT.owns u hum
  obtain ⟨v0, hv0⟩ : ∃ v0 : MV, v0 = ⟨ai, inp.length, ci, none, 0, 0, 1, 0, 0, none, 0, 0, 0, 0⟩ := ⟨_, rfl⟩
  refine GX.wp_R ?_; intros
  refine GX.o (cl (tMake_spec k.tp TInv.zero (by show 0 ≤ 1000000000; omega)) fun s => ?_)
  obtain ⟨c1, hT1⟩ := s
  dsimp only
  refine GX.wp_R ?_; intros
  refine GX.o (cl (enter_spec t p k ⟨ai, inp.length, ci, none, 0, 0, 1, 0, 0, none, 0, 0, 0, 0⟩ j t.main hj u (-1) hju (by omega)) fun s => ?_)
  obtain ⟨bl, vb, mb⟩ := s
  dsimp only [newC, newF]
  refine GX.wp_R ?_; intros
  refine ownNil 60 Ty.ptr ?_
  refine GX.o (cl (push_spec t p k ⟨ai, inp.length, ci, none, 0, 0, 1, 0, 0, none, 0, 0, 0, 0⟩ [] ⟨bl, vb, u.vars.length, mb, fun _ => none⟩ ⟨t.main, 0, List.replicate u.vars.length 0, -1, fun _ => 0⟩ j u hju hj rfl (by simp) (by dsimp only; omega) (by omega)) fun s => ?_)
  obtain ⟨af, cf⟩ := s
  dsimp only
  refine GX.wp_R ?_; intros
  refine GX.o (cl (slack_spec t p k ⟨ai, inp.length, ci, af, 1, cf, 1 + u.owns.length, 0, 0, none, 0, 0, 0, 0⟩ c1 Tb.zero.make hT1 (by dsimp only; omega) (by show 1 ≤ 1000000000; omega)) fun _ => ?_)
  dsimp only
  refine GX.wp_R ?_; intros
  refine GX.starN ?_
  refine GX.starI (l := [RowR bl 93 [.int .i64 t.main, .int .i64 0, .slice (some ⟨vb, 0, none⟩) u.vars.length u.vars.length, .int .i64 (-1), .map (some mb)], GX.Own 3 Ty.int (some ⟨vb, 0, none⟩) u.vars.length (List.replicate u.vars.length 0), GX.MapR mb (fun _ => none)]) (m := []) ?_
  refine ownNil 3 Ty.int ?_
  have hbe : begin_ t inp = ⟨Tb.zero.make, inp, List.replicate t.globals.length 0, [⟨t.main, 0, List.replicate u.vars.length 0, -1, fun _ => 0⟩], 0, 0, [], 0, 1 + u.owns.length - (liveN Tb.zero.make.B : Int)⟩ := by
   unfold begin_ start Ms.room bound ownsN
   dsimp only
   rw [hg]
   simp [hg]
  obtain ⟨hok, hbn⟩ := begin_ok (inp := inp) hRt
  unfold ranP
  rw [hbe] at hok hbn ⊢
  have hI : MInv t ⟨⟨ai, inp.length, ci, af, 1, cf, 1 + u.owns.length, 0, 0, none, 0, 0, 0, 1 + u.owns.length - (liveN Tb.zero.make.B : Int)⟩, [⟨bl, vb, u.vars.length, mb, fun _ => none⟩], c1⟩ ⟨Tb.zero.make, inp, List.replicate t.globals.length 0, [⟨t.main, 0, List.replicate u.vars.length 0, -1, fun _ => 0⟩], 0, 0, [], 0, 1 + u.owns.length - (liveN Tb.zero.make.B : Int)⟩ := by
   refine ⟨hT1, rfl, ⟨⟨List.length_replicate, fun _ => rfl⟩, trivial⟩, rfl, rfl, rfl, rfl, rfl, rfl, ?_⟩
   show (1 : Int) + u.owns.length = bound t [_]
   rw [bound_cons]
   unfold ownsN bound
   dsimp only
   rw [hg]
   simp
  refine GX.o (cl (goOn_spec t p k hRt hT (max fuel 0) (by omega) _ _ hI hok hbn (max fuel 0).toNat (by show 0 + (((max fuel 0).toNat : Nat) : Int) = max fuel 0; omega)) fun s => ?_)
  obtain ⟨⟨v', xs', c'⟩, hI', hok', hbn', hst'⟩ := s
  dsimp only
  generalize runM t (glob t) (max fuel 0).toNat _ = Mf at hI' hok' hbn' hst' ⊢
  have hB1 : Mf.tb.B.length ≤ 1000000000 := by have := hbn'.B; omega
  have hL1 : Mf.tb.L.length ≤ 1000000000 := by have := hbn'.L; omega
  refine GX.wp_R ?_; intros
  refine GX.o (cl (clears_spec t p k v' c' Mf.tb hI'.tab hB1 hL1) fun s => ?_)
  obtain ⟨c2, hT2⟩ := s
  dsimp only
  have hcl : Mf.clear.ran = ⟨⟨v'.en, v'.code, Mf.out, v'.steps⟩, (clearT Mf.tb v'.en).B.length, ((clearT Mf.tb v'.en).B.length : Int) - (liveN (clearT Mf.tb v'.en).B : Int), ((clearT Mf.tb v'.en).B.length : Int) - (((clearT Mf.tb v'.en).B.length : Int) - (liveN (clearT Mf.tb v'.en).B : Int)), (clearT Mf.tb v'.en).peak, v'.slack, (clearT Mf.tb v'.en).most⟩ := by
   rw [show v'.en = Mf.en from hI'.en, show v'.code = Mf.code from hI'.code, show v'.steps = Mf.steps from hI'.steps, show v'.slack = Mf.slack from hI'.slack, show ∀ a b : Int, a - (a - b) = b by intro a b; omega]
   unfold Ms.clear Ms.ran clearT
   split
   ·rfl
   ·split <;> rfl
  have hBl : (clearT Mf.tb v'.en).B.length = Mf.tb.B.length := by
   unfold clearT
   split
   ·exact (rem_len _ _).1
   ·split
    ·exact (remAll_len _ _).1
    ·rfl
  rw [hcl]
  generalize clearT Mf.tb v'.en = Tf at hT2 hBl ⊢
  have hlv : liveN Tf.B ≤ Tf.B.length := List.countP_le_length
  refine GX.wp_R ?_; intros
  refine GX.o (cl (tCount_spec k.tp hT2) fun _ => ?_)
  refine GX.wp_R ?_; intros
  refine GX.drawn1 (RowR p 57 _) (fun j => !(List.contains [15] j)) [(0, true), (1, true), (2, true), (3, true), (4, true), (5, true), (6, true), (7, true), (8, true), (9, true), (10, true), (11, true), (12, true), (13, true), (14, true), (15, false)] rfl (by kernel_rfl) (by kernel_rfl) GX.sA ?_; intro wd F hW hR
  refine GX.wp_T ?_; intros
  refine GX.unpin (RowR p 57 _) ?_
  refine GX.wp_T ?_; intros
  refine GX.wp_R ?_; intros
  refine GX.o (cl (tThings_spec k.tp hT2) fun _ => ?_)
  refine GX.wp_R ?_; intros
  rw [show v'.no = Mf.out.length from hI'.no]
  refine GX.o (lrO [.int .i64 v'.en, .int .i64 v'.code, .slice v'.ao Mf.out.length v'.co, .int .i64 v'.steps, .int .i64 (Tf.B.length : Int), .int .i64 ((Tf.B.length : Int) - (liveN Tf.B : Int)), .int .i64 ((Tf.B.length : Int) - ((Tf.B.length : Int) - (liveN Tf.B : Int))), .int .i64 Tf.peak, .int .i64 v'.slack, .int .i64 Tf.most] ?_)
  refine frz v'.ao ?_
  refine GX.wp_R ?_; intros
  exact rt1B (fun cs => cs) (fun _ => rfl)
 ·rw [show playP t inp fuel = ran0 from if_neg hRt]
  refine GX.wp_R ?_; intros
  exact rt1B (fun cs => cs) (fun _ => rfl)
end Go.Proofs.YtomadjefdghliaaGreat
namespace Go.Proofs.YtomadjefdghliaaGreat
open Go.Api Go.RiseM Go.ReachM Go.RtM
def TinyU (u : Unt) : Prop := (u.vars.length ≤ 150 ∧ u.ins.length ≤ 400 ∧ u.takes.length ≤ 80 ∧ u.owns.length ≤ 80) ∧ ∀ i ∈ u.ins, i.args.length ≤ 80
instance (u : Unt) : Decidable (TinyU u) := by unfold TinyU; infer_instance
def Tiny (t : RTg) : Prop := (t.classes.length ≤ 80 ∧ t.globals.length ≤ 20 ∧ t.units.length ≤ 20) ∧ (∀ L ∈ t.classes, L.refs.length ≤ 20) ∧ ∀ u ∈ t.units, TinyU u
instance (t : RTg) : Decidable (Tiny t) := by unfold Tiny; infer_instance
theorem sum_le {l : List Nat} {k : Nat} (h : ∀ x ∈ l, x ≤ k) : l.sum ≤ l.length * k := by
 induction l with
 | nil => simp
 | cons x l ih =>
  have h1 := h x (by simp)
  have h2 := ih fun y hy => h y (by simp [hy])
  rw [List.sum_cons, List.length_cons, Nat.add_mul]; omega
theorem Tiny.small {t : RTg} (h : Tiny t) : Small t := by
 refine ⟨by have := h.1.1; omega, ?_, by have := h.1.2.1; omega, by have := h.1.2.2; omega, fun u hu => ?_⟩
 ·have h1 : ∀ x ∈ (flds t).map List.length, x ≤ 20 := fun x hx => by
   obtain ⟨l, hl, rfl⟩ := List.mem_map.1 hx
   obtain ⟨L, hL, rfl⟩ := List.mem_map.1 hl
   exact h.2.1 L hL
  have h2 := sum_le h1
  rw [List.length_map, flds_len] at h2
  have := h.1.1
  omega
 ·have := (h.2.2 u hu).1; omega
theorem all_one {α : Type} {P : α → Prop} {l : List α} {i : Nat} {x : α} (hx : l[i]? = some x) (h : ∀ y ∈ l.take i, P y) (hp : P x) : ∀ y ∈ l.take (i + 1), P y := by
 intro y hy
 rw [List.take_add_one, hx, List.mem_append] at hy
 rcases hy with hy | hy
 ·exact h y hy
 ·simp at hy; subst hy; exact hp
end Go.Proofs.YtomadjefdghliaaGreat
