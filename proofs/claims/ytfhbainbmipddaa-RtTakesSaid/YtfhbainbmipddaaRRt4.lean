/- The walks over unit and Right of the reference of chapter 26. -/
import Derived.Test.YtfhbainbmipddaaRStep
namespace Go.Proofs.Ytfhbainbmipddaa
open Go Go.RR Go.RX Go.GX Go.Api Go.RiseM Go.ReachM Go.RtM
attribute [local irreducible] wpList Code.wp wpPlan Exit.then Exit.inBlock bodyPost NoPanic Went GX.Post GX.Again GX.Meet GX.RowR GX.Own GX.Owns GX.Box GX.Sl GX.Pt GX.Ag GX.MapR GX.Kept GX.Pin wpT GoK AtEnd Both

theorem routU_spec (cs : List Value) (t : RTg) (hs : Small t) (k : Nat) (u : Unt) (hu : t.units[k]? = some u) : Does Try.prog 21 [.agg cs.toArray, .int .i64 (k : Int)] [Ag tyRTg cs t] []
    (fun s : Option Addr × Nat => .slice s.1 (outOf t u).length s.2) (fun s => [Sl Ty.int s.1 s.2 (outOf t u)]) (fun _ => []) := by
  have := rout_spec cs t hs k
  rw [out_some hu] at this
  exact this
set_option maxHeartbeats 4000000 in
theorem runit_spec (cs : List Value) (t : RTg) (hs : Small t) (k : Nat) (u : Unt) (hu : t.units[k]? = some u) : Does Try.prog 32 [.agg cs.toArray, .int .i64 (k : Int)] [Ag tyRTg cs t] [] (fun _ : Unit => .bool (decide (UnitHd t u))) (fun _ => []) (fun _ => []) := by
  refine enter Try.func32 rfl Try.ntmps32 rfl fun b => ?_
  have hkl := (List.getElem?_eq_some_iff.1 hu).1
  have hur := hs.unit u (List.mem_of_getElem? hu)
  refine GX.wRN ?_; intros
  apply GX.region
  refine GX.wRN ?_; intros
  apply GX.region
  refine GX.wRN ?_; intros
  refine GX.nmP 2 ?_; rintro b2 rfl
  refine GX.nmP 5 ?_; rintro b5 rfl
  refine frzB b5 ?_
  refine GX.cut (σ := Bool) (fun p => [(1, .int .i64 (k : Int)), (2, .pointer (some ⟨b2, 0, none⟩)), (5, .pointer (some ⟨b5, 0, none⟩)), (59, .bool p)]) (fun _ => []) (fun _ => []) (fun p => p = decide (¬ HdA t u)) ?_ (fun p hp => ?_)
  · by_cases h1 : u.params < 0
    · refine GX.wR ?_; intros
      exact meet true ⟨rfl, rfl, rfl, rfl, trivial⟩ (decide_eq_true (show ¬ HdA t u from fun h => by have := h.1.1; omega)).symm
    by_cases h2 : 6 < u.params
    · refine GX.wR ?_; intros
      exact meet true ⟨rfl, rfl, rfl, rfl, trivial⟩ (decide_eq_true (show ¬ HdA t u from fun h => by have := h.1.2.1; omega)).symm
    by_cases h3 : (u.vars.length : Int) < u.params
    · refine GX.wR ?_; intros
      exact meet true ⟨rfl, rfl, rfl, rfl, trivial⟩ (decide_eq_true (show ¬ HdA t u from fun h => by have := h.1.2.2.1; omega)).symm
    by_cases h4 : 4000 < (u.vars.length : Int)
    · refine GX.wR ?_; intros
      exact meet true ⟨rfl, rfl, rfl, rfl, trivial⟩ (decide_eq_true (show ¬ HdA t u from fun h => by have := h.1.2.2.2; omega)).symm
    refine GX.wR ?_; intros
    refine GX.nmS 38 ?_; rintro aV cV rfl rfl
    refine GX.o (cl (rentries_spec _ t aV cV u.vars) fun _ => ?_)
    by_cases h5 : Entries t u.vars
    · have h5' := Classical.not_not.2 h5
      have ei : (u.ins.length : Int) < 1 ↔ u.ins = [] := by rw [← List.length_eq_zero_iff]; omega
      by_cases h6 : u.result = -3
      · have h6' := Classical.not_not.2 h6
        refine GX.wR ?_; intros
        refine meet _ ⟨rfl, rfl, rfl, rfl, trivial⟩ (decide_eq_decide.2 (ei.trans ⟨fun h7 h => h.2.2.2 h7, fun h => Classical.byContradiction fun h7 => h ⟨by omega, h5, .inl h6, h7⟩⟩))
      · refine GX.wR ?_; intros
        refine GX.o (cl (entry_spec _ t u.result) fun _ => ?_)
        by_cases h7 : IsEntry t u.result
        · have h7' := Classical.not_not.2 h7
          refine GX.wR ?_; intros
          refine meet _ ⟨rfl, rfl, rfl, rfl, trivial⟩ (decide_eq_decide.2 (ei.trans ⟨fun h7 h => h.2.2.2 h7, fun h => Classical.byContradiction fun h8 => h ⟨by omega, h5, .inr h7, h8⟩⟩))
        · refine GX.wR ?_; intros
          exact meet true ⟨rfl, rfl, rfl, rfl, trivial⟩ (decide_eq_true (show ¬ HdA t u from fun h => h.2.2.1.elim h6 h7)).symm
    · refine GX.wR ?_; intros
      exact meet true ⟨rfl, rfl, rfl, rfl, trivial⟩ (decide_eq_true (show ¬ HdA t u from fun h => h5 h.2.1)).symm
  refine GX.csb (fun hpt => ?_) (fun hpf => ?_)
  · have hH : ¬ HdA t u := of_decide_eq_true (hp.symm.trans hpt)
    refine GX.wR ?_; intros
    exact rt1 () (vN fun h => hH ⟨h.1, h.2.1, h.2.2.1, h.2.2.2.1⟩)
  have hH : HdA t u := Classical.not_not.1 (of_decide_eq_false (hp.symm.trans hpf))
  refine GX.wR ?_; intros
  by_cases g1 : Rise u.takes
  rotate_left
  · refine GX.drawn0  (fun j => !(List.contains [2, 7, 16] j)) [(0, true), (1, true), (2, false), (3, true), (4, true), (5, true), (6, true), (7, false), (8, true), (9, true), (10, true), (11, true), (12, true), (13, true), (14, true), (15, false), (16, false), (17, true), (18, true)] rfl (by kernel_rfl) (by kernel_rfl) (by first | ((repeat (first | apply Go.GX.SelR.nil | apply Go.GX.SelR.cons | (with_reducible apply Go.GX.TakeR.head) | apply Go.GX.TakeR.tail)); done) | (repeat (first | apply Go.GX.SelR.nil | apply Go.GX.SelR.cons | apply Go.GX.TakeR.head | apply Go.GX.TakeR.tail))) ?_; intro wd F hW hR
    refine GX.wT ?_; intros
    refine GX.nmS 61 ?_; rintro aT cT rfl rfl
    refine GX.gow ?_
    refine (cl (rrising_spec aT cT u.takes) fun _ => ?_)
    refine GX.wT ?_; intros
    refine GX.wR ?_; intros
    exact rt1 () (vN fun h => g1 h.2.2.2.2.1.1)
  have g1' := Classical.not_not.2 g1
  by_cases g2 : Rise u.owns
  rotate_left
  · refine GX.drawn0  (fun j => !(List.contains [2, 7, 16] j)) [(0, true), (1, true), (2, false), (3, true), (4, true), (5, true), (6, true), (7, false), (8, true), (9, true), (10, true), (11, true), (12, true), (13, true), (14, true), (15, false), (16, false), (17, true), (18, true)] rfl (by kernel_rfl) (by kernel_rfl) (by first | ((repeat (first | apply Go.GX.SelR.nil | apply Go.GX.SelR.cons | (with_reducible apply Go.GX.TakeR.head) | apply Go.GX.TakeR.tail)); done) | (repeat (first | apply Go.GX.SelR.nil | apply Go.GX.SelR.cons | apply Go.GX.TakeR.head | apply Go.GX.TakeR.tail))) ?_; intro wd F hW hR
    refine GX.wT ?_; intros
    refine GX.nmS 61 ?_; rintro aT cT rfl rfl
    refine GX.gow ?_
    refine (cl (rrising_spec aT cT u.takes) fun _ => ?_)
    refine GX.wT ?_; intros
    refine GX.nmS 66 ?_; rintro aO cO rfl rfl
    refine GX.gow ?_
    refine (cl (rrising_spec aO cO u.owns) fun _ => ?_)
    refine GX.wT ?_; intros
    refine GX.wR ?_; intros
    exact rt1 () (vN fun h => g2 h.2.2.2.2.2.1.1)
  have g2' := Classical.not_not.2 g2
  refine GX.drawn0  (fun j => !(List.contains [2, 7, 16] j)) [(0, true), (1, true), (2, false), (3, true), (4, true), (5, true), (6, true), (7, false), (8, true), (9, true), (10, true), (11, true), (12, true), (13, true), (14, true), (15, false), (16, false), (17, true), (18, true)] rfl (by kernel_rfl) (by kernel_rfl) (by first | ((repeat (first | apply Go.GX.SelR.nil | apply Go.GX.SelR.cons | (with_reducible apply Go.GX.TakeR.head) | apply Go.GX.TakeR.tail)); done) | (repeat (first | apply Go.GX.SelR.nil | apply Go.GX.SelR.cons | apply Go.GX.TakeR.head | apply Go.GX.TakeR.tail))) ?_; intro wd F hW hR
  refine GX.wT ?_; intros
  refine GX.nmS 61 ?_; rintro aT cT rfl rfl
  refine GX.gow ?_
  refine (cl (rrising_spec aT cT u.takes) fun _ => ?_)
  refine GX.wT ?_; intros
  refine GX.nmS 66 ?_; rintro aO cO rfl rfl
  refine GX.gow ?_
  refine (cl (rrising_spec aO cO u.owns) fun _ => ?_)
  refine GX.wT ?_; intros
  refine GX.nmS 72 ?_; rintro aT2 cT2 rfl rfl
  refine GX.gow ?_
  refine (cl (routU_spec _ t hs k u hu) fun s => ?_)
  obtain ⟨aU, cU⟩ := s
  dsimp only
  refine GX.wT ?_; intros
  refine GX.gow ?_
  refine (cl (all2_spec aT2 aU cT2 cU u.takes (outOf t u)) fun _ => ?_)
  refine GX.wT ?_; intros
  by_cases g3 : ∀ c ∈ u.takes, c ∈ outOf t u
  rotate_left
  · refine GX.wR ?_; intros
    exact rt1 () (vN fun h => g3 h.2.2.2.2.1.2)
  have g3' := Classical.not_not.2 g3
  refine GX.wR ?_; intros
  refine GX.loop (σ := Nat) (fun i => [(1, .int .i64 (k : Int)), (2, .pointer (some ⟨b2, 0, none⟩)), (5, .pointer (some ⟨b5, 0, none⟩)), (6, .int .i64 (i : Int))]) (fun _ => []) (fun _ => [])
    (fun i => i ≤ u.owns.length ∧ ∀ c ∈ u.owns.take i, IsClass t c ∧ c ∉ outOf t u ∧ c ∉ glob t) (fun i => u.owns.length - i) 0 ⟨rfl, rfl, rfl, rfl, trivial⟩ ⟨by omega, by simp⟩ (fun i hi => ?_)
  obtain ⟨hi, hA⟩ := hi
  by_cases hlt : i < u.owns.length
  · obtain ⟨x, hx⟩ := get_lt hlt
    have hm := List.mem_of_getElem? hx
    have no : ¬ (IsClass t x ∧ x ∉ outOf t u ∧ x ∉ glob t) → ¬ UnitHd t u := fun h h2 => h (h2.2.2.2.2.2.1.2 x hm)
    by_cases q1 : x < 0
    · refine GX.wR ?_; intros
      refine GX.drawn0  (fun j => !(List.contains [26, 36] j)) [(0, true), (1, true), (2, true), (3, true), (4, true), (5, true), (6, true), (7, true), (8, true), (9, true), (10, true), (11, true), (12, true), (13, true), (14, true), (15, true), (16, true), (17, true), (18, true), (19, true), (21, true), (22, true), (23, true), (24, true), (25, true), (20, false), (26, false), (27, true), (28, true), (29, true), (31, true), (32, true), (33, true), (34, true), (35, true), (30, false), (36, false), (37, true)] rfl (by kernel_rfl) (by kernel_rfl) (by first | ((repeat (first | apply Go.GX.SelR.nil | apply Go.GX.SelR.cons | (with_reducible apply Go.GX.TakeR.head) | apply Go.GX.TakeR.tail)); done) | (repeat (first | apply Go.GX.SelR.nil | apply Go.GX.SelR.cons | apply Go.GX.TakeR.head | apply Go.GX.TakeR.tail))) ?_; intro wd F hW hR
      refine GX.wT ?_; intros
      refine GX.wR ?_; intros
      exact rt1 () (vN (no fun h => by have := h.1.1; omega))
    by_cases q2 : (t.classes.length : Int) ≤ x
    · refine GX.wR ?_; intros
      refine GX.drawn0  (fun j => !(List.contains [26, 36] j)) [(0, true), (1, true), (2, true), (3, true), (4, true), (5, true), (6, true), (7, true), (8, true), (9, true), (10, true), (11, true), (12, true), (13, true), (14, true), (15, true), (16, true), (17, true), (18, true), (19, true), (21, true), (22, true), (23, true), (24, true), (25, true), (20, false), (26, false), (27, true), (28, true), (29, true), (31, true), (32, true), (33, true), (34, true), (35, true), (30, false), (36, false), (37, true)] rfl (by kernel_rfl) (by kernel_rfl) (by first | ((repeat (first | apply Go.GX.SelR.nil | apply Go.GX.SelR.cons | (with_reducible apply Go.GX.TakeR.head) | apply Go.GX.TakeR.tail)); done) | (repeat (first | apply Go.GX.SelR.nil | apply Go.GX.SelR.cons | apply Go.GX.TakeR.head | apply Go.GX.TakeR.tail))) ?_; intro wd F hW hR
      refine GX.wT ?_; intros
      refine GX.wR ?_; intros
      exact rt1 () (vN (no fun h => by have := h.1.2; omega))
    by_cases q3 : x ∈ outOf t u
    · refine GX.wR ?_; intros
      refine GX.drawn0  (fun j => !(List.contains [26, 36] j)) [(0, true), (1, true), (2, true), (3, true), (4, true), (5, true), (6, true), (7, true), (8, true), (9, true), (10, true), (11, true), (12, true), (13, true), (14, true), (15, true), (16, true), (17, true), (18, true), (19, true), (21, true), (22, true), (23, true), (24, true), (25, true), (20, false), (26, false), (27, true), (28, true), (29, true), (31, true), (32, true), (33, true), (34, true), (35, true), (30, false), (36, false), (37, true)] rfl (by kernel_rfl) (by kernel_rfl) (by first | ((repeat (first | apply Go.GX.SelR.nil | apply Go.GX.SelR.cons | (with_reducible apply Go.GX.TakeR.head) | apply Go.GX.TakeR.tail)); done) | (repeat (first | apply Go.GX.SelR.nil | apply Go.GX.SelR.cons | apply Go.GX.TakeR.head | apply Go.GX.TakeR.tail))) ?_; intro wd F hW hR
      refine GX.wT ?_; intros
      refine GX.gow ?_
      refine (cl (routU_spec _ t hs k u hu) fun s => ?_)
      obtain ⟨aP, cP⟩ := s
      dsimp only
      refine GX.wT ?_; intros
      refine GX.gow ?_
      refine (cl (in_spec aP cP (outOf t u) x) fun _ => ?_)
      refine GX.wT ?_; intros
      refine GX.wR ?_; intros
      exact rt1 () (vN (no fun h => h.2.1 q3))
    refine GX.wR ?_; intros
    refine GX.drawn0  (fun j => !(List.contains [26, 36] j)) [(0, true), (1, true), (2, true), (3, true), (4, true), (5, true), (6, true), (7, true), (8, true), (9, true), (10, true), (11, true), (12, true), (13, true), (14, true), (15, true), (16, true), (17, true), (18, true), (19, true), (21, true), (22, true), (23, true), (24, true), (25, true), (20, false), (26, false), (27, true), (28, true), (29, true), (31, true), (32, true), (33, true), (34, true), (35, true), (30, false), (36, false), (37, true)] rfl (by kernel_rfl) (by kernel_rfl) (by first | ((repeat (first | apply Go.GX.SelR.nil | apply Go.GX.SelR.cons | (with_reducible apply Go.GX.TakeR.head) | apply Go.GX.TakeR.tail)); done) | (repeat (first | apply Go.GX.SelR.nil | apply Go.GX.SelR.cons | apply Go.GX.TakeR.head | apply Go.GX.TakeR.tail))) ?_; intro wd F hW hR
    refine GX.wT ?_; intros
    refine GX.gow ?_
    refine (cl (routU_spec _ t hs k u hu) fun s => ?_)
    obtain ⟨aP, cP⟩ := s
    dsimp only
    refine GX.wT ?_; intros
    refine GX.gow ?_
    refine (cl (in_spec aP cP (outOf t u) x) fun _ => ?_)
    refine GX.wT ?_; intros
    refine GX.gow ?_
    refine (cl (rglobal_spec _ t hs) fun s => ?_)
    obtain ⟨aG, cG⟩ := s
    dsimp only
    refine GX.wT ?_; intros
    refine GX.gow ?_
    refine (cl (in_spec aG cG (glob t) x) fun _ => ?_)
    refine GX.wT ?_; intros
    by_cases q4 : x ∈ glob t
    · refine GX.wR ?_; intros
      exact rt1 () (vN (no fun h => h.2.2 q4))
    · refine GX.wR ?_; intros
      refine again (i + 1) ⟨rfl, rfl, rfl, rfl, trivial⟩ ⟨by omega, fun y hy => ?_⟩ (by omega)
      rw [List.take_add_one, hx, List.mem_append] at hy
      rcases hy with hy | hy
      · exact hA y hy
      · simp at hy; subst hy; exact ⟨⟨by omega, by omega⟩, q3, q4⟩
  · rw [List.take_of_length_le (by omega)] at hA
    have hne : u.ins.length ≠ 0 := fun h => hH.2.2.2 (List.length_eq_zero_iff.1 h)
    obtain ⟨m, hm⟩ : ∃ m, u.ins.length = m + 1 := ⟨u.ins.length - 1, by omega⟩
    obtain ⟨x, hx⟩ := get_lt (show m < u.ins.length by omega)
    have hlo : lastOp u = x.op := by unfold lastOp; rw [hm, Nat.add_sub_cancel, hx]
    have all : (x.op = 16 ∨ x.op = 17 ∨ x.op = 18) ↔ UnitHd t u := ⟨fun h => ⟨hH.1, hH.2.1, hH.2.2.1, hH.2.2.2, ⟨g1, g3⟩, ⟨g2, hA⟩, by rw [hlo]; exact h⟩, fun h => by rw [← hlo]; exact h.2.2.2.2.2.2⟩
    by_cases g4 : x.op = 16
    · refine GX.wR ?_; intros
      exact rt1 () (vY (all.1 (.inl g4)))
    · by_cases g5 : x.op = 17
      · refine GX.wR ?_; intros
        exact rt1 () (vY (all.1 (.inr (.inl g5))))
      · refine GX.wR ?_; intros
        exact rt1 () (vI (all.symm.trans ⟨fun h => h.elim (fun h => absurd h g4) fun h => h.elim (fun h => absurd h g5) id, fun h => .inr (.inr h)⟩))
end Go.Proofs.Ytfhbainbmipddaa
