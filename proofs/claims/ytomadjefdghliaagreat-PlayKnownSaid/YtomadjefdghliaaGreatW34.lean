import Derived.Test.YtomadjefdghliaaGreatW2
import Derived.Test.YtomadjefdghliaaGreatW29
import Derived.Test.YtomadjefdghliaaGreatW31
import Derived.Test.YtomadjefdghliaaGreatW33
/- The walks over unit and Right of the reference of chapter 26. -/
namespace Go.Proofs.YtomadjefdghliaaGreat
open Go Go.RR Go.RX Go.GX Go.Api Go.RiseM Go.ReachM Go.RtM
attribute [local irreducible] wpList Code.wp wpPlan Exit.then Exit.inBlock bodyPost NoPanic Went GX.Post GX.Again GX.Meet GX.RowR GX.Own GX.Owns GX.Box GX.Sl GX.Pt GX.Ag GX.MapR GX.Kept GX.Pin wpT GoK AtEnd Both

theorem routU_spec (cs : List Value) (t : RTg) (hs : Small t) (k : Nat) (u : Unt) (hu : t.units[k]? = some u) : Does Tryz.prog 85 [.agg cs.toArray, .int .i64 (k : Int)] [Ag tyRTg cs t] []
    (fun s : Option Addr × Nat => .slice s.1 (outOf t u).length s.2) (fun s => [Sl Ty.int s.1 s.2 (outOf t u)]) (fun _ => []) := by
  have := rout_spec cs t hs k
  rw [out_some hu] at this
  exact this
set_option maxHeartbeats 4000000 in
theorem runit_spec (cs : List Value) (t : RTg) (hs : Small t) (k : Nat) (u : Unt) (hu : t.units[k]? = some u) : Does Tryz.prog 36 [.agg cs.toArray, .int .i64 (k : Int)] [Ag tyRTg cs t] [] (fun _ : Unit => .bool (decide (UnitHd t u))) (fun _ => []) (fun _ => []) := by
  refine enter Tryz.func36 rfl Tryz.ntmps36 rfl fun b => ?_
  have hkl := (List.getElem?_eq_some_iff.1 hu).1
  have hur := hs.unit u (List.mem_of_getElem? hu)
  refine GX.wRN ?_; intros
  apply GX.region
  refine GX.wRN ?_; intros
  apply GX.region
  refine GX.wRN ?_; intros
  refine GX.nmP 2 ?_; rintro b2 rfl
  refine GX.nmP 5 ?_; rintro b5 rfl
  refine frzB b5 ?_
  refine GX.cut (σ := Bool) (fun p => [(1, .int .i64 (k : Int)), (2, .pointer (some ⟨b2, 0, none⟩)), (5, .pointer (some ⟨b5, 0, none⟩)), (59, .bool p)]) (fun _ => []) (fun _ => []) (fun p => p = decide (¬ HdA t u)) ?_ (fun p hp => ?_)
  · by_cases h1 : u.params < 0
    · refine GX.wR ?_; intros
      exact meet true ⟨rfl, rfl, rfl, rfl, trivial⟩ (decide_eq_true (show ¬ HdA t u from fun h => by have := h.1.1; omega)).symm
    by_cases h2 : 6 < u.params
    · refine GX.wR ?_; intros
      exact meet true ⟨rfl, rfl, rfl, rfl, trivial⟩ (decide_eq_true (show ¬ HdA t u from fun h => by have := h.1.2.1; omega)).symm
    by_cases h3 : (u.vars.length : Int) < u.params
    · refine GX.wR ?_; intros
      exact meet true ⟨rfl, rfl, rfl, rfl, trivial⟩ (decide_eq_true (show ¬ HdA t u from fun h => by have := h.1.2.2.1; omega)).symm
    by_cases h4 : 4000 < (u.vars.length : Int)
    · refine GX.wR ?_; intros
      exact meet true ⟨rfl, rfl, rfl, rfl, trivial⟩ (decide_eq_true (show ¬ HdA t u from fun h => by have := h.1.2.2.2; omega)).symm
    refine GX.wR ?_; intros
    refine GX.nmS 38 ?_; rintro aV cV rfl rfl
    refine GX.o (cl (rentries_spec _ t aV cV u.vars) fun _ => ?_)
    by_cases h5 : Entries t u.vars
    · have h5' := Classical.not_not.2 h5
      have ei : (u.ins.length : Int) < 1 ↔ u.ins = [] := by rw [← List.length_eq_zero_iff]; omega
      by_cases h6 : u.result = -3
      · have h6' := Classical.not_not.2 h6
        refine GX.wR ?_; intros
        refine meet _ ⟨rfl, rfl, rfl, rfl, trivial⟩ (decide_eq_decide.2 (ei.trans ⟨fun h7 h => h.2.2.2 h7, fun h => Classical.byContradiction fun h7 => h ⟨by omega, h5, .inl h6, h7⟩⟩))
      · refine GX.wR ?_; intros
        refine GX.o (cl (entry_spec _ t u.result) fun _ => ?_)
        by_cases h7 : IsEntry t u.result
        · have h7' := Classical.not_not.2 h7
          refine GX.wR ?_; intros
          refine meet _ ⟨rfl, rfl, rfl, rfl, trivial⟩ (decide_eq_decide.2 (ei.trans ⟨fun h7 h => h.2.2.2 h7, fun h => Classical.byContradiction fun h8 => h ⟨by omega, h5, .inr h7, h8⟩⟩))
        · refine GX.wR ?_; intros
          exact meet true ⟨rfl, rfl, rfl, rfl, trivial⟩ (decide_eq_true (show ¬ HdA t u from fun h => h.2.2.1.elim h6 h7)).symm
    · refine GX.wR ?_; intros
      exact meet true ⟨rfl, rfl, rfl, rfl, trivial⟩ (decide_eq_true (show ¬ HdA t u from fun h => h5 h.2.1)).symm
  refine GX.csb (fun hpt => ?_) (fun hpf => ?_)
  · have hH : ¬ HdA t u := of_decide_eq_true (hp.symm.trans hpt)
    refine GX.wR ?_; intros
    exact rt1 () (vN fun h => hH ⟨h.1, h.2.1, h.2.2.1, h.2.2.2.1⟩)
  have hH : HdA t u := Classical.not_not.1 (of_decide_eq_false (hp.symm.trans hpf))
  refine GX.wR ?_; intros
  by_cases g1 : Rise u.takes
  rotate_left
  · refine GX.drawn0  (fun j => !(List.contains [2, 7, 16] j)) [(0, true), (1, true), (2, false), (3, true), (4, true), (5, true), (6, true), (7, false), (8, true), (9, true), (10, true), (11, true), (12, true), (13, true), (14, true), (15, false), (16, false), (17, true), (18, true)] rfl (by kernel_rfl) (by kernel_rfl) (by first | ((repeat (first | apply Go.GX.SelR.nil | apply Go.GX.SelR.cons | (with_reducible apply Go.GX.TakeR.head) | apply Go.GX.TakeR.tail)); done) | (repeat (first | apply Go.GX.SelR.nil | apply Go.GX.SelR.cons | apply Go.GX.TakeR.head | apply Go.GX.TakeR.tail))) ?_; intro wd F hW hR
    refine GX.wT ?_; intros
    refine GX.nmS 61 ?_; rintro aT cT rfl rfl
    refine GX.gow ?_
    refine (cl (rrising_spec aT cT u.takes) fun _ => ?_)
    refine GX.wT ?_; intros
    refine GX.wR ?_; intros
    exact rt1 () (vN fun h => g1 h.2.2.2.2.1.1)
  have g1' := Classical.not_not.2 g1
  by_cases g2 : Rise u.owns
  rotate_left
  · refine GX.drawn0  (fun j => !(List.contains [2, 7, 16] j)) [(0, true), (1, true), (2, false), (3, true), (4, true), (5, true), (6, true), (7, false), (8, true), (9, true), (10, true), (11, true), (12, true), (13, true), (14, true), (15, false), (16, false), (17, true), (18, true)] rfl (by kernel_rfl) (by kernel_rfl) (by first | ((repeat (first | apply Go.GX.SelR.nil | apply Go.GX.SelR.cons | (with_reducible apply Go.GX.TakeR.head) | apply Go.GX.TakeR.tail)); done) | (repeat (first | apply Go.GX.SelR.nil | apply Go.GX.SelR.cons | apply Go.GX.TakeR.head | apply Go.GX.TakeR.tail))) ?_; intro wd F hW hR
    refine GX.wT ?_; intros
    refine GX.nmS 61 ?_; rintro aT cT rfl rfl
    refine GX.gow ?_
    refine (cl (rrising_spec aT cT u.takes) fun _ => ?_)
    refine GX.wT ?_; intros
    refine GX.nmS 66 ?_; rintro aO cO rfl rfl
    refine GX.gow ?_
    refine (cl (rrising_spec aO cO u.owns) fun _ => ?_)
    refine GX.wT ?_; intros
    refine GX.wR ?_; intros
    exact rt1 () (vN fun h => g2 h.2.2.2.2.2.1.1)
  have g2' := Classical.not_not.2 g2
  refine GX.drawn0  (fun j => !(List.contains [2, 7, 16] j)) [(0, true), (1, true), (2, false), (3, true), (4, true), (5, true), (6, true), (7, false), (8, true), (9, true), (10, true), (11, true), (12, true), (13, true), (14, true), (15, false), (16, false), (17, true), (18, true)] rfl (by kernel_rfl) (by kernel_rfl) (by first | ((repeat (first | apply Go.GX.SelR.nil | apply Go.GX.SelR.cons | (with_reducible apply Go.GX.TakeR.head) | apply Go.GX.TakeR.tail)); done) | (repeat (first | apply Go.GX.SelR.nil | apply Go.GX.SelR.cons | apply Go.GX.TakeR.head | apply Go.GX.TakeR.tail))) ?_; intro wd F hW hR
  refine GX.wT ?_; intros
  refine GX.nmS 61 ?_; rintro aT cT rfl rfl
  refine GX.gow ?_
  refine (cl (rrising_spec aT cT u.takes) fun _ => ?_)
  refine GX.wT ?_; intros
  refine GX.nmS 66 ?_; rintro aO cO rfl rfl
  refine GX.gow ?_
  refine (cl (rrising_spec aO cO u.owns) fun _ => ?_)
  refine GX.wT ?_; intros
  refine GX.nmS 72 ?_; rintro aT2 cT2 rfl rfl
  refine GX.gow ?_
  refine (cl (routU_spec _ t hs k u hu) fun s => ?_)
  obtain ⟨aU, cU⟩ := s
  dsimp only
  refine GX.wT ?_; intros
  refine GX.gow ?_
  refine (cl (all2_spec aT2 aU cT2 cU u.takes (outOf t u)) fun _ => ?_)
  refine GX.wT ?_; intros
  by_cases g3 : ∀ c ∈ u.takes, c ∈ outOf t u
  rotate_left
  · refine GX.wR ?_; intros
    exact rt1 () (vN fun h => g3 h.2.2.2.2.1.2)
  have g3' := Classical.not_not.2 g3
  refine GX.wR ?_; intros
  refine GX.loop (σ := Nat) (fun i => [(1, .int .i64 (k : Int)), (2, .pointer (some ⟨b2, 0, none⟩)), (5, .pointer (some ⟨b5, 0, none⟩)), (6, .int .i64 (i : Int))]) (fun _ => []) (fun _ => [])
    (fun i => i ≤ u.owns.length ∧ ∀ c ∈ u.owns.take i, IsClass t c ∧ c ∉ outOf t u ∧ c ∉ glob t) (fun i => u.owns.length - i) 0 ⟨rfl, rfl, rfl, rfl, trivial⟩ ⟨by omega, by simp⟩ (fun i hi => ?_)
  obtain ⟨hi, hA⟩ := hi
  by_cases hlt : i < u.owns.length
  · obtain ⟨x, hx⟩ := get_lt hlt
    have hm := List.mem_of_getElem? hx
    have no : ¬ (IsClass t x ∧ x ∉ outOf t u ∧ x ∉ glob t) → ¬ UnitHd t u := fun h h2 => h (h2.2.2.2.2.2.1.2 x hm)
    by_cases q1 : x < 0
    · refine GX.wR ?_; intros
      refine GX.drawn0  (fun j => !(List.contains [26, 36] j)) [(0, true), (1, true), (2, true), (3, true), (4, true), (5, true), (6, true), (7, true), (8, true), (9, true), (10, true), (11, true), (12, true), (13, true), (14, true), (15, true), (16, true), (17, true), (18, true), (19, true), (21, true), (22, true), (23, true), (24, true), (25, true), (20, false), (26, false), (27, true), (28, true), (29, true), (31, true), (32, true), (33, true), (34, true), (35, true), (30, false), (36, false), (37, true)] rfl (by kernel_rfl) (by kernel_rfl) (by first | ((repeat (first | apply Go.GX.SelR.nil | apply Go.GX.SelR.cons | (with_reducible apply Go.GX.TakeR.head) | apply Go.GX.TakeR.tail)); done) | (repeat (first | apply Go.GX.SelR.nil | apply Go.GX.SelR.cons | apply Go.GX.TakeR.head | apply Go.GX.TakeR.tail))) ?_; intro wd F hW hR
      refine GX.wT ?_; intros
      refine GX.wR ?_; intros
      exact rt1 () (vN (no fun h => by have := h.1.1; omega))
    by_cases q2 : (t.classes.length : Int) ≤ x
    · refine GX.wR ?_; intros
      refine GX.drawn0  (fun j => !(List.contains [26, 36] j)) [(0, true), (1, true), (2, true), (3, true), (4, true), (5, true), (6, true), (7, true), (8, true), (9, true), (10, true), (11, true), (12, true), (13, true), (14, true), (15, true), (16, true), (17, true), (18, true), (19, true), (21, true), (22, true), (23, true), (24, true), (25, true), (20, false), (26, false), (27, true), (28, true), (29, true), (31, true), (32, true), (33, true), (34, true), (35, true), (30, false), (36, false), (37, true)] rfl (by kernel_rfl) (by kernel_rfl) (by first | ((repeat (first | apply Go.GX.SelR.nil | apply Go.GX.SelR.cons | (with_reducible apply Go.GX.TakeR.head) | apply Go.GX.TakeR.tail)); done) | (repeat (first | apply Go.GX.SelR.nil | apply Go.GX.SelR.cons | apply Go.GX.TakeR.head | apply Go.GX.TakeR.tail))) ?_; intro wd F hW hR
      refine GX.wT ?_; intros
      refine GX.wR ?_; intros
      exact rt1 () (vN (no fun h => by have := h.1.2; omega))
    by_cases q3 : x ∈ outOf t u
    · refine GX.wR ?_; intros
      refine GX.drawn0  (fun j => !(List.contains [26, 36] j)) [(0, true), (1, true), (2, true), (3, true), (4, true), (5, true), (6, true), (7, true), (8, true), (9, true), (10, true), (11, true), (12, true), (13, true), (14, true), (15, true), (16, true), (17, true), (18, true), (19, true), (21, true), (22, true), (23, true), (24, true), (25, true), (20, false), (26, false), (27, true), (28, true), (29, true), (31, true), (32, true), (33, true), (34, true), (35, true), (30, false), (36, false), (37, true)] rfl (by kernel_rfl) (by kernel_rfl) (by first | ((repeat (first | apply Go.GX.SelR.nil | apply Go.GX.SelR.cons | (with_reducible apply Go.GX.TakeR.head) | apply Go.GX.TakeR.tail)); done) | (repeat (first | apply Go.GX.SelR.nil | apply Go.GX.SelR.cons | apply Go.GX.TakeR.head | apply Go.GX.TakeR.tail))) ?_; intro wd F hW hR
      refine GX.wT ?_; intros
      refine GX.gow ?_
      refine (cl (routU_spec _ t hs k u hu) fun s => ?_)
      obtain ⟨aP, cP⟩ := s
      dsimp only
      refine GX.wT ?_; intros
      refine GX.gow ?_
      refine (cl (in_spec aP cP (outOf t u) x) fun _ => ?_)
      refine GX.wT ?_; intros
      refine GX.wR ?_; intros
      exact rt1 () (vN (no fun h => h.2.1 q3))
    refine GX.wR ?_; intros
    refine GX.drawn0  (fun j => !(List.contains [26, 36] j)) [(0, true), (1, true), (2, true), (3, true), (4, true), (5, true), (6, true), (7, true), (8, true), (9, true), (10, true), (11, true), (12, true), (13, true), (14, true), (15, true), (16, true), (17, true), (18, true), (19, true), (21, true), (22, true), (23, true), (24, true), (25, true), (20, false), (26, false), (27, true), (28, true), (29, true), (31, true), (32, true), (33, true), (34, true), (35, true), (30, false), (36, false), (37, true)] rfl (by kernel_rfl) (by kernel_rfl) (by first | ((repeat (first | apply Go.GX.SelR.nil | apply Go.GX.SelR.cons | (with_reducible apply Go.GX.TakeR.head) | apply Go.GX.TakeR.tail)); done) | (repeat (first | apply Go.GX.SelR.nil | apply Go.GX.SelR.cons | apply Go.GX.TakeR.head | apply Go.GX.TakeR.tail))) ?_; intro wd F hW hR
    refine GX.wT ?_; intros
    refine GX.gow ?_
    refine (cl (routU_spec _ t hs k u hu) fun s => ?_)
    obtain ⟨aP, cP⟩ := s
    dsimp only
    refine GX.wT ?_; intros
    refine GX.gow ?_
    refine (cl (in_spec aP cP (outOf t u) x) fun _ => ?_)
    refine GX.wT ?_; intros
    refine GX.gow ?_
    refine (cl (rglobal_spec _ t hs) fun s => ?_)
    obtain ⟨aG, cG⟩ := s
    dsimp only
    refine GX.wT ?_; intros
    refine GX.gow ?_
    refine (cl (in_spec aG cG (glob t) x) fun _ => ?_)
    refine GX.wT ?_; intros
    by_cases q4 : x ∈ glob t
    · refine GX.wR ?_; intros
      exact rt1 () (vN (no fun h => h.2.2 q4))
    · refine GX.wR ?_; intros
      refine again (i + 1) ⟨rfl, rfl, rfl, rfl, trivial⟩ ⟨by omega, fun y hy => ?_⟩ (by omega)
      rw [List.take_add_one, hx, List.mem_append] at hy
      rcases hy with hy | hy
      · exact hA y hy
      · simp at hy; subst hy; exact ⟨⟨by omega, by omega⟩, q3, q4⟩
  · rw [List.take_of_length_le (by omega)] at hA
    have hne : u.ins.length ≠ 0 := fun h => hH.2.2.2 (List.length_eq_zero_iff.1 h)
    obtain ⟨m, hm⟩ : ∃ m, u.ins.length = m + 1 := ⟨u.ins.length - 1, by omega⟩
    obtain ⟨x, hx⟩ := get_lt (show m < u.ins.length by omega)
    have hlo : lastOp u = x.op := by unfold lastOp; rw [hm, Nat.add_sub_cancel, hx]
    have all : (x.op = 16 ∨ x.op = 17 ∨ x.op = 18) ↔ UnitHd t u := ⟨fun h => ⟨hH.1, hH.2.1, hH.2.2.1, hH.2.2.2, ⟨g1, g3⟩, ⟨g2, hA⟩, by rw [hlo]; exact h⟩, fun h => by rw [← hlo]; exact h.2.2.2.2.2.2⟩
    by_cases g4 : x.op = 16
    · refine GX.wR ?_; intros
      exact rt1 () (vY (all.1 (.inl g4)))
    · by_cases g5 : x.op = 17
      · refine GX.wR ?_; intros
        exact rt1 () (vY (all.1 (.inr (.inl g5))))
      · refine GX.wR ?_; intros
        exact rt1 () (vI (all.symm.trans ⟨fun h => h.elim (fun h => absurd h g4) fun h => h.elim (fun h => absurd h g5) id, fun h => .inr (.inr h)⟩))
end Go.Proofs.YtomadjefdghliaaGreat

/- The walk over Right of the reference of chapter 26. -/
namespace Go.Proofs.YtomadjefdghliaaGreat
open Go Go.RR Go.RX Go.GX Go.Api Go.RiseM Go.ReachM Go.RtM
attribute [local irreducible] wpList Code.wp wpPlan Exit.then Exit.inBlock bodyPost NoPanic Went GX.Post GX.Again GX.Meet GX.RowR GX.Own GX.Owns GX.Box GX.Sl GX.Pt GX.Ag GX.MapR GX.Kept GX.Pin wpT GoK AtEnd Both

theorem hds_of {t : RTg} {u : Unt} (hu : u ∈ t.units) (h1 : ∀ L ∈ t.classes, LayoutOk t L) (h2 : Entries t t.globals) (h3 : ∀ u ∈ t.units, UnitHd t u) : Hds t u :=
  ⟨h1, (h3 u hu).2.1, (h3 u hu).2.2.1, h2, fun g hg => ⟨(h3 g hg).2.1, (h3 g hg).2.2.1, (h3 g hg).1.1⟩⟩
/-- Right, as the reference tests it. -/
theorem right_ref {t : RTg} (h0 : t.classes.length ≤ 60 ∧ t.globals.length ≤ 8 ∧ t.units.length ≠ 0 ∧ t.units.length ≤ 16) (h1 : ∀ L ∈ t.classes, LayoutOk t L) (h2 : Entries t t.globals) (h3 : insOf t.units ≤ 16000) (h4 : ∀ u ∈ t.units, UnitHd t u) (h5 : ∀ u ∈ t.units, ∀ i ∈ u.ins, Step t u i) : RightP t ↔ MainOk t :=
  ⟨fun h => h.2.1, fun h => ⟨h0, h, h1, h2, h3, fun u hu => ⟨h4 u hu, fun i hi => (fits_step (hds_of hu h1 h2 h4) i).2 (h5 u hu i hi)⟩⟩⟩
theorem all_snoc {α : Type} {P : α → Prop} {l : List α} {i : Nat} {x : α} (hx : l[i]? = some x) (h : ∀ y ∈ l.take i, P y) (hp : P x) : ∀ y ∈ l.take (i + 1), P y := by
  intro y hy
  rw [List.take_add_one, hx, List.mem_append] at hy
  rcases hy with hy | hy
  · exact h y hy
  · simp at hy; subst hy; exact hp
set_option maxHeartbeats 4000000 in
theorem rright_spec (cs : List Value) (t : RTg) (hs : Small t) : Does Tryz.prog 13 [.agg cs.toArray] [Ag tyRTg cs t] [] (fun _ : Unit => .bool (decide (RightP t))) (fun _ => []) (fun _ => []) := by
  refine enter Tryz.func13 rfl Tryz.ntmps13 rfl fun b => ?_
  by_cases h1 : 60 < (t.classes.length : Int)
  · refine GX.wR ?_; intros
    exact rt1 () (vN fun h => by have := h.1.1; omega)
  by_cases h2 : 8 < (t.globals.length : Int)
  · refine GX.wR ?_; intros
    exact rt1 () (vN fun h => by have := h.1.2.1; omega)
  refine GX.wR ?_; intros
  refine GX.nmP 1 ?_; rintro b1 rfl
  refine GX.nmS 22 ?_; rintro aG cG rfl rfl
  refine GX.o (cl (rentries_spec _ t aG cG t.globals) fun _ => ?_)
  by_cases h3 : Entries t t.globals
  rotate_left
  · refine GX.wR ?_; intros
    exact rt1 () (vN fun h => h3 h.2.2.2.1)
  have h3' := Classical.not_not.2 h3
  by_cases h4 : (t.units.length : Int) < 1
  · refine GX.wR ?_; intros
    exact rt1 () (vN fun h => by have := h.1.2.2.1; omega)
  by_cases h5 : 16 < (t.units.length : Int)
  · refine GX.wR ?_; intros
    exact rt1 () (vN fun h => by have := h.1.2.2.2; omega)
  have h0 : t.classes.length ≤ 60 ∧ t.globals.length ≤ 8 ∧ t.units.length ≠ 0 ∧ t.units.length ≤ 16 := by omega
  refine GX.wR ?_; intros
  refine GX.loop (σ := Nat) (fun i => [(1, .pointer (some ⟨b1, 0, none⟩)), (3, .int .i64 (i : Int))]) (fun _ => []) (fun _ => [])
    (fun i => i ≤ t.classes.length ∧ ∀ L ∈ t.classes.take i, LayoutOk t L) (fun i => t.classes.length - i) 0 ⟨rfl, rfl, trivial⟩ ⟨by omega, by simp⟩ (fun i hi => ?_)
  obtain ⟨hi, hA⟩ := hi
  by_cases hlt : i < t.classes.length
  · obtain ⟨L, hL⟩ := get_lt hlt
    have hm := List.mem_of_getElem? hL
    by_cases g1 : 8 < (L.refs.length : Int)
    · refine GX.wR ?_; intros
      exact rt1 () (vN fun h => by have := (h.2.2.1 L hm).1; omega)
    by_cases g2 : L.arr = true
    · by_cases g3 : (L.refs.length : Int) = 1
      · have g3' := Classical.not_not.2 g3
        refine GX.wR ?_; intros
        refine GX.nmS 67 ?_; rintro aR cR rfl rfl
        refine GX.o (cl (rentries_spec _ t aR cR L.refs) fun _ => ?_)
        by_cases g4 : Entries t L.refs
        · have g4' := Classical.not_not.2 g4
          refine GX.wR ?_; intros
          exact again (i + 1) ⟨rfl, rfl, trivial⟩ ⟨by omega, all_snoc hL hA ⟨by omega, fun _ => by omega, g4⟩⟩ (by omega)
        · refine GX.wR ?_; intros
          exact rt1 () (vN fun h => g4 (h.2.2.1 L hm).2.2)
      · refine GX.wR ?_; intros
        exact rt1 () (vN fun h => g3 (by have := (h.2.2.1 L hm).2.1 g2; omega))
    · have g2' : L.arr = false := by simpa using g2
      refine GX.wR ?_; intros
      refine GX.nmS 67 ?_; rintro aR cR rfl rfl
      refine GX.o (cl (rentries_spec _ t aR cR L.refs) fun _ => ?_)
      by_cases g4 : Entries t L.refs
      · have g4' := Classical.not_not.2 g4
        refine GX.wR ?_; intros
        exact again (i + 1) ⟨rfl, rfl, trivial⟩ ⟨by omega, all_snoc hL hA ⟨by omega, fun h => absurd h g2, g4⟩⟩ (by omega)
      · refine GX.wR ?_; intros
        exact rt1 () (vN fun h => g4 (h.2.2.1 L hm).2.2)
  rw [List.take_of_length_le (by omega)] at hA
  clear hi
  refine GX.wR ?_; intros
  refine GX.loop (σ := Nat) (fun i => [(1, .pointer (some ⟨b1, 0, none⟩)), (5, .int .i64 ((insOf (t.units.take i) : Nat) : Int)), (6, .int .i64 (i : Int))]) (fun _ => []) (fun _ => [])
    (fun i => i ≤ t.units.length ∧ insOf (t.units.take i) ≤ 16000 ∧ ∀ u ∈ t.units.take i, UnitHd t u) (fun i => t.units.length - i) 0 ⟨rfl, rfl, rfl, trivial⟩ ⟨by omega, by simp [insOf], by simp⟩ (fun k hk => ?_)
  obtain ⟨hk, hn, hU⟩ := hk
  by_cases hkl : k < t.units.length
  · obtain ⟨u, hu⟩ := get_lt hkl
    have hm := List.mem_of_getElem? hu
    have hul := (hs.unit u hm).2
    have ht : t.units.take (k + 1) = t.units.take k ++ [u] := by rw [List.take_add_one, hu]; rfl
    have hsn : ((insOf (t.units.take k) : Nat) : Int) + (u.ins.length : Int) = ((insOf (t.units.take (k + 1)) : Nat) : Int) := by rw [ht, insOf_snoc]; omega
    have hle := insOf_take t.units (k + 1)
    refine GX.wR ?_; intros
    rw [hsn]
    by_cases g1 : 16000 < ((insOf (t.units.take (k + 1)) : Nat) : Int)
    · refine GX.wR ?_; intros
      exact rt1 () (vN fun h => by have := h.2.2.2.2.1; omega)
    · refine GX.wR ?_; intros
      refine GX.o (cl (runit_spec _ t hs k u hu) fun _ => ?_)
      by_cases g2 : UnitHd t u
      · have g2' := Classical.not_not.2 g2
        refine GX.wR ?_; intros
        exact again (k + 1) ⟨rfl, rfl, rfl, trivial⟩ ⟨by omega, by omega, all_snoc hu hU g2⟩ (by omega)
      · refine GX.wR ?_; intros
        exact rt1 () (vN fun h => g2 (h.2.2.2.2.2 u hm).1)
  have hkl : k = t.units.length := by omega
  subst hkl
  rw [List.take_length] at hn hU
  clear hk
  refine GX.wR ?_; intros
  refine GX.loop (σ := Nat) (fun i => [(1, .pointer (some ⟨b1, 0, none⟩)), (7, .int .i64 (i : Int))]) (fun _ => []) (fun _ => [])
    (fun i => i ≤ t.units.length ∧ ∀ u ∈ t.units.take i, ∀ x ∈ u.ins, Step t u x) (fun i => t.units.length - i) 0 ⟨rfl, rfl, trivial⟩ ⟨by omega, by simp⟩ (fun k hk => ?_)
  obtain ⟨hk, hS⟩ := hk
  by_cases hkl : k < t.units.length
  · obtain ⟨u, hu⟩ := get_lt hkl
    have hm := List.mem_of_getElem? hu
    have hH := hds_of hm hA h3 hU
    refine GX.wR ?_; intros
    refine GX.loop (σ := Nat) (fun j => [(1, .pointer (some ⟨b1, 0, none⟩)), (7, .int .i64 (k : Int)), (8, .int .i64 (j : Int))]) (fun _ => []) (fun _ => [])
      (fun j => j ≤ u.ins.length ∧ ∀ x ∈ u.ins.take j, Step t u x) (fun j => u.ins.length - j) 0 ⟨rfl, rfl, rfl, trivial⟩ ⟨by omega, by simp⟩ (fun j hj => ?_)
    obtain ⟨hj, hT⟩ := hj
    have hul := (hs.unit u hm).2
    by_cases hjl : j < u.ins.length
    · obtain ⟨x, hx⟩ := get_lt hjl
      refine GX.wR ?_; intros
      refine GX.drawn0  (fun j => !(List.contains [15] j)) [(0, true), (1, true), (2, true), (3, true), (4, true), (5, true), (6, true), (7, true), (8, true), (9, true), (10, true), (11, true), (12, true), (13, true), (14, true), (15, false), (16, true)] rfl (by kernel_rfl) (by kernel_rfl) (by first | ((repeat (first | apply Go.GX.SelR.nil | apply Go.GX.SelR.cons | (with_reducible apply Go.GX.TakeR.head) | apply Go.GX.TakeR.tail)); done) | (repeat (first | apply Go.GX.SelR.nil | apply Go.GX.SelR.cons | apply Go.GX.TakeR.head | apply Go.GX.TakeR.tail))) ?_; intro wd F hW hR
      refine GX.wT ?_; intros
      refine GX.gow ?_
      refine (cl (step_spec _ _ _ t u x hH) fun _ => ?_)
      refine GX.wT ?_; intros
      by_cases g1 : Step t u x
      · have g1' := Classical.not_not.2 g1
        refine GX.wR ?_; intros
        exact again (j + 1) ⟨rfl, rfl, rfl, trivial⟩ ⟨by omega, all_snoc hx hT g1⟩ (by omega)
      · refine GX.wR ?_; intros
        exact rt1 () (vN fun h => g1 ((fits_step hH x).1 ((h.2.2.2.2.2 u hm).2 x (List.mem_of_getElem? hx))))
    · rw [List.take_of_length_le (by omega)] at hT
      refine GX.wR ?_; intros
      exact again (k + 1) ⟨rfl, rfl, trivial⟩ ⟨by omega, all_snoc hu hS hT⟩ (by omega)
  rw [List.take_of_length_le (by omega)] at hS
  clear hk
  have e := right_ref h0 hA h3 hn hU hS
  by_cases g1 : 0 ≤ t.main
  rotate_left
  · have e2 : ¬ MainOk t := by unfold MainOk; rw [gt_out (.inl (by omega))]; exact id
    refine GX.wR ?_; intros
    exact rt1 () (vN fun h => e2 (e.1 h))
  by_cases g2 : t.main < (t.units.length : Int)
  rotate_left
  · have e2 : ¬ MainOk t := by unfold MainOk; rw [gt_out (.inr (by omega))]; exact id
    refine GX.wR ?_; intros
    exact rt1 () (vN fun h => e2 (e.1 h))
  obtain ⟨u, hu, k, hk, hkl, hu2⟩ := gt_in (l := t.units) (n := t.main) ⟨by omega, by omega⟩
  have e2 : MainOk t ↔ u.params = 0 ∧ u.result = -3 := by unfold MainOk; rw [hu]
  by_cases g3 : u.params = 0
  · refine GX.wR ?_; intros
    exact rt1 () (vI (e.trans (e2.trans ⟨fun h => h.2, fun h => ⟨g3, h⟩⟩)))
  · refine GX.wR ?_; intros
    exact rt1 () (vN fun h => g3 (e2.1 (e.1 h)).1)
end Go.Proofs.YtomadjefdghliaaGreat

/- With more fuel a run does the same, and perhaps more, plainly. No program in sight. -/
namespace Go.Proofs.YtomadjefdghliaaGreat
open Go.Api Go.RtM Go.RiseM
theorem ran_more {t : RTg} (hR : RightP t) (inp : List Int) (fuel more : Int) (h0 : 0 ≤ fuel) (h1 : 0 ≤ more) :
    ((ranP t (glob t) inp fuel).beh.end_ ≠ 3 ∧ ranP t (glob t) inp fuel = ranP t (glob t) inp (fuel + more) ∧ (ranP t (glob t) inp fuel).beh.steps ≤ fuel) ∨
    ((ranP t (glob t) inp fuel).beh.end_ = 3 ∧ (ranP t (glob t) inp fuel).beh.steps = fuel ∧ fuel ≤ (ranP t (glob t) inp (fuel + more)).beh.steps ∧ (ranP t (glob t) inp fuel).beh.out <+: (ranP t (glob t) inp (fuel + more)).beh.out ∧
      (ranP t (glob t) inp fuel).made ≤ (ranP t (glob t) inp (fuel + more)).made ∧ (ranP t (glob t) inp fuel).gone ≤ (ranP t (glob t) inp (fuel + more)).gone ∧ (ranP t (glob t) inp fuel).peak ≤ (ranP t (glob t) inp (fuel + more)).peak ∧
      (ranP t (glob t) inp fuel).most ≤ (ranP t (glob t) inp (fuel + more)).most ∧ (ranP t (glob t) inp (fuel + more)).slack ≤ (ranP t (glob t) inp fuel).slack) := by
  obtain ⟨hok, _⟩ := begin_ok (inp := inp) hR
  have hb0 : (begin_ t inp).steps = 0 := rfl
  obtain ⟨i1, i2, i3, i4, i5⟩ := iter_lives hR (max fuel 0).toNat hok (begin_lives t inp)
  have e1 : (max (fuel + more) 0).toNat = (max fuel 0).toNat + more.toNat := by omega
  unfold ranP
  rw [runM_iter, runM_iter, e1, iter_add]
  generalize iter t (glob t) (max fuel 0).toNat (begin_ t inp) = M at i1 i2 i3 i4 i5
  by_cases hz : M.en = 0
  · right
    rw [if_pos hz]
    obtain ⟨j1, j2, j3, j4, j5⟩ := iter_lives hR more.toNat i1 i2
    generalize iter t (glob t) more.toNat M = M2 at j1 j2 j3 j4 j5
    obtain ⟨M3, hM3, f1, f2, f3, f4⟩ : ∃ M3 : Ms, M3 = (if M2.en = 0 then M2.ends 3 0 else M2) ∧ M3.tb = M2.tb ∧ M3.out = M2.out ∧ M3.slack = M2.slack ∧ M3.steps = M2.steps := by
      refine ⟨_, rfl, ?_⟩
      split <;> exact ⟨rfl, rfl, rfl, rfl⟩
    rw [← hM3]
    obtain ⟨c1, c2, c3, c4, _, _⟩ := clear_mono M3
    obtain ⟨d1, d2, d3⟩ := clear_len M3
    have hcl : (M.ends 3 0).clear = M.ends 3 0 := by unfold Ms.clear; rw [if_neg (by show ¬ (3 : Int) = 1; omega), if_neg (by show ¬ (3 : Int) = 2; omega)]
    rw [hcl]
    have hs := i5 hz
    have hl1 := liveN_le M.tb.B
    have hl2 := liveN_le M3.clear.tb.B
    have hg1 := c1.gone
    have hg2 := j3.tb.gone
    have hl3 := liveN_le M2.tb.B
    unfold goneN at hg1 hg2
    rw [f1] at hg1 d1 d2 d3
    rw [d1] at hg1 hl2
    have hln := j3.tb.len
    have hpk := j3.tb.peak
    have hms := j3.tb.most
    have hst := j3.st
    have hsl := j3.sl
    refine ⟨rfl, ?_, ?_, ?_, ?_, ?_, ?_, ?_, ?_⟩
    · show M.steps = fuel; omega
    · show fuel ≤ M3.clear.steps; rw [c4, f4]; omega
    · show M.out <+: M3.clear.out; rw [c2, f2]; exact j3.out
    · show (M.tb.B.length : Int) ≤ M3.clear.tb.B.length; rw [d1]; omega
    · show (M.tb.B.length : Int) - (liveN M.tb.B : Int) ≤ (M3.clear.tb.B.length : Int) - (liveN M3.clear.tb.B : Int); rw [d1]; omega
    · show M.tb.peak ≤ M3.clear.tb.peak; rw [d2]; exact hpk
    · show M.tb.most ≤ M3.clear.tb.most; rw [d3]; exact hms
    · show M3.clear.slack ≤ M.slack; rw [c3, f3]; exact hsl
  · left
    rw [iter_ended hz, if_neg hz]
    obtain ⟨_, _, _, c4, c5, _⟩ := clear_mono M
    refine ⟨?_, rfl, ?_⟩
    · show M.clear.en ≠ 3
      rw [c5]
      rcases i2.en with ⟨e, _⟩ | ⟨e, _⟩ | ⟨e, _⟩ | ⟨e, _⟩ <;> omega
    · show M.clear.steps ≤ fuel
      rw [c4]; omega
end Go.Proofs.YtomadjefdghliaaGreat

/- Regions that draw their order, where each operation only adds to what is known: in whatever order they come up. No program in sight. -/
namespace Go.GX
open Go Go.RowKit Go.RR Go.RX
/-- What an operation leaves. -/
structure Out where
  cs : List Value
  ao : Option Addr
  cap : Nat
structure Sp where
  val : Out → Value
  pf : Out → List Pf
def spA {α : Type} (e : Ty α) (y : α) : Sp := ⟨fun u => .agg u.cs.toArray, fun u => [Ag e u.cs y]⟩
def spS {α : Type} (e : Ty α) (ys : List α) : Sp := ⟨fun u => .slice u.ao ys.length u.cap, fun u => [Sl e u.ao u.cap ys]⟩
structure JTab where
  ds : Nat → Nat
  sp : Nat → Sp
  need : Nat → List Nat
section
variable {P : Program} {n : Nat} {env : Env} {b : Base} {ps : List Pf} {hp : List Res} {Q : Exit → Act → World → Prop} {K : Act → World → Prop}

def preds (o : Oper) (j : Nat) : Bool := o.after.any fun e => Region.binds .any e && Nat.beq e.on j
/-- Is the table in order? -/
def jchk (T : JTab) (base : Env) : List Oper → Nat → Bool
  | [], _ => true
  | o :: r, i => o.guard.isNone && (match o.dst with | some d => Nat.beq d (T.ds i) | none => false) && (T.need i).all (fun j => preds o j && Nat.blt j i) && o.after.all (fun e => Nat.blt e.on i) &&
      base.all (fun q => !Nat.beq q.1 (T.ds i)) && (List.range i).all (fun j => !Nat.beq (T.ds j) (T.ds i)) && jchk T base r (i + 1)
/-- What an operation is asked. -/
def StepOne (P : Program) (n : Nat) (hp : List Res) (T : JTab) (base : Env) (ps0 : List Pf) (i : Nat) (o : Oper) : Prop :=
  ∀ (b : Base) (v : Nat → Out) (env : Env) (ps : List Pf) (K : Act → World → Prop) (Q : Exit → Act → World → Prop), (∀ j ∈ T.need i, RX.lk env (T.ds j) = some ((T.sp j).val (v j)) ∧ ∀ p ∈ (T.sp j).pf (v j), p ∈ ps) → (∀ x u, RX.lk base x = some u → RX.lk env x = some u) → (∀ p ∈ ps0, p ∈ ps) →
    (∀ u, G n ((T.ds i, (T.sp i).val u) :: env) b ((T.sp i).pf u ++ ps) hp K) → GO P n env b ps hp o K Q
def StepAll (P : Program) (n : Nat) (hp : List Res) (T : JTab) (base : Env) (ps0 : List Pf) : List Oper → Nat → Prop
  | [], _ => True
  | o :: r, i => StepOne P n hp T base ps0 i o ∧ StepAll P n hp T base ps0 r (i + 1)
theorem StepAll.get {T : JTab} {base : Env} {ps0 : List Pf} : ∀ {l : List Oper} {k i : Nat} {o : Oper}, StepAll P n hp T base ps0 l k → l[i]? = some o → StepOne P n hp T base ps0 (k + i) o
  | [], _, _, _, _, h => by simp at h
  | o :: r, k, i, o', h, hi => by
    cases i with
    | zero => simp at hi; subst hi; exact h.1
    | succ i =>
      have := StepAll.get (k := k + 1) (i := i) h.2 (by simpa using hi)
      rwa [show k + 1 + i = k + (i + 1) by omega] at this
structure JInv (n : Nat) (b : Base) (hp : List Res) (T : JTab) (base : Env) (ps0 : List Pf) (size : Nat) (listed : Array Bool) (a : Act) (w : World) (v : Nat → Out) (env : Env) (ps : List Pf) : Prop where
  size : listed.size = size
  has : Has n env a
  ok : Ok b ps hp w
  slots : ∀ j, listed.getD j false = true → RX.lk env (T.ds j) = some ((T.sp j).val (v j))
  facts : ∀ j, listed.getD j false = true → ∀ p ∈ (T.sp j).pf (v j), p ∈ ps
  base : ∀ x u, RX.lk base x = some u → RX.lk env x = some u
  fs : ∀ p ∈ ps0, p ∈ ps
end
section
variable {P : Program} {n : Nat} {hp : List Res} {T : JTab} {base : Env} {ps0 : List Pf} {i d : Nat} {ty t : TypeId} {pos : String} {aft : Array Edge} {gd : Option (Nat × Bool)} {α : Type} {e : Ty α}
def IsItem (q : Sp) (e : Ty α) (y : α) : Prop := ∀ (u : Out) (ps : List Pf), (∀ p ∈ q.pf u, p ∈ ps) → Reads ps (q.val u) e y
inductive JL (T : JTab) {α : Type} (e : Ty α) : List Nat → List α → Prop where
  | nil : JL T e [] []
  | cons {j : Nat} {js : List Nat} {y : α} {ys : List α} : IsItem (T.sp j) e y → JL T e js ys → JL T e (j :: js) (y :: ys)
def prt (T : JTab) : List Nat → Nat → List (Nat × Operand)
  | [], _ => []
  | j :: r, k => (k, .tmp (T.ds j)) :: prt T r (k + 1)
theorem JL.lits {v : Nat → Out} {ps : List Pf} {js : List Nat} {ys : List α} (h : JL T e js ys) (hp : ∀ j ∈ js, ∀ p ∈ (T.sp j).pf (v j), p ∈ ps) : Lits ps e (js.map fun j => (T.sp j).val (v j)) ys ∧ ys.length = js.length := by
  induction h with
  | nil => exact ⟨.nil, rfl⟩
  | cons h1 _ ih =>
    obtain ⟨h3, h4⟩ := ih fun j hj => hp j (by simp [hj])
    exact ⟨.cons (h1 _ _ (hp _ (by simp))) h3, by simp [h4]⟩
end
section
variable {P : Program} {n : Nat} {env : Env} {b : Base} {ps : List Pf} {hp : List Res} {K : Act → World → Prop}
/-- An element of a slice that stays, as a place. -/
theorem slPt {bl cap : Nat} (j off : Nat) {α : Type} {e : Ty α} {xs : List α} {x0 : α} [hf : FSl (some ⟨bl, 0, none⟩) ps e cap xs] (h : G n env b (Pt e bl off x0 :: ps) hp K) (hj : xs[j]? = some x0 := by with_reducible assumption) (ho : 0 + j * e.size = off := by (show 0 + _ * 1 = _; omega)) : G n env b ps hp K := by
  subst ho
  constructor
  rintro w ⟨F, s⟩
  obtain ⟨_, _, hs⟩ : (Sl e (some ⟨bl, 0, none⟩) cap xs).says F w := s.fs _ hf.mem
  obtain ⟨b1, o, cs, he, h3, h4, h5, h6⟩ := hs j x0 hj
  simp only [Option.some.injEq, Addr.mk.injEq, and_true] at he
  obtain ⟨rfl, rfl⟩ := he
  refine h.run w ⟨F, s.upd, s.lt, s.old, fun p hp => ?_, s.rs, s.apF, s.apart, s.on⟩
  rcases List.mem_cons.1 hp with rfl | hp
  · exact ⟨h3, h4, cs, h5, h6⟩
  · exact s.fs p hp
end
end Go.GX
