import Derived.Test.YtomfpmbapdhbgaaGreatP10
import Derived.Test.YtomfpmbapdhbgaaGreatP13
import Derived.Test.YtomfpmbapdhbgaaGreatP14
import Derived.Test.YtomfpmbapdhbgaaGreatP17
import Derived.Test.YtomfpmbapdhbgaaGreatP26
/- The walks over package rt: goes, fits. -/
namespace Go.Proofs.YtomfpmbapdhbgaaGreat
open Go Go.RR Go.RX Go.GX Go.Api Go.RiseM Go.ReachM Go.RtM
attribute [local irreducible] wpList Code.wp wpPlan Exit.then Exit.inBlock bodyPost NoPanic Went GX.Post GX.Again GX.Meet GX.RowR GX.Own GX.Owns GX.Box GX.Sl GX.Pt GX.Ag GX.MapR GX.Kept GX.Pin wpT GoK AtEnd Both

theorem plain1 {u : Unt} {n : Int} : Plain u [n] ↔ RtM.of u n = -2 := by simp [Plain]
theorem plain2 {u : Unt} {n m : Int} : Plain u [n, m] ↔ RtM.of u n = -2 ∧ RtM.of u m = -2 := by simp [Plain]
theorem refs1 {u : Unt} {n : Int} : Refs u [n] ↔ IsRef (RtM.of u n) := by simp [Refs]
set_option maxHeartbeats 1000000 in
theorem goes_spec (cs : List Value) (v : RtView) : Does Tryz.prog 111 [.agg cs.toArray] [Ag tyRtView cs v] []
    (fun _ : Unit => .bool (decide (Goes v.t v.u v.i))) (fun _ => []) (fun _ => []) := by
  refine enter Tryz.func111 rfl Tryz.ntmps111 rfl fun b => ?_
  by_cases h13 : v.i.op = 13
  · have e : Goes v.t v.u v.i ↔ CallOk v.t v.u v.i := by unfold Goes; rw [if_pos h13]
    refine GX.wR ?_; intros
    refine GX.o (cl (call_spec _ v) fun _ => ?_)
    refine GX.wR ?_; intros
    exact rt1 () (vI e)
  by_cases h16 : v.i.op = 16
  · have e : Goes v.t v.u v.i ↔ RtM.Place v.u v.i.n := by unfold Goes; rw [if_neg h13, if_pos h16]
    refine GX.wR ?_; intros
    refine GX.o (cl (place_spec _ v _) fun _ => ?_)
    refine GX.wR ?_; intros
    exact rt1 () (vI e)
  by_cases h17 : v.i.op = 17
  · have e : Goes v.t v.u v.i ↔ RtM.of v.u v.i.a = -2 ∧ RtM.Place v.u v.i.n ∧ RtM.Place v.u v.i.c := by unfold Goes; rw [if_neg h13, if_neg h16, if_pos h17]
    refine GX.wR ?_; intros
    refine GX.o (cl (plain_spec _ v _ _ _ [v.i.a] rfl) fun _ => ?_)
    by_cases g1 : Plain v.u [v.i.a]
    · refine GX.wR ?_; intros
      refine GX.o (cl (place_spec _ v _) fun _ => ?_)
      by_cases g2 : RtM.Place v.u v.i.n
      · refine GX.wR ?_; intros
        refine GX.o (cl (place_spec _ v _) fun _ => ?_)
        refine GX.wR ?_; intros
        exact rt1 () (vI (e.trans ⟨fun h => h.2.2, fun h => ⟨plain1.1 g1, g2, h⟩⟩))
      · refine GX.wR ?_; intros
        exact rt1 () (vN fun h => g2 (e.1 h).2.1)
    · refine GX.wR ?_; intros
      exact rt1 () (vN fun h => g1 (plain1.2 (e.1 h).1))
  by_cases h18 : v.i.op = 18
  · have e : Goes v.t v.u v.i ↔ (v.u.result = -3 ∧ v.i.a = -1 ∨ v.u.result ≠ -3 ∧ Into v.u.result (RtM.of v.u v.i.a)) := by unfold Goes; rw [if_neg h13, if_neg h16, if_neg h17, if_pos h18]
    refine GX.wR ?_; intros
    refine GX.nmP 3 ?_; rintro b3 rfl
    refine frzB b3 ?_
    by_cases g1 : v.u.result = -3
    · have g1' := Classical.not_not.2 g1
      by_cases g2 : v.i.a = -1
      · refine GX.drawn0  (fun j => !(List.contains [22] j)) [(0, true), (1, true), (2, true), (3, true), (4, true), (5, true), (6, true), (7, true), (8, true), (9, true), (10, true), (11, true), (12, true), (13, true), (14, true), (15, true), (16, true), (17, true), (18, true), (19, true), (20, true), (21, false), (22, false), (23, true), (24, true), (25, true)] rfl (by kernel_rfl) (by kernel_rfl) (by first | ((repeat (first | apply Go.GX.SelR.nil | apply Go.GX.SelR.cons | (with_reducible apply Go.GX.TakeR.head) | apply Go.GX.TakeR.tail)); done) | (repeat (first | apply Go.GX.SelR.nil | apply Go.GX.SelR.cons | apply Go.GX.TakeR.head | apply Go.GX.TakeR.tail))) ?_; intro wd F hW hR
        refine GX.wT ?_; intros
        refine GX.wR ?_; intros
        exact rt1 () (vY (e.2 (.inl ⟨g1, g2⟩)))
      · refine GX.drawn0  (fun j => !(List.contains [22] j)) [(0, true), (1, true), (2, true), (3, true), (4, true), (5, true), (6, true), (7, true), (8, true), (9, true), (10, true), (11, true), (12, true), (13, true), (14, true), (15, true), (16, true), (17, true), (18, true), (19, true), (20, true), (21, false), (22, false), (23, true), (24, true), (25, true)] rfl (by kernel_rfl) (by kernel_rfl) (by first | ((repeat (first | apply Go.GX.SelR.nil | apply Go.GX.SelR.cons | (with_reducible apply Go.GX.TakeR.head) | apply Go.GX.TakeR.tail)); done) | (repeat (first | apply Go.GX.SelR.nil | apply Go.GX.SelR.cons | apply Go.GX.TakeR.head | apply Go.GX.TakeR.tail))) ?_; intro wd F hW hR
        refine GX.wT ?_; intros
        refine GX.wR ?_; intros
        exact rt1 () (vN fun h => (e.1 h).elim (fun h => g2 h.2) (fun h => h.1 g1))
    · refine GX.drawn0  (fun j => !(List.contains [22] j)) [(0, true), (1, true), (2, true), (3, true), (4, true), (5, true), (6, true), (7, true), (8, true), (9, true), (10, true), (11, true), (12, true), (13, true), (14, true), (15, true), (16, true), (17, true), (18, true), (19, true), (20, true), (21, false), (22, false), (23, true), (24, true), (25, true)] rfl (by kernel_rfl) (by kernel_rfl) (by first | ((repeat (first | apply Go.GX.SelR.nil | apply Go.GX.SelR.cons | (with_reducible apply Go.GX.TakeR.head) | apply Go.GX.TakeR.tail)); done) | (repeat (first | apply Go.GX.SelR.nil | apply Go.GX.SelR.cons | apply Go.GX.TakeR.head | apply Go.GX.TakeR.tail))) ?_; intro wd F hW hR
      refine GX.wT ?_; intros
      refine GX.gow ?_
      refine (cl (of_spec _ v _) fun _ => ?_)
      refine GX.wT ?_; intros
      refine GX.gow ?_
      refine (cl (into_spec v.u.result _) fun _ => ?_)
      refine GX.wT ?_; intros
      refine GX.wR ?_; intros
      exact rt1 () (vI (e.trans ⟨fun h => h.elim (fun h => absurd h.1 g1) (fun h => h.2), fun h => .inr ⟨g1, h⟩⟩))
  by_cases h19 : v.i.op = 19
  · have e : Goes v.t v.u v.i ↔ (match gt v.t.globals v.i.n with | some g => Into (RtM.of v.u v.i.a) g | none => False) := by unfold Goes; rw [if_neg h13, if_neg h16, if_neg h17, if_neg h18, if_pos h19]; exact Iff.rfl
    refine GX.wR ?_; intros
    refine GX.nmP 3 ?_; rintro b3 rfl
    refine frzB b3 ?_
    by_cases g1 : v.i.n < 0
    · rw [gt_out (.inl g1)] at e
      refine GX.drawn0  (fun j => !(List.contains [24] j)) [(0, true), (1, true), (2, true), (3, true), (4, true), (5, true), (6, true), (7, true), (8, true), (9, true), (10, true), (11, true), (12, true), (13, true), (14, true), (15, true), (17, true), (18, true), (19, true), (20, true), (21, true), (22, true), (23, true), (16, false), (24, false), (25, true), (26, true)] rfl (by kernel_rfl) (by kernel_rfl) (by first | ((repeat (first | apply Go.GX.SelR.nil | apply Go.GX.SelR.cons | (with_reducible apply Go.GX.TakeR.head) | apply Go.GX.TakeR.tail)); done) | (repeat (first | apply Go.GX.SelR.nil | apply Go.GX.SelR.cons | apply Go.GX.TakeR.head | apply Go.GX.TakeR.tail))) ?_; intro wd F hW hR
      refine GX.wT ?_; intros
      refine GX.wR ?_; intros
      exact rt1 () (vN e.1)
    by_cases g2 : (v.t.globals.length : Int) ≤ v.i.n
    · rw [gt_out (.inr g2)] at e
      refine GX.drawn0  (fun j => !(List.contains [24] j)) [(0, true), (1, true), (2, true), (3, true), (4, true), (5, true), (6, true), (7, true), (8, true), (9, true), (10, true), (11, true), (12, true), (13, true), (14, true), (15, true), (17, true), (18, true), (19, true), (20, true), (21, true), (22, true), (23, true), (16, false), (24, false), (25, true), (26, true)] rfl (by kernel_rfl) (by kernel_rfl) (by first | ((repeat (first | apply Go.GX.SelR.nil | apply Go.GX.SelR.cons | (with_reducible apply Go.GX.TakeR.head) | apply Go.GX.TakeR.tail)); done) | (repeat (first | apply Go.GX.SelR.nil | apply Go.GX.SelR.cons | apply Go.GX.TakeR.head | apply Go.GX.TakeR.tail))) ?_; intro wd F hW hR
      refine GX.wT ?_; intros
      refine GX.wR ?_; intros
      exact rt1 () (vN e.1)
    obtain ⟨g, hg, k, hk, hkl, hg2⟩ := gt_in (l := v.t.globals) (n := v.i.n) ⟨by omega, by omega⟩
    rw [hg] at e
    refine GX.drawn0  (fun j => !(List.contains [24] j)) [(0, true), (1, true), (2, true), (3, true), (4, true), (5, true), (6, true), (7, true), (8, true), (9, true), (10, true), (11, true), (12, true), (13, true), (14, true), (15, true), (17, true), (18, true), (19, true), (20, true), (21, true), (22, true), (23, true), (16, false), (24, false), (25, true), (26, true)] rfl (by kernel_rfl) (by kernel_rfl) (by first | ((repeat (first | apply Go.GX.SelR.nil | apply Go.GX.SelR.cons | (with_reducible apply Go.GX.TakeR.head) | apply Go.GX.TakeR.tail)); done) | (repeat (first | apply Go.GX.SelR.nil | apply Go.GX.SelR.cons | apply Go.GX.TakeR.head | apply Go.GX.TakeR.tail))) ?_; intro wd F hW hR
    refine GX.wT ?_; intros
    refine GX.gow ?_
    refine (cl (of_spec _ v _) fun _ => ?_)
    refine GX.wT ?_; intros
    refine GX.gow ?_
    refine (cl (into_spec _ g) fun _ => ?_)
    refine GX.wT ?_; intros
    refine GX.wR ?_; intros
    exact rt1 () (vI e)
  by_cases h20 : v.i.op = 20
  · have e : Goes v.t v.u v.i ↔ (match gt v.t.globals v.i.n with | some g => Into g (RtM.of v.u v.i.a) | none => False) := by unfold Goes; rw [if_neg h13, if_neg h16, if_neg h17, if_neg h18, if_neg h19, if_pos h20]; exact Iff.rfl
    refine GX.wR ?_; intros
    refine GX.nmP 3 ?_; rintro b3 rfl
    refine frzB b3 ?_
    by_cases g1 : v.i.n < 0
    · rw [gt_out (.inl g1)] at e
      refine GX.drawn0  (fun j => !(List.contains [24] j)) [(0, true), (1, true), (2, true), (3, true), (4, true), (5, true), (6, true), (7, true), (8, true), (9, true), (10, true), (11, true), (12, true), (13, true), (14, true), (15, true), (16, true), (17, true), (18, true), (19, true), (20, true), (21, true), (22, true), (23, false), (24, false), (25, true), (26, true)] rfl (by kernel_rfl) (by kernel_rfl) (by first | ((repeat (first | apply Go.GX.SelR.nil | apply Go.GX.SelR.cons | (with_reducible apply Go.GX.TakeR.head) | apply Go.GX.TakeR.tail)); done) | (repeat (first | apply Go.GX.SelR.nil | apply Go.GX.SelR.cons | apply Go.GX.TakeR.head | apply Go.GX.TakeR.tail))) ?_; intro wd F hW hR
      refine GX.wT ?_; intros
      refine GX.wR ?_; intros
      exact rt1 () (vN e.1)
    by_cases g2 : (v.t.globals.length : Int) ≤ v.i.n
    · rw [gt_out (.inr g2)] at e
      refine GX.drawn0  (fun j => !(List.contains [24] j)) [(0, true), (1, true), (2, true), (3, true), (4, true), (5, true), (6, true), (7, true), (8, true), (9, true), (10, true), (11, true), (12, true), (13, true), (14, true), (15, true), (16, true), (17, true), (18, true), (19, true), (20, true), (21, true), (22, true), (23, false), (24, false), (25, true), (26, true)] rfl (by kernel_rfl) (by kernel_rfl) (by first | ((repeat (first | apply Go.GX.SelR.nil | apply Go.GX.SelR.cons | (with_reducible apply Go.GX.TakeR.head) | apply Go.GX.TakeR.tail)); done) | (repeat (first | apply Go.GX.SelR.nil | apply Go.GX.SelR.cons | apply Go.GX.TakeR.head | apply Go.GX.TakeR.tail))) ?_; intro wd F hW hR
      refine GX.wT ?_; intros
      refine GX.wR ?_; intros
      exact rt1 () (vN e.1)
    obtain ⟨g, hg, k, hk, hkl, hg2⟩ := gt_in (l := v.t.globals) (n := v.i.n) ⟨by omega, by omega⟩
    rw [hg] at e
    refine GX.drawn0  (fun j => !(List.contains [24] j)) [(0, true), (1, true), (2, true), (3, true), (4, true), (5, true), (6, true), (7, true), (8, true), (9, true), (10, true), (11, true), (12, true), (13, true), (14, true), (15, true), (16, true), (17, true), (18, true), (19, true), (20, true), (21, true), (22, true), (23, false), (24, false), (25, true), (26, true)] rfl (by kernel_rfl) (by kernel_rfl) (by first | ((repeat (first | apply Go.GX.SelR.nil | apply Go.GX.SelR.cons | (with_reducible apply Go.GX.TakeR.head) | apply Go.GX.TakeR.tail)); done) | (repeat (first | apply Go.GX.SelR.nil | apply Go.GX.SelR.cons | apply Go.GX.TakeR.head | apply Go.GX.TakeR.tail))) ?_; intro wd F hW hR
    refine GX.wT ?_; intros
    refine GX.gow ?_
    refine (cl (of_spec _ v _) fun _ => ?_)
    refine GX.wT ?_; intros
    refine GX.gow ?_
    refine (cl (into_spec g _) fun _ => ?_)
    refine GX.wT ?_; intros
    refine GX.wR ?_; intros
    exact rt1 () (vI e)
  have e : Goes v.t v.u v.i ↔ v.i.args ≠ [] ∧ Rise v.i.args ∧ ∀ n ∈ v.i.args, n ∈ v.u.owns := by unfold Goes; rw [if_neg h13, if_neg h16, if_neg h17, if_neg h18, if_neg h19, if_neg h20]
  have ea : 0 < (v.i.args.length : Int) ↔ v.i.args ≠ [] := by rw [ne_eq, ← List.length_eq_zero_iff]; omega
  by_cases g1 : 0 < (v.i.args.length : Int)
  · refine GX.wR ?_; intros
    refine GX.nmP 1 ?_; rintro b1 rfl
    refine GX.nmS 126 ?_; rintro aA cA rfl rfl
    refine GX.o (cl (rising_spec aA cA v.i.args 130 [.pointer (some ⟨b1, 0, none⟩)] [Pt tyRtView b1 0 v] [] (fun n => decide (n ∈ v.u.owns)) (fun n _ => goes1_spec b1 v n)) fun _ => ?_)
    refine GX.wR ?_; intros
    refine rt1 () (vI ?_)
    exact e.trans ⟨fun h => ⟨h.2.1, fun n hn => decide_eq_true (h.2.2 n hn)⟩, fun h => ⟨ea.1 g1, h.1, fun n hn => of_decide_eq_true (h.2 n hn)⟩⟩
  · refine GX.wR ?_; intros
    exact rt1 () (vN fun h => g1 (ea.2 (e.1 h).1))
end Go.Proofs.YtomfpmbapdhbgaaGreat

/- The walks over package rt: fits. -/
namespace Go.Proofs.YtomfpmbapdhbgaaGreat
open Go Go.RR Go.RX Go.GX Go.Api Go.RiseM Go.ReachM Go.RtM
attribute [local irreducible] wpList Code.wp wpPlan Exit.then Exit.inBlock bodyPost NoPanic Went GX.Post GX.Again GX.Meet GX.RowR GX.Own GX.Owns GX.Box GX.Sl GX.Pt GX.Ag GX.MapR GX.Kept GX.Pin wpT GoK AtEnd Both

set_option maxHeartbeats 1000000 in
theorem fits_spec (cs : List Value) (v : RtView) : Does Tryz.prog 75 [.agg cs.toArray] [Ag tyRtView cs v] []
    (fun _ : Unit => .bool (decide (Fits v.t v.u v.i))) (fun _ => []) (fun _ => []) := by
  refine enter Tryz.func75 rfl Tryz.ntmps75 rfl fun b => ?_
  by_cases h1 : v.i.op = 1 ∨ v.i.op = 14 ∨ v.i.op = 15
  · have e : Fits v.t v.u v.i ↔ RtM.of v.u v.i.a = -2 := by unfold Fits; rw [if_pos h1]
    rcases h1 with h1 | h1 | h1
    · refine GX.wR ?_; intros
      refine GX.o (cl (plain_spec _ v _ _ _ [v.i.a] rfl) fun _ => ?_)
      refine GX.wR ?_; intros
      exact rt1 () (vI (e.trans plain1.symm))
    · refine GX.wR ?_; intros
      refine GX.o (cl (plain_spec _ v _ _ _ [v.i.a] rfl) fun _ => ?_)
      refine GX.wR ?_; intros
      exact rt1 () (vI (e.trans plain1.symm))
    · refine GX.wR ?_; intros
      refine GX.o (cl (plain_spec _ v _ _ _ [v.i.a] rfl) fun _ => ?_)
      refine GX.wR ?_; intros
      exact rt1 () (vI (e.trans plain1.symm))
  have n1 : v.i.op ≠ 1 := fun h => h1 (.inl h)
  have n14 : v.i.op ≠ 14 := fun h => h1 (.inr (.inl h))
  have n15 : v.i.op ≠ 15 := fun h => h1 (.inr (.inr h))
  by_cases h2 : v.i.op = 2
  · have e : Fits v.t v.u v.i ↔ IsRef (RtM.of v.u v.i.a) := by unfold Fits; rw [if_neg h1, if_pos h2]
    refine GX.wR ?_; intros
    refine GX.o (cl (refs_spec _ v _ _ _ [v.i.a] rfl) fun _ => ?_)
    refine GX.wR ?_; intros
    exact rt1 () (vI (e.trans refs1.symm))
  by_cases h3 : v.i.op = 3
  · have e : Fits v.t v.u v.i ↔ Into (RtM.of v.u v.i.a) (RtM.of v.u v.i.b) := by unfold Fits; rw [if_neg h1, if_neg h2, if_pos h3]
    refine GX.wR ?_; intros
    refine GX.nmP 3 ?_; rintro b3 rfl
    refine frzB b3 ?_
    refine GX.drawn0  (fun j => !(List.contains [7, 8] j)) [(0, true), (1, true), (2, true), (4, true), (5, true), (6, true), (3, false), (7, false), (8, false), (9, true)] rfl (by kernel_rfl) (by kernel_rfl) (by first | ((repeat (first | apply Go.GX.SelR.nil | apply Go.GX.SelR.cons | (with_reducible apply Go.GX.TakeR.head) | apply Go.GX.TakeR.tail)); done) | (repeat (first | apply Go.GX.SelR.nil | apply Go.GX.SelR.cons | apply Go.GX.TakeR.head | apply Go.GX.TakeR.tail))) ?_; intro wd F hW hR
    refine GX.wT ?_; intros
    refine GX.gow ?_
    refine (cl (of_spec _ v v.i.a) fun _ => ?_)
    refine GX.wT ?_; intros
    refine GX.gow ?_
    refine (cl (of_spec _ v v.i.b) fun _ => ?_)
    refine GX.wT ?_; intros
    refine GX.gow ?_
    refine (cl (into_spec _ _) fun _ => ?_)
    refine GX.wT ?_; intros
    refine GX.wR ?_; intros
    exact rt1 () (vI e)
  by_cases h4 : v.i.op = 4
  · have e : Fits v.t v.u v.i ↔ Two v.u v.i := by unfold Fits; rw [if_neg h1, if_neg h2, if_neg h3, if_pos h4]
    refine GX.wR ?_; intros
    refine GX.o (cl (two_spec _ v) fun _ => ?_)
    refine GX.wR ?_; intros
    exact rt1 () (vI e)
  by_cases h5 : v.i.op = 5
  · have e : Fits v.t v.u v.i ↔ (v.i.n = 12 ∨ v.i.n = 13) ∧ RtM.of v.u v.i.a = -2 ∧ RtM.of v.u v.i.b = -2 := by unfold Fits; rw [if_neg h1, if_neg h2, if_neg h3, if_neg h4, if_pos h5]
    by_cases g1 : v.i.n = 12
    · refine GX.wR ?_; intros
      refine GX.o (cl (plain_spec _ v _ _ _ [v.i.a, v.i.b] rfl) fun _ => ?_)
      refine GX.wR ?_; intros
      exact rt1 () (vI (e.trans ⟨fun h => plain2.2 h.2, fun h => ⟨.inl g1, plain2.1 h⟩⟩))
    · by_cases g2 : v.i.n = 13
      · refine GX.wR ?_; intros
        refine GX.o (cl (plain_spec _ v _ _ _ [v.i.a, v.i.b] rfl) fun _ => ?_)
        refine GX.wR ?_; intros
        exact rt1 () (vI (e.trans ⟨fun h => plain2.2 h.2, fun h => ⟨.inr g2, plain2.1 h⟩⟩))
      · refine GX.wR ?_; intros
        exact rt1 () (vN fun h => (e.1 h).1.elim g1 g2)
  by_cases h6 : v.i.op = 6
  · have e : Fits v.t v.u v.i ↔ Loads v.t v.u v.i.a v.i.b false v.i.c := by unfold Fits; rw [if_neg h1, if_neg h2, if_neg h3, if_neg h4, if_neg h5, if_pos h6]
    refine GX.wR ?_; intros
    refine GX.o (cl (loads_spec _ v _ _ _ _) fun _ => ?_)
    refine GX.wR ?_; intros
    exact rt1 () (vI e)
  by_cases h7 : v.i.op = 7
  · have e : Fits v.t v.u v.i ↔ Lays v.t v.u v.i.a false v.i.c v.i.b := by unfold Fits; rw [if_neg h1, if_neg h2, if_neg h3, if_neg h4, if_neg h5, if_neg h6, if_pos h7]
    refine GX.wR ?_; intros
    refine GX.o (cl (lays_spec _ v _ _ _ _) fun _ => ?_)
    refine GX.wR ?_; intros
    exact rt1 () (vI e)
  by_cases h8 : v.i.op = 8
  · have e : Fits v.t v.u v.i ↔ RtM.of v.u v.i.c = -2 ∧ Loads v.t v.u v.i.a v.i.b true 0 := by unfold Fits; rw [if_neg h1, if_neg h2, if_neg h3, if_neg h4, if_neg h5, if_neg h6, if_neg h7, if_pos h8]
    refine GX.wR ?_; intros
    refine GX.o (cl (plain_spec _ v _ _ _ [v.i.c] rfl) fun _ => ?_)
    by_cases g1 : Plain v.u [v.i.c]
    · refine GX.wR ?_; intros
      refine GX.o (cl (loads_spec _ v _ _ _ _) fun _ => ?_)
      refine GX.wR ?_; intros
      exact rt1 () (vI (e.trans ⟨fun h => h.2, fun h => ⟨plain1.1 g1, h⟩⟩))
    · refine GX.wR ?_; intros
      exact rt1 () (vN fun h => g1 (plain1.2 (e.1 h).1))
  by_cases h9 : v.i.op = 9
  · have e : Fits v.t v.u v.i ↔ RtM.of v.u v.i.b = -2 ∧ Lays v.t v.u v.i.a true 0 v.i.c := by unfold Fits; rw [if_neg h1, if_neg h2, if_neg h3, if_neg h4, if_neg h5, if_neg h6, if_neg h7, if_neg h8, if_pos h9]
    refine GX.wR ?_; intros
    refine GX.o (cl (plain_spec _ v _ _ _ [v.i.b] rfl) fun _ => ?_)
    by_cases g1 : Plain v.u [v.i.b]
    · refine GX.wR ?_; intros
      refine GX.o (cl (lays_spec _ v _ _ _ _) fun _ => ?_)
      refine GX.wR ?_; intros
      exact rt1 () (vI (e.trans ⟨fun h => h.2, fun h => ⟨plain1.1 g1, h⟩⟩))
    · refine GX.wR ?_; intros
      exact rt1 () (vN fun h => g1 (plain1.2 (e.1 h).1))
  by_cases h10 : v.i.op = 10
  · have e : Fits v.t v.u v.i ↔ (cell v.t v.u v.i.b true 0).2.2 = true ∧ RtM.of v.u v.i.a = -2 := by unfold Fits; rw [if_neg h1, if_neg h2, if_neg h3, if_neg h4, if_neg h5, if_neg h6, if_neg h7, if_neg h8, if_neg h9, if_pos h10]
    refine GX.wR ?_; intros
    refine GX.o (cl (length_spec _ v) fun _ => ?_)
    refine GX.wR ?_; intros
    exact rt1 () (vI e)
  by_cases h11 : v.i.op = 11
  · have e : Fits v.t v.u v.i ↔ Fresh v.t v.u v.i false := by unfold Fits; rw [if_neg h1, if_neg h2, if_neg h3, if_neg h4, if_neg h5, if_neg h6, if_neg h7, if_neg h8, if_neg h9, if_neg h10, if_pos h11]
    refine GX.wR ?_; intros
    refine GX.o (cl (fresh_spec _ v _) fun _ => ?_)
    refine GX.wR ?_; intros
    exact rt1 () (vI e)
  by_cases h12 : v.i.op = 12
  · have e : Fits v.t v.u v.i ↔ Fresh v.t v.u v.i true ∧ RtM.of v.u v.i.b = -2 := by unfold Fits; rw [if_neg h1, if_neg h2, if_neg h3, if_neg h4, if_neg h5, if_neg h6, if_neg h7, if_neg h8, if_neg h9, if_neg h10, if_neg h11, if_pos h12]
    refine GX.wR ?_; intros
    refine GX.o (cl (fresh_spec _ v _) fun _ => ?_)
    by_cases g1 : Fresh v.t v.u v.i true
    · refine GX.wR ?_; intros
      refine GX.o (cl (plain_spec _ v _ _ _ [v.i.b] rfl) fun _ => ?_)
      refine GX.wR ?_; intros
      exact rt1 () (vI (e.trans ⟨fun h => plain1.2 h.2, fun h => ⟨g1, plain1.1 h⟩⟩))
    · refine GX.wR ?_; intros
      exact rt1 () (vN fun h => g1 (e.1 h).1)
  have e : Fits v.t v.u v.i ↔ Goes v.t v.u v.i := by unfold Fits; rw [if_neg h1, if_neg h2, if_neg h3, if_neg h4, if_neg h5, if_neg h6, if_neg h7, if_neg h8, if_neg h9, if_neg h10, if_neg h11, if_neg h12]
  refine GX.wR ?_; intros
  refine GX.o (cl (goes_spec _ v) fun _ => ?_)
  refine GX.wR ?_; intros
  exact rt1 () (vI e)
end Go.Proofs.YtomfpmbapdhbgaaGreat

/- How a view of package rt is built. -/
namespace Go.Proofs.YtomfpmbapdhbgaaGreat
open Go Go.RowKit Go.RR Go.RX Go.GX Go.Api

theorem build_view (w : World) (a0 a1 a2 a3 b0 b1 b2 b3 b4 b5 c0 c1 c2 c3 c4 c5 : Value) :
    (Instr.build 101 #[(0, .agg #[a0, a1, a2, a3]), (1, .agg #[b0, b1, b2, b3, b4, b5]), (2, .agg #[c0, c1, c2, c3, c4, c5])]).run Tryz.prog w = .ok (.agg #[a0, a1, a2, a3, b0, b1, b2, b3, b4, b5, c0, c1, c2, c3, c4, c5]) w := by
  simp [Instr.build, Instr.fill, Value.cells] <;> rfl
theorem list4 {cs : List Value} (h : cs.length = 4) : ∃ a b c d, cs = [a, b, c, d] := by
  match cs, h with
  | [a, b, c, d], _ => exact ⟨a, b, c, d, rfl⟩
theorem list6 {cs : List Value} (h : cs.length = 6) : ∃ a b c d e f, cs = [a, b, c, d, e, f] := by
  match cs, h with
  | [a, b, c, d, e, f], _ => exact ⟨a, b, c, d, e, f, rfl⟩
theorem bdv {n : Nat} {env : Env} {b : Base} {ps : List Pf} {hp : List Res} {Q : Exit → Act → World → Prop} {K : Act → World → Prop} {d : Nat} {ty : TypeId} {pos : String} {aft : Array Edge} {gd : Option (Nat × Bool)} {x y z : Operand} {c1 c2 c3 : List Value} {t : RTg} {u : Unt} {i : Ins}
    (h : ∀ cs : List Value, G n ((d, .agg cs.toArray) :: env) b (Ag tyRtView cs ⟨t, u, i⟩ :: ps) hp K) (hx : ev env x = some (.agg c1.toArray) := by exact rfl) (hy : ev env y = some (.agg c2.toArray) := by exact rfl) (hz : ev env z = some (.agg c3.toArray) := by exact rfl)
    (f1 : FAg c1 ps tyRTg t := by exact inferInstance) (f2 : FAg c2 ps tyUnt u := by exact inferInstance) (f3 : FAg c3 ps tyIns i := by exact inferInstance) (hd : Nat.blt d n = true := by exact rfl) :
    GO Tryz.prog n env b ps hp ⟨some d, .build 101 [(0, x), (1, y), (2, z)].toArray, ty, pos, aft, gd⟩ K Q := by
  refine rd (ι := Unit) (val := fun _ => .agg (c1 ++ (c2 ++ c3)).toArray) (pf := fun _ => [Ag tyRtView (c1 ++ (c2 ++ c3)) ⟨t, u, i⟩]) ?_ hd (fun _ => h _)
  intro F w h1 _
  have r1 : tyRTg.rd F w c1 t := h1 _ f1.mem
  have r2 : tyUnt.rd F w c2 u := h1 _ f2.mem
  have r3 : tyIns.rd F w c3 i := h1 _ f3.mem
  refine ⟨(), one_p (co_rd (pair_rd rfl r1 (pair_rd rfl r2 (pair_rd (c2 := []) (by simp) r3 unit_rd)))), ?_⟩
  obtain ⟨a0, a1, a2, a3, rfl⟩ := list4 (tyRTg.len r1)
  obtain ⟨b0, b1, b2, b3, b4, b5, rfl⟩ := list6 (tyUnt.len r2)
  obtain ⟨e0, e1, e2, e3, e4, e5, rfl⟩ := list6 (tyIns.len r3)
  refine RX.build (pv := [(0, .agg #[a0, a1, a2, a3]), (1, .agg #[b0, b1, b2, b3, b4, b5]), (2, .agg #[e0, e1, e2, e3, e4, e5])]) ?_ (fun w' => build_view w' a0 a1 a2 a3 b0 b1 b2 b3 b4 b5 e0 e1 e2 e3 e4 e5)
  simp [RX.evp, hx, hy, hz]
end Go.Proofs.YtomfpmbapdhbgaaGreat

/- The walks over package rt: layouts, unit, units, Right. -/
namespace Go.Proofs.YtomfpmbapdhbgaaGreat
open Go Go.RR Go.RX Go.GX Go.Api Go.RiseM Go.ReachM Go.RtM
attribute [local irreducible] wpList Code.wp wpPlan Exit.then Exit.inBlock bodyPost NoPanic Went GX.Post GX.Again GX.Meet GX.RowR GX.Own GX.Owns GX.Box GX.Sl GX.Pt GX.Ag GX.MapR GX.Kept GX.Pin wpT GoK AtEnd Both

theorem unit1_spec (bl : Nat) (g : List Int) (n : Int) : Does Tryz.prog 72 [.int .i64 n, .pointer (some ⟨bl, 0, none⟩)] [Pt (Ty.slice Ty.int) bl 0 g] [] (fun _ : Unit => .bool (decide (n ∈ g))) (fun _ => []) (fun _ => []) := by
  refine enter Tryz.func72 rfl Tryz.ntmps72 rfl fun b => ?_
  refine GX.wR ?_; intros
  refine GX.nmS 4 ?_; rintro ao cap rfl rfl
  refine GX.o (cl (contains_spec ao cap g n) fun _ => ?_)
  refine GX.wR ?_; intros
  exact rt1 () rfl
theorem unit2_spec (bt bo bg : Nat) (t : RTg) (o g : List Int) (n : Int) : Does Tryz.prog 73 [.int .i64 n, .pointer (some ⟨bt, 0, none⟩), .pointer (some ⟨bo, 0, none⟩), .pointer (some ⟨bg, 0, none⟩)] [Pt tyRTg bt 0 t, Pt (Ty.slice Ty.int) bo 0 o, Pt (Ty.slice Ty.int) bg 0 g] [] (fun _ : Unit => .bool (decide (IsClass t n ∧ n ∉ o ∧ n ∉ g))) (fun _ => []) (fun _ => []) := by
  refine enter Tryz.func73 rfl Tryz.ntmps73 rfl fun b => ?_
  refine GX.wR ?_; intros
  refine GX.o (cl (isClass_spec _ t n) fun _ => ?_)
  by_cases h1 : IsClass t n
  · refine GX.wR ?_; intros
    refine GX.nmS 10 ?_; rintro ao cap rfl rfl
    refine GX.o (cl (contains_spec ao cap o n) fun _ => ?_)
    by_cases h2 : n ∈ o
    · have h2' := Classical.not_not.2 h2
      refine GX.wR ?_; intros
      exact rt1 () (vN fun h => h.2.1 h2)
    · refine GX.wR ?_; intros
      refine GX.nmS 16 ?_; rintro ag cag rfl rfl
      refine GX.o (cl (contains_spec ag cag g n) fun _ => ?_)
      refine GX.wR ?_; intros
      exact rt1 () (vI ⟨fun h => h.2.2, fun h => ⟨h1, h2, h⟩⟩)
  · refine GX.wR ?_; intros
    exact rt1 () (vN fun h => h1 h.1)

theorem layouts_spec (cs : List Value) (t : RTg) : Does Tryz.prog 21 [.agg cs.toArray] [Ag tyRTg cs t] [] (fun _ : Unit => .bool (decide (∀ L ∈ t.classes, LayoutOk t L))) (fun _ => []) (fun _ => []) := by
  refine enter Tryz.func21 rfl Tryz.ntmps21 rfl fun b => ?_
  refine GX.wR ?_; intros
  refine GX.nmP 1 ?_; rintro b1 rfl
  refine GX.nmS 6 ?_; rintro aC cC rfl rfl
  refine GX.loop (σ := Nat) (fun i => [(1, .pointer (some ⟨b1, 0, none⟩)), (6, .slice aC t.classes.length cC), (7, .int .i64 (t.classes.length : Int)), (8, .int .i64 (i : Int))]) (fun _ => []) (fun _ => [])
    (fun i => i ≤ t.classes.length ∧ ∀ L ∈ t.classes.take i, LayoutOk t L) (fun i => t.classes.length - i) 0 ⟨rfl, rfl, rfl, rfl, trivial⟩ ⟨by omega, by simp⟩ (fun i hi => ?_)
  obtain ⟨hi, hA⟩ := hi
  by_cases hlt : i < t.classes.length
  · obtain ⟨L, hL⟩ := get_lt hlt
    have hm := List.mem_of_getElem? hL
    have next : LayoutOk t L → ∀ K ∈ t.classes.take (i + 1), LayoutOk t K := fun h K hK => by
      rw [List.take_add_one, hL, List.mem_append] at hK
      rcases hK with hK | hK
      · exact hA K hK
      · simp at hK; subst hK; exact h
    by_cases h1 : 8 < (L.refs.length : Int)
    · refine GX.wR ?_; intros
      exact rt1 () (vN fun h => by have := (h L hm).1; omega)
    by_cases h2 : L.arr = true
    · by_cases h3 : (L.refs.length : Int) = 1
      · have h3' := Classical.not_not.2 h3
        refine GX.wR ?_; intros
        refine GX.nmS 29 ?_; rintro aR cR rfl rfl
        refine GX.o (cl (entries_spec _ t aR cR L.refs) fun _ => ?_)
        by_cases h4 : Entries t L.refs
        · have h4' := Classical.not_not.2 h4
          refine GX.wR ?_; intros
          exact again (i + 1) ⟨rfl, rfl, rfl, rfl, trivial⟩ ⟨by omega, next ⟨by omega, fun _ => by omega, h4⟩⟩ (by omega)
        · refine GX.wR ?_; intros
          exact rt1 () (vN fun h => h4 (h L hm).2.2)
      · refine GX.wR ?_; intros
        exact rt1 () (vN fun h => h3 (by have := (h L hm).2.1 h2; omega))
    · have h2' : L.arr = false := by simpa using h2
      refine GX.wR ?_; intros
      refine GX.nmS 29 ?_; rintro aR cR rfl rfl
      refine GX.o (cl (entries_spec _ t aR cR L.refs) fun _ => ?_)
      by_cases h4 : Entries t L.refs
      · have h4' := Classical.not_not.2 h4
        refine GX.wR ?_; intros
        exact again (i + 1) ⟨rfl, rfl, rfl, rfl, trivial⟩ ⟨by omega, next ⟨by omega, fun h => absurd h h2, h4⟩⟩ (by omega)
      · refine GX.wR ?_; intros
        exact rt1 () (vN fun h => h4 (h L hm).2.2)
  · have hil : i = t.classes.length := by omega
    subst hil
    rw [List.take_length] at hA
    refine GX.wR ?_; intros
    exact rt1 () (vY hA)

theorem upP_dec {Q : Int → Prop} [DecidablePred Q] (l : List Int) : UpP (fun n => decide (Q n)) l ↔ Rise l ∧ ∀ n ∈ l, Q n := by simp [UpP]
/-- What a unit's head asks, but for takes and owns. -/
def HdA (t : RTg) (u : Unt) : Prop := (0 ≤ u.params ∧ u.params ≤ 6 ∧ u.params ≤ (u.vars.length : Int) ∧ u.vars.length ≤ 4000) ∧ Entries t u.vars ∧ (u.result = -3 ∨ IsEntry t u.result) ∧ u.ins ≠ []
instance (t : RTg) (u : Unt) : Decidable (HdA t u) := by unfold HdA; infer_instance
theorem outU_spec (cs : List Value) (t : RTg) (hs : Small t) (k : Nat) (u : Unt) (hu : t.units[k]? = some u) : Does Tryz.prog 24 [.agg cs.toArray, .int .i64 (k : Int)] [Ag tyRTg cs t] []
    (fun s : Option Addr × Nat => .slice s.1 (outOf t u).length s.2) (fun s => [Sl Ty.int s.1 s.2 (outOf t u)]) (fun _ => []) := by
  have := out_spec cs t hs k
  rw [out_some hu] at this
  exact this
structure UnS where
  b6 : Nat
  b7 : Nat
set_option maxHeartbeats 2000000 in
theorem unit_spec (cs : List Value) (t : RTg) (hs : Small t) (k : Nat) (u : Unt) (hu : t.units[k]? = some u) : Does Tryz.prog 47 [.agg cs.toArray, .int .i64 (k : Int)] [Ag tyRTg cs t] [] (fun _ : Unit => .bool (decide (UnitOk t u))) (fun _ => []) (fun _ => []) := by
  refine enter Tryz.func47 rfl Tryz.ntmps47 rfl fun b => ?_
  have hkl := (List.getElem?_eq_some_iff.1 hu).1
  have hur := hs.unit u (List.mem_of_getElem? hu)
  refine GX.wRN ?_; intros
  apply GX.region
  refine GX.wRN ?_; intros
  apply GX.region
  refine GX.wRN ?_; intros
  refine GX.nmP 2 ?_; rintro b2 rfl
  refine GX.nmP 5 ?_; rintro b5 rfl
  refine frzB b5 ?_
  refine GX.cut (σ := Bool) (fun p => [(1, .int .i64 (k : Int)), (2, .pointer (some ⟨b2, 0, none⟩)), (5, .pointer (some ⟨b5, 0, none⟩)), (64, .bool p)]) (fun _ => []) (fun _ => []) (fun p => p = decide (¬ HdA t u)) ?_ (fun p hp => ?_)
  · by_cases h1 : u.params < 0
    · refine GX.wR ?_; intros
      exact meet true ⟨rfl, rfl, rfl, rfl, trivial⟩ (decide_eq_true (show ¬ HdA t u from fun h => by have := h.1.1; omega)).symm
    by_cases h2 : 6 < u.params
    · refine GX.wR ?_; intros
      exact meet true ⟨rfl, rfl, rfl, rfl, trivial⟩ (decide_eq_true (show ¬ HdA t u from fun h => by have := h.1.2.1; omega)).symm
    by_cases h3 : (u.vars.length : Int) < u.params
    · refine GX.wR ?_; intros
      exact meet true ⟨rfl, rfl, rfl, rfl, trivial⟩ (decide_eq_true (show ¬ HdA t u from fun h => by have := h.1.2.2.1; omega)).symm
    by_cases h4 : 4000 < (u.vars.length : Int)
    · refine GX.wR ?_; intros
      exact meet true ⟨rfl, rfl, rfl, rfl, trivial⟩ (decide_eq_true (show ¬ HdA t u from fun h => by have := h.1.2.2.2; omega)).symm
    refine GX.wR ?_; intros
    refine GX.nmS 43 ?_; rintro aV cV rfl rfl
    refine GX.o (cl (entries_spec _ t aV cV u.vars) fun _ => ?_)
    by_cases h5 : Entries t u.vars
    · have h5' := Classical.not_not.2 h5
      have ei : (u.ins.length : Int) = 0 ↔ u.ins = [] := by rw [← List.length_eq_zero_iff]; omega
      by_cases h6 : u.result = -3
      · have h6' := Classical.not_not.2 h6
        refine GX.wR ?_; intros
        refine meet _ ⟨rfl, rfl, rfl, rfl, trivial⟩ (decide_eq_decide.2 (ei.trans ⟨fun h7 h => h.2.2.2 h7, fun h => Classical.byContradiction fun h7 => h ⟨by omega, h5, .inl h6, h7⟩⟩))
      · refine GX.wR ?_; intros
        refine GX.o (cl (isEntry_spec _ t u.result) fun _ => ?_)
        by_cases h7 : IsEntry t u.result
        · have h7' := Classical.not_not.2 h7
          refine GX.wR ?_; intros
          refine meet _ ⟨rfl, rfl, rfl, rfl, trivial⟩ (decide_eq_decide.2 (ei.trans ⟨fun h7 h => h.2.2.2 h7, fun h => Classical.byContradiction fun h8 => h ⟨by omega, h5, .inr h7, h8⟩⟩))
        · refine GX.wR ?_; intros
          exact meet true ⟨rfl, rfl, rfl, rfl, trivial⟩ (decide_eq_true (show ¬ HdA t u from fun h => h.2.2.1.elim h6 h7)).symm
    · refine GX.wR ?_; intros
      exact meet true ⟨rfl, rfl, rfl, rfl, trivial⟩ (decide_eq_true (show ¬ HdA t u from fun h => h5 h.2.1)).symm
  refine GX.csb (fun hpt => ?_) (fun hpf => ?_)
  · have hH : ¬ HdA t u := of_decide_eq_true (hp.symm.trans hpt)
    refine GX.wR ?_; intros
    exact rt1 () (vN fun h => hH ⟨h.1.1, h.1.2.1, h.1.2.2.1, h.1.2.2.2.1⟩)
  have hH : HdA t u := Classical.not_not.1 (of_decide_eq_false (hp.symm.trans hpf))
  refine GX.wRN ?_; intros
  refine GX.cut (σ := UnS) (fun s => [(1, .int .i64 (k : Int)), (2, .pointer (some ⟨b2, 0, none⟩)), (5, .pointer (some ⟨b5, 0, none⟩)), (6, .pointer (some ⟨s.b6, 0, none⟩)), (7, .pointer (some ⟨s.b7, 0, none⟩))]) (fun _ => [])
    (fun s => [Box 23 (Ty.slice Ty.int) s.b6 (outOf t u), Box 23 (Ty.slice Ty.int) s.b7 (glob t)]) (fun _ => True) ?_ (fun s _ => ?_)
  · refine GX.drawnT (fun j => !(List.contains [4, 7, 8] j)) (.br [(0, true), (1, true), (3, true)] (.alt 2 (.br [] (.alt 4 (.br [] (.alt 5 (.lin [(6, false), (7, false), (8, false)]) (.alt 6 (.lin [(5, false), (7, false), (8, false)]) .nil))) (.alt 5 (.br [] (.alt 4 (.lin [(6, false), (7, false), (8, false)]) (.alt 6 (.lin [(4, false), (7, false), (8, false)]) .nil))) (.alt 6 (.br [] (.alt 4 (.lin [(5, false), (7, false), (8, false)]) (.alt 5 (.lin [(4, false), (7, false), (8, false)]) .nil))) .nil)))) (.alt 5 (.br [] (.alt 2 (.br [] (.alt 4 (.lin [(6, false), (7, false), (8, false)]) (.alt 6 (.lin [(4, false), (7, false), (8, false)]) .nil))) (.alt 6 (.lin [(2, false), (4, false), (7, false), (8, false)]) .nil))) (.alt 6 (.br [] (.alt 2 (.br [] (.alt 4 (.lin [(5, false), (7, false), (8, false)]) (.alt 5 (.lin [(4, false), (7, false), (8, false)]) .nil))) (.alt 5 (.lin [(2, false), (4, false), (7, false), (8, false)]) .nil))) .nil)))) (by kernel_rfl) (by kernel_rfl) ?_; intro wd F hW hR
    refine GX.wT ?_; intros
    repeat' first
      | (refine GX.treeA ?_ ?_ <;> (refine GX.wT ?_; intros))
      | (refine GX.gok ?_; refine (cl (outU_spec _ t hs k u hu) fun s => ?_); refine GX.wT ?_; intros)
      | (refine GX.gok ?_; refine (cl (global_spec _ t hs) fun s => ?_); refine GX.wT ?_; intros)
      | (refine GX.gow ?_; refine (cl (outU_spec _ t hs k u hu) fun s => ?_); refine GX.wT ?_; intros)
      | (refine GX.gow ?_; refine (cl (global_spec _ t hs) fun s => ?_); refine GX.wT ?_; intros)
      | (refine GX.wR ?_; intros; exact meet ⟨_, _⟩ ⟨rfl, rfl, rfl, rfl, rfl, trivial⟩ trivial)
  obtain ⟨b6, b7⟩ := s
  dsimp only
  refine frzB b6 ?_
  refine frzB b7 ?_
  refine GX.wR ?_; intros
  refine GX.nmS 71 ?_; rintro aT cT rfl rfl
  refine GX.o (cl (rising_spec aT cT u.takes 72 [.pointer (some ⟨b6, 0, none⟩)] [Pt (Ty.slice Ty.int) b6 0 (outOf t u)] [] (fun n => decide (n ∈ outOf t u)) (fun n _ => unit1_spec b6 (outOf t u) n)) fun _ => ?_)
  refine GX.wR ?_; intros
  refine GX.nmS 75 ?_; rintro aO cO rfl rfl
  refine GX.o (cl (rising_spec aO cO u.owns 73 [.pointer (some ⟨b2, 0, none⟩), .pointer (some ⟨b6, 0, none⟩), .pointer (some ⟨b7, 0, none⟩)] [Pt tyRTg b2 0 t, Pt (Ty.slice Ty.int) b6 0 (outOf t u), Pt (Ty.slice Ty.int) b7 0 (glob t)] [] (fun n => decide (IsClass t n ∧ n ∉ outOf t u ∧ n ∉ glob t)) (fun n _ => unit2_spec b2 b6 b7 t (outOf t u) (glob t) n)) fun _ => ?_)
  have e1 := upP_dec (Q := fun n => n ∈ outOf t u) u.takes
  have e2 := upP_dec (Q := fun n => IsClass t n ∧ n ∉ outOf t u ∧ n ∉ glob t) u.owns
  by_cases h1 : UpP (fun n => decide (n ∈ outOf t u)) u.takes
  · have h1' := Classical.not_not.2 h1
    by_cases h2 : UpP (fun n => decide (IsClass t n ∧ n ∉ outOf t u ∧ n ∉ glob t)) u.owns
    · have h2' := Classical.not_not.2 h2
      refine GX.wR ?_; intros
      refine GX.nmS 85 ?_; rintro aI cI rfl rfl
      refine GX.loop (σ := Nat) (fun i => [(2, .pointer (some ⟨b2, 0, none⟩)), (5, .pointer (some ⟨b5, 0, none⟩)), (85, .slice aI u.ins.length cI), (86, .int .i64 (u.ins.length : Int)), (87, .int .i64 (i : Int))]) (fun _ => []) (fun _ => [])
        (fun i => i ≤ u.ins.length ∧ ∀ x ∈ u.ins.take i, Bare x ∧ Fits t u x) (fun i => u.ins.length - i) 0 ⟨rfl, rfl, rfl, rfl, rfl, trivial⟩ ⟨by omega, by simp⟩ (fun i hi => ?_)
      obtain ⟨hi, hA⟩ := hi
      by_cases hlt : i < u.ins.length
      · obtain ⟨x, hx⟩ := get_lt hlt
        refine GX.wR ?_; intros
        refine GX.o (cl (bare_spec _ x) fun _ => ?_)
        by_cases h3 : Bare x
        · have h3' := Classical.not_not.2 h3
          refine GX.wR ?_; intros
          refine GX.o (bdv fun cv => ?_)
          refine GX.wR ?_; intros
          refine GX.o (cl (fits_spec cv ⟨t, u, x⟩) fun _ => ?_)
          by_cases h4 : Fits t u x
          · have h4' := Classical.not_not.2 h4
            refine GX.wR ?_; intros
            refine again (i + 1) ⟨rfl, rfl, rfl, rfl, rfl, trivial⟩ ⟨by omega, fun y hy => ?_⟩ (by omega)
            rw [List.take_add_one, hx, List.mem_append] at hy
            rcases hy with hy | hy
            · exact hA y hy
            · simp at hy; subst hy; exact ⟨h3, h4⟩
          · refine GX.wR ?_; intros
            exact rt1 () (vN fun h => h4 (h.2 x (List.mem_of_getElem? hx)).2)
        · refine GX.wR ?_; intros
          exact rt1 () (vN fun h => h3 (h.2 x (List.mem_of_getElem? hx)).1)
      · rw [List.take_of_length_le (by omega)] at hA
        have hne : u.ins.length ≠ 0 := fun h => hH.2.2.2 (List.length_eq_zero_iff.1 h)
        obtain ⟨m, hm⟩ : ∃ m, u.ins.length = m + 1 := ⟨u.ins.length - 1, by omega⟩
        obtain ⟨x, hx⟩ := get_lt (show m < u.ins.length by omega)
        have hlo : lastOp u = x.op := by unfold lastOp; rw [hm, Nat.add_sub_cancel, hx]
        have all : (x.op = 16 ∨ x.op = 17 ∨ x.op = 18) ↔ UnitOk t u := ⟨fun h => ⟨⟨hH.1, hH.2.1, hH.2.2.1, hH.2.2.2, e1.1 h1, e2.1 h2, by rw [hlo]; exact h⟩, hA⟩, fun h => by rw [← hlo]; exact h.1.2.2.2.2.2.2⟩
        by_cases g1 : x.op = 16
        · refine GX.wR ?_; intros
          exact rt1 () (vY (all.1 (.inl g1)))
        · by_cases g2 : x.op = 17
          · refine GX.wR ?_; intros
            exact rt1 () (vY (all.1 (.inr (.inl g2))))
          · refine GX.wR ?_; intros
            exact rt1 () (vI (all.symm.trans ⟨fun h => h.elim (fun h => absurd h g1) fun h => h.elim (fun h => absurd h g2) id, fun h => .inr (.inr h)⟩))
    · refine GX.wR ?_; intros
      exact rt1 () (vN fun h => h2 (e2.2 h.1.2.2.2.2.2.1))
  · refine GX.wR ?_; intros
    exact rt1 () (vN fun h => h1 (e1.2 h.1.2.2.2.2.1))

theorem units_spec (cs : List Value) (t : RTg) (hs : Small t) : Does Tryz.prog 23 [.agg cs.toArray] [Ag tyRTg cs t] [] (fun _ : Unit => .bool (decide (UnitsOk t))) (fun _ => []) (fun _ => []) := by
  refine enter Tryz.func23 rfl Tryz.ntmps23 rfl fun b => ?_
  refine GX.wR ?_; intros
  refine GX.nmP 1 ?_; rintro b1 rfl
  refine GX.nmS 7 ?_; rintro aU cU rfl rfl
  refine GX.loop (σ := Nat) (fun i => [(1, .pointer (some ⟨b1, 0, none⟩)), (3, .int .i64 ((insOf (t.units.take i) : Nat) : Int)), (7, .slice aU t.units.length cU), (8, .int .i64 (t.units.length : Int)), (9, .int .i64 (i : Int))]) (fun _ => []) (fun _ => [])
    (fun i => i ≤ t.units.length ∧ insOf (t.units.take i) ≤ 16000 ∧ ∀ u ∈ t.units.take i, UnitOk t u) (fun i => t.units.length - i) 0 ⟨rfl, rfl, rfl, rfl, rfl, trivial⟩ ⟨by omega, by simp [insOf], by simp⟩ (fun i hi => ?_)
  obtain ⟨hi, hn, hA⟩ := hi
  by_cases hlt : i < t.units.length
  · obtain ⟨u, hu⟩ := get_lt hlt
    have hm := List.mem_of_getElem? hu
    have hul := (hs.unit u hm).2
    have ht : t.units.take (i + 1) = t.units.take i ++ [u] := by rw [List.take_add_one, hu]; rfl
    have hsn : ((insOf (t.units.take i) : Nat) : Int) + (u.ins.length : Int) = ((insOf (t.units.take (i + 1)) : Nat) : Int) := by rw [ht, insOf_snoc]; omega
    have hle := insOf_take t.units (i + 1)
    refine GX.wR ?_; intros
    rw [hsn]
    by_cases h1 : 16000 < ((insOf (t.units.take (i + 1)) : Nat) : Int)
    · refine GX.wR ?_; intros
      exact rt1 () (vN fun h => by have := h.1; omega)
    · refine GX.wR ?_; intros
      refine GX.o (cl (unit_spec _ t hs i u hu) fun _ => ?_)
      by_cases h2 : UnitOk t u
      · have h2' := Classical.not_not.2 h2
        refine GX.wR ?_; intros
        refine again (i + 1) ⟨rfl, rfl, rfl, rfl, rfl, trivial⟩ ⟨by omega, by omega, fun x hx => ?_⟩ (by omega)
        rw [ht, List.mem_append, List.mem_singleton] at hx
        rcases hx with hx | hx
        · exact hA x hx
        · subst hx; exact h2
      · refine GX.wR ?_; intros
        exact rt1 () (vN fun h => h2 (h.2 u hm))
  · have hil : i = t.units.length := by omega
    subst hil
    rw [List.take_length] at hA hn
    refine GX.wR ?_; intros
    exact rt1 () (vY ⟨hn, hA⟩)

theorem right_spec (cs : List Value) (t : RTg) (hs : Small t) : Does Tryz.prog 13 [.agg cs.toArray] [Ag tyRTg cs t] [] (fun _ : Unit => .bool (decide (RightP t))) (fun _ => []) (fun _ => []) := by
  refine enter Tryz.func13 rfl Tryz.ntmps13 rfl fun b => ?_
  by_cases h1 : 60 < (t.classes.length : Int)
  · refine GX.wR ?_; intros
    exact rt1 () (vN fun h => by have := h.1.1; omega)
  by_cases h2 : 8 < (t.globals.length : Int)
  · refine GX.wR ?_; intros
    exact rt1 () (vN fun h => by have := h.1.2.1; omega)
  by_cases h3 : (t.units.length : Int) = 0
  · refine GX.wR ?_; intros
    exact rt1 () (vN fun h => by have := h.1.2.2.1; omega)
  by_cases h4 : 16 < (t.units.length : Int)
  · refine GX.wR ?_; intros
    exact rt1 () (vN fun h => by have := h.1.2.2.2; omega)
  by_cases h5 : t.main < 0
  · have e : ¬ MainOk t := by unfold MainOk; rw [gt_out (.inl h5)]; exact id
    refine GX.wR ?_; intros
    exact rt1 () (vN fun h => e h.2.1)
  by_cases h6 : (t.units.length : Int) ≤ t.main
  · have e : ¬ MainOk t := by unfold MainOk; rw [gt_out (.inr h6)]; exact id
    refine GX.wR ?_; intros
    exact rt1 () (vN fun h => e h.2.1)
  obtain ⟨u, hu, k, hk, hkl, hu2⟩ := gt_in (l := t.units) (n := t.main) ⟨by omega, by omega⟩
  have e : MainOk t ↔ u.params = 0 ∧ u.result = -3 := by unfold MainOk; rw [hu]
  by_cases h7 : u.params = 0
  · by_cases h8 : u.result = -3
    · refine GX.wR ?_; intros
      refine GX.o (cl (layouts_spec _ t) fun _ => ?_)
      by_cases h9 : ∀ L ∈ t.classes, LayoutOk t L
      · refine GX.wR ?_; intros
        refine GX.nmS 60 ?_; rintro aG cG rfl rfl
        refine GX.o (cl (entries_spec _ t aG cG t.globals) fun _ => ?_)
        by_cases h10 : Entries t t.globals
        · refine GX.wR ?_; intros
          refine GX.o (cl (units_spec _ t hs) fun _ => ?_)
          refine GX.wR ?_; intros
          exact rt1 () (vI ⟨fun h => h.2.2.2.2, fun h => ⟨⟨by omega, by omega, by omega, by omega⟩, e.2 ⟨h7, h8⟩, h9, h10, h⟩⟩)
        · refine GX.wR ?_; intros
          exact rt1 () (vN fun h => h10 h.2.2.2.1)
      · refine GX.wR ?_; intros
        exact rt1 () (vN fun h => h9 h.2.2.1)
    · refine GX.wR ?_; intros
      exact rt1 () (vN fun h => h8 (e.1 h.2.1).2)
  · refine GX.wR ?_; intros
    exact rt1 () (vN fun h => h7 (e.1 h.2.1).1)
end Go.Proofs.YtomfpmbapdhbgaaGreat

/- The walk over 'great' of chapter 28's laws. -/
namespace Go.Proofs.YtomfpmbapdhbgaaGreat
open Go Go.RR Go.RX Go.GX Go.Api Go.RiseM Go.ReachM Go.RtM
attribute [local irreducible] wpList Code.wp wpPlan Exit.then Exit.inBlock bodyPost NoPanic Went GX.Post GX.Again GX.Meet GX.RowR GX.Own GX.Owns GX.Box GX.Sl GX.Pt GX.Ag GX.MapR GX.Kept GX.Pin wpT GoK AtEnd Both
/-- A unit such as the laws speak of. -/
def TinyU (u : Unt) : Prop := (u.vars.length ≤ 150 ∧ u.ins.length ≤ 400 ∧ u.takes.length ≤ 80 ∧ u.owns.length ≤ 80) ∧ ∀ i ∈ u.ins, i.args.length ≤ 80
instance (u : Unt) : Decidable (TinyU u) := by unfold TinyU; infer_instance
def Tiny (t : RTg) : Prop := (t.classes.length ≤ 80 ∧ t.globals.length ≤ 20 ∧ t.units.length ≤ 20) ∧ (∀ L ∈ t.classes, L.refs.length ≤ 20) ∧ ∀ u ∈ t.units, TinyU u
instance (t : RTg) : Decidable (Tiny t) := by unfold Tiny; infer_instance
theorem sum_le {l : List Nat} {k : Nat} (h : ∀ x ∈ l, x ≤ k) : l.sum ≤ l.length * k := by
  induction l with
  | nil => simp
  | cons x l ih =>
    have h1 := h x (by simp)
    have h2 := ih fun y hy => h y (by simp [hy])
    rw [List.sum_cons, List.length_cons, Nat.add_mul]; omega
theorem Tiny.small {t : RTg} (h : Tiny t) : Small t := by
  refine ⟨by have := h.1.1; omega, ?_, by have := h.1.2.1; omega, by have := h.1.2.2; omega, fun u hu => ?_⟩
  · have h1 : ∀ x ∈ (flds t).map List.length, x ≤ 20 := fun x hx => by
      obtain ⟨l, hl, rfl⟩ := List.mem_map.1 hx
      obtain ⟨L, hL, rfl⟩ := List.mem_map.1 hl
      exact h.2.1 L hL
    have h2 := sum_le h1
    rw [List.length_map, flds_len] at h2
    have := h.1.1
    omega
  · have := (h.2.2 u hu).1; omega
theorem all_one {α : Type} {P : α → Prop} {l : List α} {i : Nat} {x : α} (hx : l[i]? = some x) (h : ∀ y ∈ l.take i, P y) (hp : P x) : ∀ y ∈ l.take (i + 1), P y := by
  intro y hy
  rw [List.take_add_one, hx, List.mem_append] at hy
  rcases hy with hy | hy
  · exact h y hy
  · simp at hy; subst hy; exact hp
theorem great28_spec (cs : List Value) (t : RTg) : Does Tryz.prog 6 [.agg cs.toArray] [Ag tyRTg cs t] [] (fun _ : Unit => .bool (decide (¬ Tiny t))) (fun _ => []) (fun _ => []) := by
  refine enter Tryz.func6 rfl Tryz.ntmps6 rfl fun b => ?_
  by_cases h1 : 80 < (t.classes.length : Int)
  · refine GX.wR ?_; intros
    exact rt1 () (vY fun h => by have := h.1.1; omega)
  by_cases h2 : 20 < (t.globals.length : Int)
  · refine GX.wR ?_; intros
    exact rt1 () (vY fun h => by have := h.1.2.1; omega)
  by_cases h3 : 20 < (t.units.length : Int)
  · refine GX.wR ?_; intros
    exact rt1 () (vY fun h => by have := h.1.2.2; omega)
  refine GX.wR ?_; intros
  refine GX.nmP 1 ?_; rintro b1 rfl
  refine GX.loop (σ := Nat) (fun i => [(1, .pointer (some ⟨b1, 0, none⟩)), (3, .int .i64 (i : Int))]) (fun _ => []) (fun _ => [])
    (fun i => i ≤ t.classes.length ∧ ∀ L ∈ t.classes.take i, L.refs.length ≤ 20) (fun i => t.classes.length - i) 0 ⟨rfl, rfl, trivial⟩ ⟨by omega, by simp⟩ (fun i hi => ?_)
  obtain ⟨hi, hA⟩ := hi
  by_cases hlt : i < t.classes.length
  · obtain ⟨L, hL⟩ := get_lt hlt
    by_cases g1 : 20 < (L.refs.length : Int)
    · refine GX.wR ?_; intros
      exact rt1 () (vY fun h => by have := h.2.1 L (List.mem_of_getElem? hL); omega)
    · refine GX.wR ?_; intros
      exact again (i + 1) ⟨rfl, rfl, trivial⟩ ⟨by omega, all_one hL hA (by omega)⟩ (by omega)
  rw [List.take_of_length_le (by omega)] at hA
  clear hi
  refine GX.wR ?_; intros
  refine GX.loop (σ := Nat) (fun i => [(1, .pointer (some ⟨b1, 0, none⟩)), (4, .int .i64 (i : Int))]) (fun _ => []) (fun _ => [])
    (fun i => i ≤ t.units.length ∧ ∀ u ∈ t.units.take i, TinyU u) (fun i => t.units.length - i) 0 ⟨rfl, rfl, trivial⟩ ⟨by omega, by simp⟩ (fun k hk => ?_)
  obtain ⟨hk, hU⟩ := hk
  by_cases hkl : k < t.units.length
  · obtain ⟨u, hu⟩ := get_lt hkl
    have hm := List.mem_of_getElem? hu
    have no : ¬ TinyU u → ¬ Tiny t := fun h h2 => h (h2.2.2 u hm)
    by_cases g1 : 150 < (u.vars.length : Int)
    · refine GX.wR ?_; intros
      exact rt1 () (vY (no fun h => by have := h.1.1; omega))
    by_cases g2 : 400 < (u.ins.length : Int)
    · refine GX.wR ?_; intros
      exact rt1 () (vY (no fun h => by have := h.1.2.1; omega))
    by_cases g3 : 80 < (u.takes.length : Int)
    · refine GX.wR ?_; intros
      exact rt1 () (vY (no fun h => by have := h.1.2.2.1; omega))
    by_cases g4 : 80 < (u.owns.length : Int)
    · refine GX.wR ?_; intros
      exact rt1 () (vY (no fun h => by have := h.1.2.2.2; omega))
    refine GX.wR ?_; intros
    refine GX.nmP 5 ?_; rintro b5 rfl
    refine frzB b5 ?_
    refine GX.loop (σ := Nat) (fun i => [(1, .pointer (some ⟨b1, 0, none⟩)), (4, .int .i64 (k : Int)), (5, .pointer (some ⟨b5, 0, none⟩)), (6, .int .i64 (i : Int))]) (fun _ => []) (fun _ => [])
      (fun j => j ≤ u.ins.length ∧ ∀ i ∈ u.ins.take j, i.args.length ≤ 80) (fun j => u.ins.length - j) 0 ⟨rfl, rfl, rfl, rfl, trivial⟩ ⟨by omega, by simp⟩ (fun j hj => ?_)
    obtain ⟨hj, hI⟩ := hj
    by_cases hjl : j < u.ins.length
    · obtain ⟨x, hx⟩ := get_lt hjl
      by_cases g5 : 80 < (x.args.length : Int)
      · refine GX.wR ?_; intros
        exact rt1 () (vY (no fun h => by have := h.2 x (List.mem_of_getElem? hx); omega))
      · refine GX.wR ?_; intros
        exact again (j + 1) ⟨rfl, rfl, rfl, rfl, trivial⟩ ⟨by omega, all_one hx hI (by omega)⟩ (by omega)
    · rw [List.take_of_length_le (by omega)] at hI
      refine GX.wR ?_; intros
      exact again (k + 1) ⟨rfl, rfl, trivial⟩ ⟨by omega, all_one hu hU ⟨by omega, hI⟩⟩ (by omega)
  rw [List.take_of_length_le (by omega)] at hU
  refine GX.wR ?_; intros
  exact rt1 () (vN (Classical.not_not.2 ⟨by omega, hA, hU⟩))

end Go.Proofs.YtomfpmbapdhbgaaGreat
