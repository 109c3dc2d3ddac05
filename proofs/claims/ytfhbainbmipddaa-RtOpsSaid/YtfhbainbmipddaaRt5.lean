/- The walks over package rt: goes, fits. -/
import Derived.Test.YtfhbainbmipddaaRt4
namespace Go.Proofs.Ytfhbainbmipddaa
open Go Go.RR Go.RX Go.GX Go.Api Go.RiseM Go.ReachM Go.RtM
attribute [local irreducible] wpList Code.wp wpPlan Exit.then Exit.inBlock bodyPost NoPanic Went GX.Post GX.Again GX.Meet GX.RowR GX.Own GX.Owns GX.Box GX.Sl GX.Pt GX.Ag GX.MapR GX.Kept GX.Pin wpT GoK AtEnd Both

theorem plain1 {u : Unt} {n : Int} : Plain u [n] ↔ RtM.of u n = -2 := by simp [Plain]
theorem plain2 {u : Unt} {n m : Int} : Plain u [n, m] ↔ RtM.of u n = -2 ∧ RtM.of u m = -2 := by simp [Plain]
theorem refs1 {u : Unt} {n : Int} : Refs u [n] ↔ IsRef (RtM.of u n) := by simp [Refs]
set_option maxHeartbeats 1000000 in
theorem goes_spec (cs : List Value) (v : RtView) : Does Try.prog 77 [.agg cs.toArray] [Ag tyRtView cs v] []
    (fun _ : Unit => .bool (decide (Goes v.t v.u v.i))) (fun _ => []) (fun _ => []) := by
  refine enter Try.func77 rfl Try.ntmps77 rfl fun b => ?_
  by_cases h13 : v.i.op = 13
  · have e : Goes v.t v.u v.i ↔ CallOk v.t v.u v.i := by unfold Goes; rw [if_pos h13]
    refine GX.wR ?_; intros
    refine GX.o (cl (call_spec _ v) fun _ => ?_)
    refine GX.wR ?_; intros
    exact rt1 () (vI e)
  by_cases h16 : v.i.op = 16
  · have e : Goes v.t v.u v.i ↔ RtM.Place v.u v.i.n := by unfold Goes; rw [if_neg h13, if_pos h16]
    refine GX.wR ?_; intros
    refine GX.o (cl (place_spec _ v _) fun _ => ?_)
    refine GX.wR ?_; intros
    exact rt1 () (vI e)
  by_cases h17 : v.i.op = 17
  · have e : Goes v.t v.u v.i ↔ RtM.of v.u v.i.a = -2 ∧ RtM.Place v.u v.i.n ∧ RtM.Place v.u v.i.c := by unfold Goes; rw [if_neg h13, if_neg h16, if_pos h17]
    refine GX.wR ?_; intros
    refine GX.o (cl (plain_spec _ v _ _ _ [v.i.a] rfl) fun _ => ?_)
    by_cases g1 : Plain v.u [v.i.a]
    · refine GX.wR ?_; intros
      refine GX.o (cl (place_spec _ v _) fun _ => ?_)
      by_cases g2 : RtM.Place v.u v.i.n
      · refine GX.wR ?_; intros
        refine GX.o (cl (place_spec _ v _) fun _ => ?_)
        refine GX.wR ?_; intros
        exact rt1 () (vI (e.trans ⟨fun h => h.2.2, fun h => ⟨plain1.1 g1, g2, h⟩⟩))
      · refine GX.wR ?_; intros
        exact rt1 () (vN fun h => g2 (e.1 h).2.1)
    · refine GX.wR ?_; intros
      exact rt1 () (vN fun h => g1 (plain1.2 (e.1 h).1))
  by_cases h18 : v.i.op = 18
  · have e : Goes v.t v.u v.i ↔ (v.u.result = -3 ∧ v.i.a = -1 ∨ v.u.result ≠ -3 ∧ Into v.u.result (RtM.of v.u v.i.a)) := by unfold Goes; rw [if_neg h13, if_neg h16, if_neg h17, if_pos h18]
    refine GX.wR ?_; intros
    refine GX.nmP 3 ?_; rintro b3 rfl
    refine frzB b3 ?_
    by_cases g1 : v.u.result = -3
    · have g1' := Classical.not_not.2 g1
      by_cases g2 : v.i.a = -1
      · refine GX.drawn0  (fun j => !(List.contains [22] j)) [(0, true), (1, true), (2, true), (3, true), (4, true), (5, true), (6, true), (7, true), (8, true), (9, true), (10, true), (11, true), (12, true), (13, true), (14, true), (15, true), (16, true), (17, true), (18, true), (19, true), (20, true), (21, false), (22, false), (23, true), (24, true), (25, true)] rfl (by kernel_rfl) (by kernel_rfl) (by first | ((repeat (first | apply Go.GX.SelR.nil | apply Go.GX.SelR.cons | (with_reducible apply Go.GX.TakeR.head) | apply Go.GX.TakeR.tail)); done) | (repeat (first | apply Go.GX.SelR.nil | apply Go.GX.SelR.cons | apply Go.GX.TakeR.head | apply Go.GX.TakeR.tail))) ?_; intro wd F hW hR
        refine GX.wT ?_; intros
        refine GX.wR ?_; intros
        exact rt1 () (vY (e.2 (.inl ⟨g1, g2⟩)))
      · refine GX.drawn0  (fun j => !(List.contains [22] j)) [(0, true), (1, true), (2, true), (3, true), (4, true), (5, true), (6, true), (7, true), (8, true), (9, true), (10, true), (11, true), (12, true), (13, true), (14, true), (15, true), (16, true), (17, true), (18, true), (19, true), (20, true), (21, false), (22, false), (23, true), (24, true), (25, true)] rfl (by kernel_rfl) (by kernel_rfl) (by first | ((repeat (first | apply Go.GX.SelR.nil | apply Go.GX.SelR.cons | (with_reducible apply Go.GX.TakeR.head) | apply Go.GX.TakeR.tail)); done) | (repeat (first | apply Go.GX.SelR.nil | apply Go.GX.SelR.cons | apply Go.GX.TakeR.head | apply Go.GX.TakeR.tail))) ?_; intro wd F hW hR
        refine GX.wT ?_; intros
        refine GX.wR ?_; intros
        exact rt1 () (vN fun h => (e.1 h).elim (fun h => g2 h.2) (fun h => h.1 g1))
    · refine GX.drawn0  (fun j => !(List.contains [22] j)) [(0, true), (1, true), (2, true), (3, true), (4, true), (5, true), (6, true), (7, true), (8, true), (9, true), (10, true), (11, true), (12, true), (13, true), (14, true), (15, true), (16, true), (17, true), (18, true), (19, true), (20, true), (21, false), (22, false), (23, true), (24, true), (25, true)] rfl (by kernel_rfl) (by kernel_rfl) (by first | ((repeat (first | apply Go.GX.SelR.nil | apply Go.GX.SelR.cons | (with_reducible apply Go.GX.TakeR.head) | apply Go.GX.TakeR.tail)); done) | (repeat (first | apply Go.GX.SelR.nil | apply Go.GX.SelR.cons | apply Go.GX.TakeR.head | apply Go.GX.TakeR.tail))) ?_; intro wd F hW hR
      refine GX.wT ?_; intros
      refine GX.gow ?_
      refine (cl (of_spec _ v _) fun _ => ?_)
      refine GX.wT ?_; intros
      refine GX.gow ?_
      refine (cl (into_spec v.u.result _) fun _ => ?_)
      refine GX.wT ?_; intros
      refine GX.wR ?_; intros
      exact rt1 () (vI (e.trans ⟨fun h => h.elim (fun h => absurd h.1 g1) (fun h => h.2), fun h => .inr ⟨g1, h⟩⟩))
  by_cases h19 : v.i.op = 19
  · have e : Goes v.t v.u v.i ↔ (match gt v.t.globals v.i.n with | some g => Into (RtM.of v.u v.i.a) g | none => False) := by unfold Goes; rw [if_neg h13, if_neg h16, if_neg h17, if_neg h18, if_pos h19]; exact Iff.rfl
    refine GX.wR ?_; intros
    refine GX.nmP 3 ?_; rintro b3 rfl
    refine frzB b3 ?_
    by_cases g1 : v.i.n < 0
    · rw [gt_out (.inl g1)] at e
      refine GX.drawn0  (fun j => !(List.contains [24] j)) [(0, true), (1, true), (2, true), (3, true), (4, true), (5, true), (6, true), (7, true), (8, true), (9, true), (10, true), (11, true), (12, true), (13, true), (14, true), (15, true), (17, true), (18, true), (19, true), (20, true), (21, true), (22, true), (23, true), (16, false), (24, false), (25, true), (26, true)] rfl (by kernel_rfl) (by kernel_rfl) (by first | ((repeat (first | apply Go.GX.SelR.nil | apply Go.GX.SelR.cons | (with_reducible apply Go.GX.TakeR.head) | apply Go.GX.TakeR.tail)); done) | (repeat (first | apply Go.GX.SelR.nil | apply Go.GX.SelR.cons | apply Go.GX.TakeR.head | apply Go.GX.TakeR.tail))) ?_; intro wd F hW hR
      refine GX.wT ?_; intros
      refine GX.wR ?_; intros
      exact rt1 () (vN e.1)
    by_cases g2 : (v.t.globals.length : Int) ≤ v.i.n
    · rw [gt_out (.inr g2)] at e
      refine GX.drawn0  (fun j => !(List.contains [24] j)) [(0, true), (1, true), (2, true), (3, true), (4, true), (5, true), (6, true), (7, true), (8, true), (9, true), (10, true), (11, true), (12, true), (13, true), (14, true), (15, true), (17, true), (18, true), (19, true), (20, true), (21, true), (22, true), (23, true), (16, false), (24, false), (25, true), (26, true)] rfl (by kernel_rfl) (by kernel_rfl) (by first | ((repeat (first | apply Go.GX.SelR.nil | apply Go.GX.SelR.cons | (with_reducible apply Go.GX.TakeR.head) | apply Go.GX.TakeR.tail)); done) | (repeat (first | apply Go.GX.SelR.nil | apply Go.GX.SelR.cons | apply Go.GX.TakeR.head | apply Go.GX.TakeR.tail))) ?_; intro wd F hW hR
      refine GX.wT ?_; intros
      refine GX.wR ?_; intros
      exact rt1 () (vN e.1)
    obtain ⟨g, hg, k, hk, hkl, hg2⟩ := gt_in (l := v.t.globals) (n := v.i.n) ⟨by omega, by omega⟩
    rw [hg] at e
    refine GX.drawn0  (fun j => !(List.contains [24] j)) [(0, true), (1, true), (2, true), (3, true), (4, true), (5, true), (6, true), (7, true), (8, true), (9, true), (10, true), (11, true), (12, true), (13, true), (14, true), (15, true), (17, true), (18, true), (19, true), (20, true), (21, true), (22, true), (23, true), (16, false), (24, false), (25, true), (26, true)] rfl (by kernel_rfl) (by kernel_rfl) (by first | ((repeat (first | apply Go.GX.SelR.nil | apply Go.GX.SelR.cons | (with_reducible apply Go.GX.TakeR.head) | apply Go.GX.TakeR.tail)); done) | (repeat (first | apply Go.GX.SelR.nil | apply Go.GX.SelR.cons | apply Go.GX.TakeR.head | apply Go.GX.TakeR.tail))) ?_; intro wd F hW hR
    refine GX.wT ?_; intros
    refine GX.gow ?_
    refine (cl (of_spec _ v _) fun _ => ?_)
    refine GX.wT ?_; intros
    refine GX.gow ?_
    refine (cl (into_spec _ g) fun _ => ?_)
    refine GX.wT ?_; intros
    refine GX.wR ?_; intros
    exact rt1 () (vI e)
  by_cases h20 : v.i.op = 20
  · have e : Goes v.t v.u v.i ↔ (match gt v.t.globals v.i.n with | some g => Into g (RtM.of v.u v.i.a) | none => False) := by unfold Goes; rw [if_neg h13, if_neg h16, if_neg h17, if_neg h18, if_neg h19, if_pos h20]; exact Iff.rfl
    refine GX.wR ?_; intros
    refine GX.nmP 3 ?_; rintro b3 rfl
    refine frzB b3 ?_
    by_cases g1 : v.i.n < 0
    · rw [gt_out (.inl g1)] at e
      refine GX.drawn0  (fun j => !(List.contains [24] j)) [(0, true), (1, true), (2, true), (3, true), (4, true), (5, true), (6, true), (7, true), (8, true), (9, true), (10, true), (11, true), (12, true), (13, true), (14, true), (15, true), (16, true), (17, true), (18, true), (19, true), (20, true), (21, true), (22, true), (23, false), (24, false), (25, true), (26, true)] rfl (by kernel_rfl) (by kernel_rfl) (by first | ((repeat (first | apply Go.GX.SelR.nil | apply Go.GX.SelR.cons | (with_reducible apply Go.GX.TakeR.head) | apply Go.GX.TakeR.tail)); done) | (repeat (first | apply Go.GX.SelR.nil | apply Go.GX.SelR.cons | apply Go.GX.TakeR.head | apply Go.GX.TakeR.tail))) ?_; intro wd F hW hR
      refine GX.wT ?_; intros
      refine GX.wR ?_; intros
      exact rt1 () (vN e.1)
    by_cases g2 : (v.t.globals.length : Int) ≤ v.i.n
    · rw [gt_out (.inr g2)] at e
      refine GX.drawn0  (fun j => !(List.contains [24] j)) [(0, true), (1, true), (2, true), (3, true), (4, true), (5, true), (6, true), (7, true), (8, true), (9, true), (10, true), (11, true), (12, true), (13, true), (14, true), (15, true), (16, true), (17, true), (18, true), (19, true), (20, true), (21, true), (22, true), (23, false), (24, false), (25, true), (26, true)] rfl (by kernel_rfl) (by kernel_rfl) (by first | ((repeat (first | apply Go.GX.SelR.nil | apply Go.GX.SelR.cons | (with_reducible apply Go.GX.TakeR.head) | apply Go.GX.TakeR.tail)); done) | (repeat (first | apply Go.GX.SelR.nil | apply Go.GX.SelR.cons | apply Go.GX.TakeR.head | apply Go.GX.TakeR.tail))) ?_; intro wd F hW hR
      refine GX.wT ?_; intros
      refine GX.wR ?_; intros
      exact rt1 () (vN e.1)
    obtain ⟨g, hg, k, hk, hkl, hg2⟩ := gt_in (l := v.t.globals) (n := v.i.n) ⟨by omega, by omega⟩
    rw [hg] at e
    refine GX.drawn0  (fun j => !(List.contains [24] j)) [(0, true), (1, true), (2, true), (3, true), (4, true), (5, true), (6, true), (7, true), (8, true), (9, true), (10, true), (11, true), (12, true), (13, true), (14, true), (15, true), (16, true), (17, true), (18, true), (19, true), (20, true), (21, true), (22, true), (23, false), (24, false), (25, true), (26, true)] rfl (by kernel_rfl) (by kernel_rfl) (by first | ((repeat (first | apply Go.GX.SelR.nil | apply Go.GX.SelR.cons | (with_reducible apply Go.GX.TakeR.head) | apply Go.GX.TakeR.tail)); done) | (repeat (first | apply Go.GX.SelR.nil | apply Go.GX.SelR.cons | apply Go.GX.TakeR.head | apply Go.GX.TakeR.tail))) ?_; intro wd F hW hR
    refine GX.wT ?_; intros
    refine GX.gow ?_
    refine (cl (of_spec _ v _) fun _ => ?_)
    refine GX.wT ?_; intros
    refine GX.gow ?_
    refine (cl (into_spec g _) fun _ => ?_)
    refine GX.wT ?_; intros
    refine GX.wR ?_; intros
    exact rt1 () (vI e)
  have e : Goes v.t v.u v.i ↔ v.i.args ≠ [] ∧ Rise v.i.args ∧ ∀ n ∈ v.i.args, n ∈ v.u.owns := by unfold Goes; rw [if_neg h13, if_neg h16, if_neg h17, if_neg h18, if_neg h19, if_neg h20]
  have ea : 0 < (v.i.args.length : Int) ↔ v.i.args ≠ [] := by rw [ne_eq, ← List.length_eq_zero_iff]; omega
  by_cases g1 : 0 < (v.i.args.length : Int)
  · refine GX.wR ?_; intros
    refine GX.nmP 1 ?_; rintro b1 rfl
    refine GX.nmS 126 ?_; rintro aA cA rfl rfl
    refine GX.o (cl (rising_spec aA cA v.i.args 84 [.pointer (some ⟨b1, 0, none⟩)] [Pt tyRtView b1 0 v] [] (fun n => decide (n ∈ v.u.owns)) (fun n _ => goes1_spec b1 v n)) fun _ => ?_)
    refine GX.wR ?_; intros
    refine rt1 () (vI ?_)
    exact e.trans ⟨fun h => ⟨h.2.1, fun n hn => decide_eq_true (h.2.2 n hn)⟩, fun h => ⟨ea.1 g1, h.1, fun n hn => of_decide_eq_true (h.2 n hn)⟩⟩
  · refine GX.wR ?_; intros
    exact rt1 () (vN fun h => g1 (ea.2 (e.1 h).1))
end Go.Proofs.Ytfhbainbmipddaa
