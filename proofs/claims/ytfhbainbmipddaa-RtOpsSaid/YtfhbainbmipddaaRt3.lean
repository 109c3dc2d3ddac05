/- The walks over package rt: loads, lays, only, bare, two, length, fresh. -/
import Derived.Test.YtfhbainbmipddaaRt2
namespace Go.Proofs.Ytfhbainbmipddaa
open Go Go.RR Go.RX Go.GX Go.Api Go.RiseM Go.ReachM Go.RtM
attribute [local irreducible] wpList Code.wp wpPlan Exit.then Exit.inBlock bodyPost NoPanic Went GX.Post GX.Again GX.Meet GX.RowR GX.Own GX.Owns GX.Box GX.Sl GX.Pt GX.Ag GX.MapR GX.Kept GX.Pin wpT GoK AtEnd Both

theorem loads_spec (cs : List Value) (v : RtView) (a f : Int) (arr : Bool) (c : Int) : Does Try.prog 73 [.agg cs.toArray, .int .i64 a, .int .i64 f, .bool arr, .int .i64 c] [Ag tyRtView cs v] []
    (fun _ : Unit => .bool (decide (Loads v.t v.u a f arr c))) (fun _ => []) (fun _ => []) := by
  refine enter Try.func73 rfl Try.ntmps73 rfl fun b => ?_
  refine GX.wR ?_; intros
  refine GX.o (cl (cell_spec _ v f arr c) fun _ => ?_)
  have hL : Loads v.t v.u a f arr c ↔ (cell v.t v.u f arr c).2.2 = true ∧ (if (cell v.t v.u f arr c).2.1 = true then RtM.of v.u a ≠ -3 else Into (RtM.of v.u a) (cell v.t v.u f arr c).1) := Iff.rfl
  generalize cell v.t v.u f arr c = x at *
  obtain ⟨e, any, ok⟩ := x
  dsimp only at *
  cases ok with
  | false =>
    refine GX.wR ?_; intros
    exact rt1 () (vN fun h => by simp at hL; exact hL h)
  | true =>
    cases any with
    | true =>
      rw [if_pos rfl] at hL
      refine GX.wR ?_; intros
      refine GX.o (cl (of_spec _ v a) fun _ => ?_)
      by_cases h : RtM.of v.u a = -3
      · refine GX.wR ?_; intros
        exact rt1 () (vN fun h2 => (hL.1 h2).2 h)
      · refine GX.wR ?_; intros
        exact rt1 () (vY (hL.2 ⟨rfl, h⟩))
    | false =>
      rw [if_neg (by simp)] at hL
      refine GX.wR ?_; intros
      refine GX.o (cl (of_spec _ v a) fun _ => ?_)
      refine GX.wR ?_; intros
      refine GX.o (cl (into_spec _ e) fun _ => ?_)
      refine GX.wR ?_; intros
      exact rt1 () (vI (hL.trans ⟨fun h => h.2, fun h => ⟨rfl, h⟩⟩))
theorem lays_spec (cs : List Value) (v : RtView) (to : Int) (arr : Bool) (c d : Int) : Does Try.prog 74 [.agg cs.toArray, .int .i64 to, .bool arr, .int .i64 c, .int .i64 d] [Ag tyRtView cs v] []
    (fun _ : Unit => .bool (decide (Lays v.t v.u to arr c d))) (fun _ => []) (fun _ => []) := by
  refine enter Try.func74 rfl Try.ntmps74 rfl fun b => ?_
  refine GX.wR ?_; intros
  refine GX.o (cl (cell_spec _ v to arr c) fun _ => ?_)
  have hL : Lays v.t v.u to arr c d ↔ (cell v.t v.u to arr c).2.2 = true ∧ (if (cell v.t v.u to arr c).2.1 = true then RtM.of v.u d ≠ -3 else Into (cell v.t v.u to arr c).1 (RtM.of v.u d)) := Iff.rfl
  generalize cell v.t v.u to arr c = x at *
  obtain ⟨e, any, ok⟩ := x
  dsimp only at *
  cases ok with
  | false =>
    refine GX.wR ?_; intros
    exact rt1 () (vN fun h => by simp at hL; exact hL h)
  | true =>
    cases any with
    | true =>
      rw [if_pos rfl] at hL
      refine GX.wR ?_; intros
      refine GX.o (cl (of_spec _ v d) fun _ => ?_)
      by_cases h : RtM.of v.u d = -3
      · refine GX.wR ?_; intros
        exact rt1 () (vN fun h2 => (hL.1 h2).2 h)
      · refine GX.wR ?_; intros
        exact rt1 () (vY (hL.2 ⟨rfl, h⟩))
    | false =>
      rw [if_neg (by simp)] at hL
      refine GX.wR ?_; intros
      refine GX.o (cl (of_spec _ v d) fun _ => ?_)
      refine GX.wR ?_; intros
      refine GX.o (cl (into_spec e _) fun _ => ?_)
      refine GX.wR ?_; intros
      exact rt1 () (vI (hL.trans ⟨fun h => h.2, fun h => ⟨rfl, h⟩⟩))
theorem length_spec (cs : List Value) (v : RtView) : Does Try.prog 75 [.agg cs.toArray] [Ag tyRtView cs v] []
    (fun _ : Unit => .bool (decide ((cell v.t v.u v.i.b true 0).2.2 = true ∧ RtM.of v.u v.i.a = -2))) (fun _ => []) (fun _ => []) := by
  refine enter Try.func75 rfl Try.ntmps75 rfl fun b => ?_
  refine GX.wR ?_; intros
  refine GX.o (cl (cell_spec _ v v.i.b true 0) fun _ => ?_)
  generalize cell v.t v.u v.i.b true 0 = x at *
  obtain ⟨e, any, ok⟩ := x
  dsimp only at *
  cases ok with
  | false =>
    refine GX.wR ?_; intros
    exact rt1 () (vN fun h => by simp at h)
  | true =>
    refine GX.wR ?_; intros
    refine GX.o (cl (plain_spec _ v _ _ _ [v.i.a] rfl) fun _ => ?_)
    refine GX.wR ?_; intros
    have e2 : Plain v.u [v.i.a] ↔ RtM.of v.u v.i.a = -2 := by simp [Plain]
    exact rt1 () (vI ⟨fun h => e2.2 h.2, fun h => ⟨rfl, e2.1 h⟩⟩)
set_option maxHeartbeats 1000000 in
theorem fresh_spec (cs : List Value) (v : RtView) (arr : Bool) : Does Try.prog 76 [.agg cs.toArray, .bool arr] [Ag tyRtView cs v] []
    (fun _ : Unit => .bool (decide (Fresh v.t v.u v.i arr))) (fun _ => []) (fun _ => []) := by
  refine enter Try.func76 rfl Try.ntmps76 rfl fun b => ?_
  refine GX.wR ?_; intros
  refine GX.nmP 5 ?_; rintro b5 rfl
  refine frzB b5 ?_
  by_cases h : IsClass v.t v.i.n
  · obtain ⟨L, hL, k, hk, hkl, hL2⟩ := gt_in h
    have hF : Fresh v.t v.u v.i arr ↔ L.arr = arr ∧ RtM.of v.u v.i.a = v.i.n := by unfold Fresh; rw [hL]
    by_cases h3 : L.arr = arr
    · have hb : (L.arr == arr) = true := by rw [h3]; simp
      refine GX.drawn0  (fun j => !(List.contains [4] j)) [(0, true), (1, true), (2, true), (3, true), (4, false), (5, true), (6, true), (7, true), (8, true), (9, true), (10, true), (11, true), (12, true), (13, true), (14, true), (15, true), (16, true), (17, true), (18, true), (19, true), (20, true), (22, true), (23, true), (21, false), (24, true), (25, true), (26, true)] rfl (by kernel_rfl) (by kernel_rfl) (by first | ((repeat (first | apply Go.GX.SelR.nil | apply Go.GX.SelR.cons | (with_reducible apply Go.GX.TakeR.head) | apply Go.GX.TakeR.tail)); done) | (repeat (first | apply Go.GX.SelR.nil | apply Go.GX.SelR.cons | apply Go.GX.TakeR.head | apply Go.GX.TakeR.tail))) ?_; intro wd F hW hR
      refine GX.wT ?_; intros
      refine GX.gow ?_
      refine (cl (isClass_spec _ v.t v.i.n) fun _ => ?_)
      refine GX.wT ?_; intros
      refine GX.gow ?_
      refine (cl (of_spec _ v v.i.a) fun _ => ?_)
      refine GX.wT ?_; intros
      refine GX.wR ?_; intros
      exact rt1 () (vI (hF.trans ⟨fun h => h.2, fun h => ⟨h3, h⟩⟩))
    · have hb : (L.arr == arr) = false := by simpa using h3
      refine GX.drawn0  (fun j => !(List.contains [4] j)) [(0, true), (1, true), (2, true), (3, true), (4, false), (5, true), (6, true), (7, true), (8, true), (9, true), (10, true), (11, true), (12, true), (13, true), (14, true), (15, true), (16, true), (17, true), (18, true), (19, true), (20, true), (22, true), (23, true), (21, false), (24, true), (25, true), (26, true)] rfl (by kernel_rfl) (by kernel_rfl) (by first | ((repeat (first | apply Go.GX.SelR.nil | apply Go.GX.SelR.cons | (with_reducible apply Go.GX.TakeR.head) | apply Go.GX.TakeR.tail)); done) | (repeat (first | apply Go.GX.SelR.nil | apply Go.GX.SelR.cons | apply Go.GX.TakeR.head | apply Go.GX.TakeR.tail))) ?_; intro wd F hW hR
      refine GX.wT ?_; intros
      refine GX.gow ?_
      refine (cl (isClass_spec _ v.t v.i.n) fun _ => ?_)
      refine GX.wT ?_; intros
      refine GX.wR ?_; intros
      exact rt1 () (vN fun h4 => h3 (hF.1 h4).1)
  · have hF : ¬ Fresh v.t v.u v.i arr := by unfold Fresh; rw [gt_out (by unfold IsClass at h; omega)]; exact id
    refine GX.drawn0  (fun j => !(List.contains [4] j)) [(0, true), (1, true), (2, true), (3, true), (4, false), (5, true), (6, true), (7, true), (8, true), (9, true), (10, true), (11, true), (12, true), (13, true), (14, true), (15, true), (16, true), (17, true), (18, true), (19, true), (20, true), (22, true), (23, true), (21, false), (24, true), (25, true), (26, true)] rfl (by kernel_rfl) (by kernel_rfl) (by first | ((repeat (first | apply Go.GX.SelR.nil | apply Go.GX.SelR.cons | (with_reducible apply Go.GX.TakeR.head) | apply Go.GX.TakeR.tail)); done) | (repeat (first | apply Go.GX.SelR.nil | apply Go.GX.SelR.cons | apply Go.GX.TakeR.head | apply Go.GX.TakeR.tail))) ?_; intro wd F hW hR
    refine GX.wT ?_; intros
    refine GX.gow ?_
    refine (cl (isClass_spec _ v.t v.i.n) fun _ => ?_)
    refine GX.wT ?_; intros
    refine GX.wR ?_; intros
    exact rt1 () (vN hF)
set_option maxHeartbeats 1000000 in
theorem two_spec (cs : List Value) (v : RtView) : Does Try.prog 72 [.agg cs.toArray] [Ag tyRtView cs v] []
    (fun _ : Unit => .bool (decide (Two v.u v.i))) (fun _ => []) (fun _ => []) := by
  refine enter Try.func72 rfl Try.ntmps72 rfl fun b => ?_
  by_cases h1 : v.i.n < 14
  · refine GX.wR ?_; intros
    exact rt1 () (vN fun h => by have := h.1; omega)
  by_cases h2 : 24 < v.i.n
  · refine GX.wR ?_; intros
    exact rt1 () (vN fun h => by have := h.1; omega)
  refine GX.wR ?_; intros
  refine GX.o (cl (plain_spec _ v _ _ _ [v.i.a] rfl) fun _ => ?_)
  by_cases h3 : Plain v.u [v.i.a]
  · have h3' := Classical.not_not.2 h3
    have h4 : RtM.of v.u v.i.a = -2 := h3 _ (by simp)
    refine GX.wR ?_; intros
    refine GX.o (cl (plain_spec _ v _ _ _ [v.i.b, v.i.c] rfl) fun _ => ?_)
    have e5 : Plain v.u [v.i.b, v.i.c] ↔ RtM.of v.u v.i.b = -2 ∧ RtM.of v.u v.i.c = -2 := by simp [Plain]
    by_cases h5 : Plain v.u [v.i.b, v.i.c]
    · refine GX.wR ?_; intros
      exact rt1 () (vY ⟨by omega, h4, .inl (e5.1 h5)⟩)
    · have e6 : Refs v.u [v.i.b, v.i.c] ↔ IsRef (RtM.of v.u v.i.b) ∧ IsRef (RtM.of v.u v.i.c) := by simp [Refs]
      by_cases h6 : v.i.n = 21
      · refine GX.wR ?_; intros
        refine GX.o (cl (refs_spec _ v _ _ _ [v.i.b, v.i.c] rfl) fun _ => ?_)
        refine GX.wR ?_; intros
        exact rt1 () (vI ⟨fun h => h.2.2.elim (fun h7 => absurd (e5.2 h7) h5) (fun h7 => e6.2 h7.2), fun h => ⟨by omega, h4, .inr ⟨.inl h6, e6.1 h⟩⟩⟩)
      · by_cases h7 : v.i.n = 22
        · refine GX.wR ?_; intros
          refine GX.o (cl (refs_spec _ v _ _ _ [v.i.b, v.i.c] rfl) fun _ => ?_)
          refine GX.wR ?_; intros
          exact rt1 () (vI ⟨fun h => h.2.2.elim (fun h7 => absurd (e5.2 h7) h5) (fun h7 => e6.2 h7.2), fun h => ⟨by omega, h4, .inr ⟨.inr h7, e6.1 h⟩⟩⟩)
        · refine GX.wR ?_; intros
          exact rt1 () (vN fun h => h.2.2.elim (fun h8 => h5 (e5.2 h8)) (fun h8 => h8.1.elim h6 h7))
  · refine GX.wR ?_; intros
    exact rt1 () (vN fun h => h3 fun n hn => by rw [List.mem_singleton.1 hn]; exact h.2.1)
set_option maxHeartbeats 1000000 in
theorem only_spec (cs : List Value) (i : Ins) (a c d n g : Bool) : Does Try.prog 67 [.agg cs.toArray, .bool a, .bool c, .bool d, .bool n, .bool g] [Ag tyIns cs i] []
    (fun _ : Unit => .bool (decide (Only i a c d n g))) (fun _ => []) (fun _ => []) := by
  refine enter Try.func67 rfl Try.ntmps67 rfl fun b => ?_
  have eg : (i.args.length : Int) = 0 ↔ i.args = [] := by rw [← List.length_eq_zero_iff]; omega
  repeat' (first | (apply GX.s_list; first | apply GX.nil | (refine GX.o ?_; first | (apply GX.k_load; first | refine GX.lr ?_ | refine GX.lrA ?_ | refine GX.ln ?_ | refine GX.lb ?_ | refine GX.lh ?_ | (refine GX.ls ?_; intro ao cap _ _) | (refine GX.lA ?_; intro cs) | (refine GX.l0 ?_; intro cs) | refine GX.o1n ?_ | refine GX.o1b ?_ | refine GX.o1h ?_ | (refine GX.o1s ?_; intro ao cap _ _) | refine GX.omn ?_ | refine GX.omb ?_ | refine GX.omh ?_ | (refine GX.oms ?_; intro ao cap _ _) | refine GX.ofn ?_ | refine GX.ofb ?_ | refine GX.ofh ?_ | (refine GX.ofs ?_; intro ao cap _ _) | (refine GX.oA ?_; intro cs)) | (apply GX.k_move; refine GX.m ?_) | (apply GX.k_assign; refine GX.a ?_) | (apply GX.k_fieldAddr; first | refine GX.f0 ?_ | refine GX.fh ?_ | refine GX.fa ?_) | (apply GX.k_call; refine GX.c_len ?_) | (apply GX.k_pick; first | refine GX.pt ?_ | refine GX.pf ?_ | refine GX.pk ?_) | (apply GX.k_box; first | (refine GX.bxF ?_; intro _) | (refine GX.bxR ?_; intro _)) | (apply GX.k_binOp_eql; first | refine GX.b_eql ?_ | refine GX.b_pn ?_ | refine GX.b_nn ?_ | refine GX.b_snn ?_ | refine GX.b_sns ?_ | refine GX.b_eqls ?_ | refine GX.b_eqltf ?_ | refine GX.b_eqlft ?_ | refine GX.b_eqlb ?_)) | refine GX.gt ?_ | refine GX.gf ?_ | refine GX.gbt ?_ | refine GX.gbf ?_ | refine GX.un ?_ | refine GX.un0 ?_ | (refine GX.gs ?_ ?_ <;> intro _) | (refine GX.gsb ?_ ?_ <;> intro _)) | apply GX.then_normal | apply GX.seq | apply GX.region | (apply GX.s_cond; first | refine GX.ct ?_ | refine GX.cf ?_ | refine GX.cdf ?_ | refine GX.cdt ?_ | refine GX.cbt ?_ | refine GX.cbf ?_ | (refine GX.cs ?_ ?_ <;> intro _) | (refine GX.csb ?_ ?_ <;> intro _)) | apply GX.skip | apply GX.block | apply GX.inBlock_normal | apply GX.exit | apply GX.then_exit | apply GX.inBlock_exit | refine GX.ibo ?_ | apply GX.ret | apply GX.then_ret | apply GX.inBlock_ret)
  all_goals first
    | exact rt1 () (vI (Q := ((i.args.length : Int) = 0)) (by unfold Only; simp_all))
    | exact rt1 () (vY (by unfold Only; simp_all))
    | exact rt1 () (vN (by unfold Only; simp_all))
end Go.Proofs.Ytfhbainbmipddaa
