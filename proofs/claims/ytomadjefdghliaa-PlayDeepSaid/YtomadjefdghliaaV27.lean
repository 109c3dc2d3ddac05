import Derived.Test.YtomadjefdghliaaV11
import Derived.Test.YtomadjefdghliaaV12
import Derived.Test.YtomadjefdghliaaV13
import Derived.Test.YtomadjefdghliaaV26
/- The walks over package rt: loads, lays, only, bare, two, length, fresh. -/
namespace Go.Proofs.Ytomadjefdghliaa
open Go Go.RR Go.RX Go.GX Go.Api Go.RiseM Go.ReachM Go.RtM
attribute [local irreducible] wpList Code.wp wpPlan Exit.then Exit.inBlock bodyPost NoPanic Went GX.Post GX.Again GX.Meet GX.RowR GX.Own GX.Owns GX.Box GX.Sl GX.Pt GX.Ag GX.MapR GX.Kept GX.Pin wpT GoK AtEnd Both

theorem loads_spec (cs : List Value) (v : RtView) (a f : Int) (arr : Bool) (c : Int) : Does Try.prog 92 [.agg cs.toArray, .int .i64 a, .int .i64 f, .bool arr, .int .i64 c] [Ag tyRtView cs v] []
    (fun _ : Unit => .bool (decide (Loads v.t v.u a f arr c))) (fun _ => []) (fun _ => []) := by
  refine enter Try.func92 rfl Try.ntmps92 rfl fun b => ?_
  refine GX.wR ?_; intros
  refine GX.o (cl (cell_spec _ v f arr c) fun _ => ?_)
  have hL : Loads v.t v.u a f arr c ↔ (cell v.t v.u f arr c).2.2 = true ∧ (if (cell v.t v.u f arr c).2.1 = true then RtM.of v.u a ≠ -3 else Into (RtM.of v.u a) (cell v.t v.u f arr c).1) := Iff.rfl
  generalize cell v.t v.u f arr c = x at *
  obtain ⟨e, any, ok⟩ := x
  dsimp only at *
  cases ok with
  | false =>
    refine GX.wR ?_; intros
    exact rt1 () (vN fun h => by simp at hL; exact hL h)
  | true =>
    cases any with
    | true =>
      rw [if_pos rfl] at hL
      refine GX.wR ?_; intros
      refine GX.o (cl (of_spec _ v a) fun _ => ?_)
      by_cases h : RtM.of v.u a = -3
      · refine GX.wR ?_; intros
        exact rt1 () (vN fun h2 => (hL.1 h2).2 h)
      · refine GX.wR ?_; intros
        exact rt1 () (vY (hL.2 ⟨rfl, h⟩))
    | false =>
      rw [if_neg (by simp)] at hL
      refine GX.wR ?_; intros
      refine GX.o (cl (of_spec _ v a) fun _ => ?_)
      refine GX.wR ?_; intros
      refine GX.o (cl (into_spec _ e) fun _ => ?_)
      refine GX.wR ?_; intros
      exact rt1 () (vI (hL.trans ⟨fun h => h.2, fun h => ⟨rfl, h⟩⟩))
theorem lays_spec (cs : List Value) (v : RtView) (to : Int) (arr : Bool) (c d : Int) : Does Try.prog 93 [.agg cs.toArray, .int .i64 to, .bool arr, .int .i64 c, .int .i64 d] [Ag tyRtView cs v] []
    (fun _ : Unit => .bool (decide (Lays v.t v.u to arr c d))) (fun _ => []) (fun _ => []) := by
  refine enter Try.func93 rfl Try.ntmps93 rfl fun b => ?_
  refine GX.wR ?_; intros
  refine GX.o (cl (cell_spec _ v to arr c) fun _ => ?_)
  have hL : Lays v.t v.u to arr c d ↔ (cell v.t v.u to arr c).2.2 = true ∧ (if (cell v.t v.u to arr c).2.1 = true then RtM.of v.u d ≠ -3 else Into (cell v.t v.u to arr c).1 (RtM.of v.u d)) := Iff.rfl
  generalize cell v.t v.u to arr c = x at *
  obtain ⟨e, any, ok⟩ := x
  dsimp only at *
  cases ok with
  | false =>
    refine GX.wR ?_; intros
    exact rt1 () (vN fun h => by simp at hL; exact hL h)
  | true =>
    cases any with
    | true =>
      rw [if_pos rfl] at hL
      refine GX.wR ?_; intros
      refine GX.o (cl (of_spec _ v d) fun _ => ?_)
      by_cases h : RtM.of v.u d = -3
      · refine GX.wR ?_; intros
        exact rt1 () (vN fun h2 => (hL.1 h2).2 h)
      · refine GX.wR ?_; intros
        exact rt1 () (vY (hL.2 ⟨rfl, h⟩))
    | false =>
      rw [if_neg (by simp)] at hL
      refine GX.wR ?_; intros
      refine GX.o (cl (of_spec _ v d) fun _ => ?_)
      refine GX.wR ?_; intros
      refine GX.o (cl (into_spec e _) fun _ => ?_)
      refine GX.wR ?_; intros
      exact rt1 () (vI (hL.trans ⟨fun h => h.2, fun h => ⟨rfl, h⟩⟩))
theorem length_spec (cs : List Value) (v : RtView) : Does Try.prog 94 [.agg cs.toArray] [Ag tyRtView cs v] []
    (fun _ : Unit => .bool (decide ((cell v.t v.u v.i.b true 0).2.2 = true ∧ RtM.of v.u v.i.a = -2))) (fun _ => []) (fun _ => []) := by
  refine enter Try.func94 rfl Try.ntmps94 rfl fun b => ?_
  refine GX.wR ?_; intros
  refine GX.o (cl (cell_spec _ v v.i.b true 0) fun _ => ?_)
  generalize cell v.t v.u v.i.b true 0 = x at *
  obtain ⟨e, any, ok⟩ := x
  dsimp only at *
  cases ok with
  | false =>
    refine GX.wR ?_; intros
    exact rt1 () (vN fun h => by simp at h)
  | true =>
    refine GX.wR ?_; intros
    refine GX.o (cl (plain_spec _ v _ _ _ [v.i.a] rfl) fun _ => ?_)
    refine GX.wR ?_; intros
    have e2 : Plain v.u [v.i.a] ↔ RtM.of v.u v.i.a = -2 := by simp [Plain]
    exact rt1 () (vI ⟨fun h => e2.2 h.2, fun h => ⟨rfl, e2.1 h⟩⟩)
set_option maxHeartbeats 1000000 in
theorem fresh_spec (cs : List Value) (v : RtView) (arr : Bool) : Does Try.prog 95 [.agg cs.toArray, .bool arr] [Ag tyRtView cs v] []
    (fun _ : Unit => .bool (decide (Fresh v.t v.u v.i arr))) (fun _ => []) (fun _ => []) := by
  refine enter Try.func95 rfl Try.ntmps95 rfl fun b => ?_
  refine GX.wR ?_; intros
  refine GX.nmP 5 ?_; rintro b5 rfl
  refine frzB b5 ?_
  by_cases h : IsClass v.t v.i.n
  · obtain ⟨L, hL, k, hk, hkl, hL2⟩ := gt_in h
    have hF : Fresh v.t v.u v.i arr ↔ L.arr = arr ∧ RtM.of v.u v.i.a = v.i.n := by unfold Fresh; rw [hL]
    by_cases h3 : L.arr = arr
    · have hb : (L.arr == arr) = true := by rw [h3]; simp
      refine GX.drawn0  (fun j => !(List.contains [4] j)) [(0, true), (1, true), (2, true), (3, true), (4, false), (5, true), (6, true), (7, true), (8, true), (9, true), (10, true), (11, true), (12, true), (13, true), (14, true), (15, true), (16, true), (17, true), (18, true), (19, true), (20, true), (22, true), (23, true), (21, false), (24, true), (25, true), (26, true)] rfl (by kernel_rfl) (by kernel_rfl) (by first | ((repeat (first | apply Go.GX.SelR.nil | apply Go.GX.SelR.cons | (with_reducible apply Go.GX.TakeR.head) | apply Go.GX.TakeR.tail)); done) | (repeat (first | apply Go.GX.SelR.nil | apply Go.GX.SelR.cons | apply Go.GX.TakeR.head | apply Go.GX.TakeR.tail))) ?_; intro wd F hW hR
      refine GX.wT ?_; intros
      refine GX.gow ?_
      refine (cl (isClass_spec _ v.t v.i.n) fun _ => ?_)
      refine GX.wT ?_; intros
      refine GX.gow ?_
      refine (cl (of_spec _ v v.i.a) fun _ => ?_)
      refine GX.wT ?_; intros
      refine GX.wR ?_; intros
      exact rt1 () (vI (hF.trans ⟨fun h => h.2, fun h => ⟨h3, h⟩⟩))
    · have hb : (L.arr == arr) = false := by simpa using h3
      refine GX.drawn0  (fun j => !(List.contains [4] j)) [(0, true), (1, true), (2, true), (3, true), (4, false), (5, true), (6, true), (7, true), (8, true), (9, true), (10, true), (11, true), (12, true), (13, true), (14, true), (15, true), (16, true), (17, true), (18, true), (19, true), (20, true), (22, true), (23, true), (21, false), (24, true), (25, true), (26, true)] rfl (by kernel_rfl) (by kernel_rfl) (by first | ((repeat (first | apply Go.GX.SelR.nil | apply Go.GX.SelR.cons | (with_reducible apply Go.GX.TakeR.head) | apply Go.GX.TakeR.tail)); done) | (repeat (first | apply Go.GX.SelR.nil | apply Go.GX.SelR.cons | apply Go.GX.TakeR.head | apply Go.GX.TakeR.tail))) ?_; intro wd F hW hR
      refine GX.wT ?_; intros
      refine GX.gow ?_
      refine (cl (isClass_spec _ v.t v.i.n) fun _ => ?_)
      refine GX.wT ?_; intros
      refine GX.wR ?_; intros
      exact rt1 () (vN fun h4 => h3 (hF.1 h4).1)
  · have hF : ¬ Fresh v.t v.u v.i arr := by unfold Fresh; rw [gt_out (by unfold IsClass at h; omega)]; exact id
    refine GX.drawn0  (fun j => !(List.contains [4] j)) [(0, true), (1, true), (2, true), (3, true), (4, false), (5, true), (6, true), (7, true), (8, true), (9, true), (10, true), (11, true), (12, true), (13, true), (14, true), (15, true), (16, true), (17, true), (18, true), (19, true), (20, true), (22, true), (23, true), (21, false), (24, true), (25, true), (26, true)] rfl (by kernel_rfl) (by kernel_rfl) (by first | ((repeat (first | apply Go.GX.SelR.nil | apply Go.GX.SelR.cons | (with_reducible apply Go.GX.TakeR.head) | apply Go.GX.TakeR.tail)); done) | (repeat (first | apply Go.GX.SelR.nil | apply Go.GX.SelR.cons | apply Go.GX.TakeR.head | apply Go.GX.TakeR.tail))) ?_; intro wd F hW hR
    refine GX.wT ?_; intros
    refine GX.gow ?_
    refine (cl (isClass_spec _ v.t v.i.n) fun _ => ?_)
    refine GX.wT ?_; intros
    refine GX.wR ?_; intros
    exact rt1 () (vN hF)
set_option maxHeartbeats 1000000 in
theorem two_spec (cs : List Value) (v : RtView) : Does Try.prog 91 [.agg cs.toArray] [Ag tyRtView cs v] []
    (fun _ : Unit => .bool (decide (Two v.u v.i))) (fun _ => []) (fun _ => []) := by
  refine enter Try.func91 rfl Try.ntmps91 rfl fun b => ?_
  by_cases h1 : v.i.n < 14
  · refine GX.wR ?_; intros
    exact rt1 () (vN fun h => by have := h.1; omega)
  by_cases h2 : 24 < v.i.n
  · refine GX.wR ?_; intros
    exact rt1 () (vN fun h => by have := h.1; omega)
  refine GX.wR ?_; intros
  refine GX.o (cl (plain_spec _ v _ _ _ [v.i.a] rfl) fun _ => ?_)
  by_cases h3 : Plain v.u [v.i.a]
  · have h3' := Classical.not_not.2 h3
    have h4 : RtM.of v.u v.i.a = -2 := h3 _ (by simp)
    refine GX.wR ?_; intros
    refine GX.o (cl (plain_spec _ v _ _ _ [v.i.b, v.i.c] rfl) fun _ => ?_)
    have e5 : Plain v.u [v.i.b, v.i.c] ↔ RtM.of v.u v.i.b = -2 ∧ RtM.of v.u v.i.c = -2 := by simp [Plain]
    by_cases h5 : Plain v.u [v.i.b, v.i.c]
    · refine GX.wR ?_; intros
      exact rt1 () (vY ⟨by omega, h4, .inl (e5.1 h5)⟩)
    · have e6 : Refs v.u [v.i.b, v.i.c] ↔ IsRef (RtM.of v.u v.i.b) ∧ IsRef (RtM.of v.u v.i.c) := by simp [Refs]
      by_cases h6 : v.i.n = 21
      · refine GX.wR ?_; intros
        refine GX.o (cl (refs_spec _ v _ _ _ [v.i.b, v.i.c] rfl) fun _ => ?_)
        refine GX.wR ?_; intros
        exact rt1 () (vI ⟨fun h => h.2.2.elim (fun h7 => absurd (e5.2 h7) h5) (fun h7 => e6.2 h7.2), fun h => ⟨by omega, h4, .inr ⟨.inl h6, e6.1 h⟩⟩⟩)
      · by_cases h7 : v.i.n = 22
        · refine GX.wR ?_; intros
          refine GX.o (cl (refs_spec _ v _ _ _ [v.i.b, v.i.c] rfl) fun _ => ?_)
          refine GX.wR ?_; intros
          exact rt1 () (vI ⟨fun h => h.2.2.elim (fun h7 => absurd (e5.2 h7) h5) (fun h7 => e6.2 h7.2), fun h => ⟨by omega, h4, .inr ⟨.inr h7, e6.1 h⟩⟩⟩)
        · refine GX.wR ?_; intros
          exact rt1 () (vN fun h => h.2.2.elim (fun h8 => h5 (e5.2 h8)) (fun h8 => h8.1.elim h6 h7))
  · refine GX.wR ?_; intros
    exact rt1 () (vN fun h => h3 fun n hn => by rw [List.mem_singleton.1 hn]; exact h.2.1)
set_option maxHeartbeats 1000000 in
theorem only_spec (cs : List Value) (i : Ins) (a c d n g : Bool) : Does Try.prog 86 [.agg cs.toArray, .bool a, .bool c, .bool d, .bool n, .bool g] [Ag tyIns cs i] []
    (fun _ : Unit => .bool (decide (Only i a c d n g))) (fun _ => []) (fun _ => []) := by
  refine enter Try.func86 rfl Try.ntmps86 rfl fun b => ?_
  have eg : (i.args.length : Int) = 0 ↔ i.args = [] := by rw [← List.length_eq_zero_iff]; omega
  repeat' (first | (apply GX.s_list; first | apply GX.nil | (refine GX.o ?_; first | (apply GX.k_load; first | refine GX.lr ?_ | refine GX.lrA ?_ | refine GX.ln ?_ | refine GX.lb ?_ | refine GX.lh ?_ | (refine GX.ls ?_; intro ao cap _ _) | (refine GX.lA ?_; intro cs) | (refine GX.l0 ?_; intro cs) | refine GX.o1n ?_ | refine GX.o1b ?_ | refine GX.o1h ?_ | (refine GX.o1s ?_; intro ao cap _ _) | refine GX.omn ?_ | refine GX.omb ?_ | refine GX.omh ?_ | (refine GX.oms ?_; intro ao cap _ _) | refine GX.ofn ?_ | refine GX.ofb ?_ | refine GX.ofh ?_ | (refine GX.ofs ?_; intro ao cap _ _) | (refine GX.oA ?_; intro cs)) | (apply GX.k_move; refine GX.m ?_) | (apply GX.k_assign; refine GX.a ?_) | (apply GX.k_fieldAddr; first | refine GX.f0 ?_ | refine GX.fh ?_ | refine GX.fa ?_) | (apply GX.k_call; refine GX.c_len ?_) | (apply GX.k_pick; first | refine GX.pt ?_ | refine GX.pf ?_ | refine GX.pk ?_) | (apply GX.k_box; first | (refine GX.bxF ?_; intro _) | (refine GX.bxR ?_; intro _)) | (apply GX.k_binOp_eql; first | refine GX.b_eql ?_ | refine GX.b_pn ?_ | refine GX.b_nn ?_ | refine GX.b_snn ?_ | refine GX.b_sns ?_ | refine GX.b_eqls ?_ | refine GX.b_eqltf ?_ | refine GX.b_eqlft ?_ | refine GX.b_eqlb ?_)) | refine GX.gt ?_ | refine GX.gf ?_ | refine GX.gbt ?_ | refine GX.gbf ?_ | refine GX.un ?_ | refine GX.un0 ?_ | (refine GX.gs ?_ ?_ <;> intro _) | (refine GX.gsb ?_ ?_ <;> intro _)) | apply GX.then_normal | apply GX.seq | apply GX.region | (apply GX.s_cond; first | refine GX.ct ?_ | refine GX.cf ?_ | refine GX.cdf ?_ | refine GX.cdt ?_ | refine GX.cbt ?_ | refine GX.cbf ?_ | (refine GX.cs ?_ ?_ <;> intro _) | (refine GX.csb ?_ ?_ <;> intro _)) | apply GX.skip | apply GX.block | apply GX.inBlock_normal | apply GX.exit | apply GX.then_exit | apply GX.inBlock_exit | refine GX.ibo ?_ | apply GX.ret | apply GX.then_ret | apply GX.inBlock_ret)
  all_goals first
    | exact rt1 () (vI (Q := ((i.args.length : Int) = 0)) (by unfold Only; simp_all))
    | exact rt1 () (vY (by unfold Only; simp_all))
    | exact rt1 () (vN (by unfold Only; simp_all))
end Go.Proofs.Ytomadjefdghliaa

/- The walks over package rt: bare, call, goes, fits. -/
namespace Go.Proofs.Ytomadjefdghliaa
open Go Go.RR Go.RX Go.GX Go.Api Go.RiseM Go.ReachM Go.RtM
attribute [local irreducible] wpList Code.wp wpPlan Exit.then Exit.inBlock bodyPost NoPanic Went GX.Post GX.Again GX.Meet GX.RowR GX.Own GX.Owns GX.Box GX.Sl GX.Pt GX.Ag GX.MapR GX.Kept GX.Pin wpT GoK AtEnd Both

theorem bare_spec (cs : List Value) (i : Ins) : Does Try.prog 76 [.agg cs.toArray] [Ag tyIns cs i] []
    (fun _ : Unit => .bool (decide (Bare i))) (fun _ => []) (fun _ => []) := by
  refine enter Try.func76 rfl Try.ntmps76 rfl fun b => ?_
  repeat' (first | (apply GX.s_list; first | apply GX.nil | (refine GX.o ?_; first | (apply GX.k_load; first | refine GX.lr ?_ | refine GX.lrA ?_ | refine GX.ln ?_ | refine GX.lb ?_ | refine GX.lh ?_ | (refine GX.ls ?_; intro ao cap _ _) | (refine GX.lA ?_; intro cs) | (refine GX.l0 ?_; intro cs) | refine GX.o1n ?_ | refine GX.o1b ?_ | refine GX.o1h ?_ | (refine GX.o1s ?_; intro ao cap _ _) | refine GX.omn ?_ | refine GX.omb ?_ | refine GX.omh ?_ | (refine GX.oms ?_; intro ao cap _ _) | refine GX.ofn ?_ | refine GX.ofb ?_ | refine GX.ofh ?_ | (refine GX.ofs ?_; intro ao cap _ _) | (refine GX.oA ?_; intro cs)) | (apply GX.k_assign; refine GX.a ?_) | (apply GX.k_fieldAddr; first | refine GX.f0 ?_ | refine GX.fh ?_ | refine GX.fa ?_) | (apply GX.k_box; first | (refine GX.bxF ?_; intro _) | (refine GX.bxR ?_; intro _)) | (apply GX.k_binOp_eql; first | refine GX.b_eql ?_ | refine GX.b_pn ?_ | refine GX.b_nn ?_ | refine GX.b_snn ?_ | refine GX.b_sns ?_ | refine GX.b_eqls ?_ | refine GX.b_eqltf ?_ | refine GX.b_eqlft ?_ | refine GX.b_eqlb ?_)) | refine GX.gt ?_ | refine GX.gf ?_ | refine GX.gbt ?_ | refine GX.gbf ?_ | refine GX.un ?_ | refine GX.un0 ?_ | (refine GX.gs ?_ ?_ <;> intro _) | (refine GX.gsb ?_ ?_ <;> intro _)) | apply GX.then_normal | apply GX.seq | apply GX.region | (apply GX.s_cond; first | refine GX.ct ?_ | refine GX.cf ?_ | refine GX.cdf ?_ | refine GX.cdt ?_ | refine GX.cbt ?_ | refine GX.cbf ?_ | (refine GX.cs ?_ ?_ <;> intro _) | (refine GX.csb ?_ ?_ <;> intro _)) | apply GX.skip | apply GX.block | apply GX.inBlock_normal | apply GX.exit | apply GX.then_exit | apply GX.inBlock_exit | refine GX.ibo ?_ | apply GX.ret | apply GX.then_ret | apply GX.inBlock_ret)
  all_goals first
    | (refine GX.o (cl (only_spec _ i _ _ _ _ _) fun _ => ?_)
       refine GX.wR ?_; intros
       refine rt1 () (vI ?_)
       unfold Bare names
       simp_all)
    | exact rt1 () (vN (by unfold Bare names; simp_all))

theorem call_spec (cs : List Value) (v : RtView) : Does Try.prog 101 [.agg cs.toArray] [Ag tyRtView cs v] []
    (fun _ : Unit => .bool (decide (CallOk v.t v.u v.i))) (fun _ => []) (fun _ => []) := by
  refine enter Try.func101 rfl Try.ntmps101 rfl fun b => ?_
  by_cases h1 : v.i.c < 0
  · have e : ¬ CallOk v.t v.u v.i := by unfold CallOk; rw [gt_out (.inl h1)]; exact id
    refine GX.wR ?_; intros
    exact rt1 () (vN e)
  by_cases h2 : (v.t.units.length : Int) ≤ v.i.c
  · have e : ¬ CallOk v.t v.u v.i := by unfold CallOk; rw [gt_out (.inr h2)]; exact id
    refine GX.wR ?_; intros
    exact rt1 () (vN e)
  obtain ⟨g, hg, k, hk, hkl, hg2⟩ := gt_in (l := v.t.units) (n := v.i.c) ⟨by omega, by omega⟩
  have e : CallOk v.t v.u v.i ↔ ((v.i.args.length : Int) = g.params ∧ g.params ≤ (g.vars.length : Int) ∧ (∀ p ∈ v.i.args.zip g.vars, Into p.2 (RtM.of v.u p.1))) ∧ (v.i.a = -1 ∨ Into (RtM.of v.u v.i.a) g.result) := by unfold CallOk; rw [hg]
  by_cases h3 : (v.i.args.length : Int) = g.params
  · by_cases h4 : (g.vars.length : Int) < g.params
    · refine GX.wR ?_; intros
      exact rt1 () (vN fun h => by have := (e.1 h).1.2.1; omega)
    · refine GX.wR ?_; intros
      refine GX.nmP 1 ?_; rintro b1 rfl
      refine GX.nmP 3 ?_; rintro b3 rfl
      refine GX.nmP 4 ?_; rintro b4 rfl
      refine frzB b3 ?_
      refine frzB b4 ?_
      refine GX.nmS 43 ?_; rintro aA cA rfl rfl
      refine GX.loop (σ := Nat) (fun i => [(1, .pointer (some ⟨b1, 0, none⟩)), (3, .pointer (some ⟨b3, 0, none⟩)), (4, .pointer (some ⟨b4, 0, none⟩)), (43, .slice aA v.i.args.length cA), (44, .int .i64 (v.i.args.length : Int)), (45, .int .i64 (i : Int))]) (fun _ => []) (fun _ => [])
        (fun i => i ≤ v.i.args.length ∧ ∀ p ∈ (v.i.args.zip g.vars).take i, Into p.2 (RtM.of v.u p.1)) (fun i => v.i.args.length - i) 0 ⟨rfl, rfl, rfl, rfl, rfl, rfl, trivial⟩ ⟨by omega, by simp⟩ (fun i hi => ?_)
      obtain ⟨hi, hA⟩ := hi
      have hzl : (v.i.args.zip g.vars).length = v.i.args.length := by rw [List.length_zip]; omega
      by_cases hlt : i < v.i.args.length
      · obtain ⟨a, ha⟩ := get_lt hlt
        obtain ⟨w, hw⟩ := get_lt (show i < g.vars.length by omega)
        have hz : (v.i.args.zip g.vars)[i]? = some (a, w) := by rw [List.getElem?_zip_eq_some]; exact ⟨ha, hw⟩
        refine GX.wR ?_; intros
        refine GX.drawn0  (fun j => !(List.contains [8] j)) [(0, true), (1, true), (2, true), (3, true), (4, true), (5, true), (6, true), (7, false), (8, false), (9, true)] rfl (by kernel_rfl) (by kernel_rfl) (by first | ((repeat (first | apply Go.GX.SelR.nil | apply Go.GX.SelR.cons | (with_reducible apply Go.GX.TakeR.head) | apply Go.GX.TakeR.tail)); done) | (repeat (first | apply Go.GX.SelR.nil | apply Go.GX.SelR.cons | apply Go.GX.TakeR.head | apply Go.GX.TakeR.tail))) ?_; intro wd F hW hR
        refine GX.wT ?_; intros
        refine GX.gow ?_
        refine (cl (of_spec _ v a) fun _ => ?_)
        refine GX.wT ?_; intros
        refine GX.gow ?_
        refine (cl (into_spec w _) fun _ => ?_)
        refine GX.wT ?_; intros
        by_cases h5 : Into w (RtM.of v.u a)
        · have h5' := Classical.not_not.2 h5
          refine GX.wR ?_; intros
          refine again (i + 1) ⟨rfl, rfl, rfl, rfl, rfl, rfl, trivial⟩ ⟨by omega, fun p hp => ?_⟩ (by omega)
          rw [List.take_add_one, hz, List.mem_append] at hp
          rcases hp with hp | hp
          · exact hA p hp
          · simp at hp; subst hp; exact h5
        · refine GX.wR ?_; intros
          exact rt1 () (vN fun h => h5 ((e.1 h).1.2.2 (a, w) (List.mem_of_getElem? hz)))
      · rw [List.take_of_length_le (by omega)] at hA
        by_cases h5 : v.i.a = -1
        · refine GX.wR ?_; intros
          refine GX.drawn0  (fun j => !(List.contains [10] j)) [(0, true), (1, true), (2, true), (3, true), (4, true), (5, true), (6, true), (8, true), (9, true), (7, false), (10, false), (11, true), (12, true)] rfl (by kernel_rfl) (by kernel_rfl) (by first | ((repeat (first | apply Go.GX.SelR.nil | apply Go.GX.SelR.cons | (with_reducible apply Go.GX.TakeR.head) | apply Go.GX.TakeR.tail)); done) | (repeat (first | apply Go.GX.SelR.nil | apply Go.GX.SelR.cons | apply Go.GX.TakeR.head | apply Go.GX.TakeR.tail))) ?_; intro wd F hW hR
          refine GX.wT ?_; intros
          refine GX.wR ?_; intros
          exact rt1 () (vY (e.2 ⟨⟨h3, by omega, hA⟩, .inl h5⟩))
        · refine GX.wR ?_; intros
          refine GX.drawn0  (fun j => !(List.contains [10] j)) [(0, true), (1, true), (2, true), (3, true), (4, true), (5, true), (6, true), (8, true), (9, true), (7, false), (10, false), (11, true), (12, true)] rfl (by kernel_rfl) (by kernel_rfl) (by first | ((repeat (first | apply Go.GX.SelR.nil | apply Go.GX.SelR.cons | (with_reducible apply Go.GX.TakeR.head) | apply Go.GX.TakeR.tail)); done) | (repeat (first | apply Go.GX.SelR.nil | apply Go.GX.SelR.cons | apply Go.GX.TakeR.head | apply Go.GX.TakeR.tail))) ?_; intro wd F hW hR
          refine GX.wT ?_; intros
          refine GX.gow ?_
          refine (cl (of_spec _ v _) fun _ => ?_)
          refine GX.wT ?_; intros
          refine GX.gow ?_
          refine (cl (into_spec _ g.result) fun _ => ?_)
          refine GX.wT ?_; intros
          refine GX.wR ?_; intros
          exact rt1 () (vI (e.trans ⟨fun h => h.2.elim (fun h => absurd h h5) id, fun h => ⟨⟨h3, by omega, hA⟩, .inr h⟩⟩))
  · refine GX.wR ?_; intros
    exact rt1 () (vN fun h => h3 (e.1 h).1.1)

theorem goes1_spec (bl : Nat) (v : RtView) (n : Int) : Does Try.prog 103 [.int .i64 n, .pointer (some ⟨bl, 0, none⟩)] [Pt tyRtView bl 0 v] [] (fun _ : Unit => .bool (decide (n ∈ v.u.owns))) (fun _ => []) (fun _ => []) := by
  refine enter Try.func103 rfl Try.ntmps103 rfl fun b => ?_
  refine GX.wR ?_; intros
  refine GX.nmS 6 ?_; rintro ao cap rfl rfl
  refine GX.o (cl (contains_spec ao cap v.u.owns n) fun _ => ?_)
  refine GX.wR ?_; intros
  exact rt1 () rfl
end Go.Proofs.Ytomadjefdghliaa

/- The walks over package rt: goes, fits. -/
namespace Go.Proofs.Ytomadjefdghliaa
open Go Go.RR Go.RX Go.GX Go.Api Go.RiseM Go.ReachM Go.RtM
attribute [local irreducible] wpList Code.wp wpPlan Exit.then Exit.inBlock bodyPost NoPanic Went GX.Post GX.Again GX.Meet GX.RowR GX.Own GX.Owns GX.Box GX.Sl GX.Pt GX.Ag GX.MapR GX.Kept GX.Pin wpT GoK AtEnd Both

theorem plain1 {u : Unt} {n : Int} : Plain u [n] ↔ RtM.of u n = -2 := by simp [Plain]
theorem plain2 {u : Unt} {n m : Int} : Plain u [n, m] ↔ RtM.of u n = -2 ∧ RtM.of u m = -2 := by simp [Plain]
theorem refs1 {u : Unt} {n : Int} : Refs u [n] ↔ IsRef (RtM.of u n) := by simp [Refs]
set_option maxHeartbeats 1000000 in
theorem goes_spec (cs : List Value) (v : RtView) : Does Try.prog 96 [.agg cs.toArray] [Ag tyRtView cs v] []
    (fun _ : Unit => .bool (decide (Goes v.t v.u v.i))) (fun _ => []) (fun _ => []) := by
  refine enter Try.func96 rfl Try.ntmps96 rfl fun b => ?_
  by_cases h13 : v.i.op = 13
  · have e : Goes v.t v.u v.i ↔ CallOk v.t v.u v.i := by unfold Goes; rw [if_pos h13]
    refine GX.wR ?_; intros
    refine GX.o (cl (call_spec _ v) fun _ => ?_)
    refine GX.wR ?_; intros
    exact rt1 () (vI e)
  by_cases h16 : v.i.op = 16
  · have e : Goes v.t v.u v.i ↔ RtM.Place v.u v.i.n := by unfold Goes; rw [if_neg h13, if_pos h16]
    refine GX.wR ?_; intros
    refine GX.o (cl (place_spec _ v _) fun _ => ?_)
    refine GX.wR ?_; intros
    exact rt1 () (vI e)
  by_cases h17 : v.i.op = 17
  · have e : Goes v.t v.u v.i ↔ RtM.of v.u v.i.a = -2 ∧ RtM.Place v.u v.i.n ∧ RtM.Place v.u v.i.c := by unfold Goes; rw [if_neg h13, if_neg h16, if_pos h17]
    refine GX.wR ?_; intros
    refine GX.o (cl (plain_spec _ v _ _ _ [v.i.a] rfl) fun _ => ?_)
    by_cases g1 : Plain v.u [v.i.a]
    · refine GX.wR ?_; intros
      refine GX.o (cl (place_spec _ v _) fun _ => ?_)
      by_cases g2 : RtM.Place v.u v.i.n
      · refine GX.wR ?_; intros
        refine GX.o (cl (place_spec _ v _) fun _ => ?_)
        refine GX.wR ?_; intros
        exact rt1 () (vI (e.trans ⟨fun h => h.2.2, fun h => ⟨plain1.1 g1, g2, h⟩⟩))
      · refine GX.wR ?_; intros
        exact rt1 () (vN fun h => g2 (e.1 h).2.1)
    · refine GX.wR ?_; intros
      exact rt1 () (vN fun h => g1 (plain1.2 (e.1 h).1))
  by_cases h18 : v.i.op = 18
  · have e : Goes v.t v.u v.i ↔ (v.u.result = -3 ∧ v.i.a = -1 ∨ v.u.result ≠ -3 ∧ Into v.u.result (RtM.of v.u v.i.a)) := by unfold Goes; rw [if_neg h13, if_neg h16, if_neg h17, if_pos h18]
    refine GX.wR ?_; intros
    refine GX.nmP 3 ?_; rintro b3 rfl
    refine frzB b3 ?_
    by_cases g1 : v.u.result = -3
    · have g1' := Classical.not_not.2 g1
      by_cases g2 : v.i.a = -1
      · refine GX.drawn0  (fun j => !(List.contains [22] j)) [(0, true), (1, true), (2, true), (3, true), (4, true), (5, true), (6, true), (7, true), (8, true), (9, true), (10, true), (11, true), (12, true), (13, true), (14, true), (15, true), (16, true), (17, true), (18, true), (19, true), (20, true), (21, false), (22, false), (23, true), (24, true), (25, true)] rfl (by kernel_rfl) (by kernel_rfl) (by first | ((repeat (first | apply Go.GX.SelR.nil | apply Go.GX.SelR.cons | (with_reducible apply Go.GX.TakeR.head) | apply Go.GX.TakeR.tail)); done) | (repeat (first | apply Go.GX.SelR.nil | apply Go.GX.SelR.cons | apply Go.GX.TakeR.head | apply Go.GX.TakeR.tail))) ?_; intro wd F hW hR
        refine GX.wT ?_; intros
        refine GX.wR ?_; intros
        exact rt1 () (vY (e.2 (.inl ⟨g1, g2⟩)))
      · refine GX.drawn0  (fun j => !(List.contains [22] j)) [(0, true), (1, true), (2, true), (3, true), (4, true), (5, true), (6, true), (7, true), (8, true), (9, true), (10, true), (11, true), (12, true), (13, true), (14, true), (15, true), (16, true), (17, true), (18, true), (19, true), (20, true), (21, false), (22, false), (23, true), (24, true), (25, true)] rfl (by kernel_rfl) (by kernel_rfl) (by first | ((repeat (first | apply Go.GX.SelR.nil | apply Go.GX.SelR.cons | (with_reducible apply Go.GX.TakeR.head) | apply Go.GX.TakeR.tail)); done) | (repeat (first | apply Go.GX.SelR.nil | apply Go.GX.SelR.cons | apply Go.GX.TakeR.head | apply Go.GX.TakeR.tail))) ?_; intro wd F hW hR
        refine GX.wT ?_; intros
        refine GX.wR ?_; intros
        exact rt1 () (vN fun h => (e.1 h).elim (fun h => g2 h.2) (fun h => h.1 g1))
    · refine GX.drawn0  (fun j => !(List.contains [22] j)) [(0, true), (1, true), (2, true), (3, true), (4, true), (5, true), (6, true), (7, true), (8, true), (9, true), (10, true), (11, true), (12, true), (13, true), (14, true), (15, true), (16, true), (17, true), (18, true), (19, true), (20, true), (21, false), (22, false), (23, true), (24, true), (25, true)] rfl (by kernel_rfl) (by kernel_rfl) (by first | ((repeat (first | apply Go.GX.SelR.nil | apply Go.GX.SelR.cons | (with_reducible apply Go.GX.TakeR.head) | apply Go.GX.TakeR.tail)); done) | (repeat (first | apply Go.GX.SelR.nil | apply Go.GX.SelR.cons | apply Go.GX.TakeR.head | apply Go.GX.TakeR.tail))) ?_; intro wd F hW hR
      refine GX.wT ?_; intros
      refine GX.gow ?_
      refine (cl (of_spec _ v _) fun _ => ?_)
      refine GX.wT ?_; intros
      refine GX.gow ?_
      refine (cl (into_spec v.u.result _) fun _ => ?_)
      refine GX.wT ?_; intros
      refine GX.wR ?_; intros
      exact rt1 () (vI (e.trans ⟨fun h => h.elim (fun h => absurd h.1 g1) (fun h => h.2), fun h => .inr ⟨g1, h⟩⟩))
  by_cases h19 : v.i.op = 19
  · have e : Goes v.t v.u v.i ↔ (match gt v.t.globals v.i.n with | some g => Into (RtM.of v.u v.i.a) g | none => False) := by unfold Goes; rw [if_neg h13, if_neg h16, if_neg h17, if_neg h18, if_pos h19]; exact Iff.rfl
    refine GX.wR ?_; intros
    refine GX.nmP 3 ?_; rintro b3 rfl
    refine frzB b3 ?_
    by_cases g1 : v.i.n < 0
    · rw [gt_out (.inl g1)] at e
      refine GX.drawn0  (fun j => !(List.contains [24] j)) [(0, true), (1, true), (2, true), (3, true), (4, true), (5, true), (6, true), (7, true), (8, true), (9, true), (10, true), (11, true), (12, true), (13, true), (14, true), (15, true), (17, true), (18, true), (19, true), (20, true), (21, true), (22, true), (23, true), (16, false), (24, false), (25, true), (26, true)] rfl (by kernel_rfl) (by kernel_rfl) (by first | ((repeat (first | apply Go.GX.SelR.nil | apply Go.GX.SelR.cons | (with_reducible apply Go.GX.TakeR.head) | apply Go.GX.TakeR.tail)); done) | (repeat (first | apply Go.GX.SelR.nil | apply Go.GX.SelR.cons | apply Go.GX.TakeR.head | apply Go.GX.TakeR.tail))) ?_; intro wd F hW hR
      refine GX.wT ?_; intros
      refine GX.wR ?_; intros
      exact rt1 () (vN e.1)
    by_cases g2 : (v.t.globals.length : Int) ≤ v.i.n
    · rw [gt_out (.inr g2)] at e
      refine GX.drawn0  (fun j => !(List.contains [24] j)) [(0, true), (1, true), (2, true), (3, true), (4, true), (5, true), (6, true), (7, true), (8, true), (9, true), (10, true), (11, true), (12, true), (13, true), (14, true), (15, true), (17, true), (18, true), (19, true), (20, true), (21, true), (22, true), (23, true), (16, false), (24, false), (25, true), (26, true)] rfl (by kernel_rfl) (by kernel_rfl) (by first | ((repeat (first | apply Go.GX.SelR.nil | apply Go.GX.SelR.cons | (with_reducible apply Go.GX.TakeR.head) | apply Go.GX.TakeR.tail)); done) | (repeat (first | apply Go.GX.SelR.nil | apply Go.GX.SelR.cons | apply Go.GX.TakeR.head | apply Go.GX.TakeR.tail))) ?_; intro wd F hW hR
      refine GX.wT ?_; intros
      refine GX.wR ?_; intros
      exact rt1 () (vN e.1)
    obtain ⟨g, hg, k, hk, hkl, hg2⟩ := gt_in (l := v.t.globals) (n := v.i.n) ⟨by omega, by omega⟩
    rw [hg] at e
    refine GX.drawn0  (fun j => !(List.contains [24] j)) [(0, true), (1, true), (2, true), (3, true), (4, true), (5, true), (6, true), (7, true), (8, true), (9, true), (10, true), (11, true), (12, true), (13, true), (14, true), (15, true), (17, true), (18, true), (19, true), (20, true), (21, true), (22, true), (23, true), (16, false), (24, false), (25, true), (26, true)] rfl (by kernel_rfl) (by kernel_rfl) (by first | ((repeat (first | apply Go.GX.SelR.nil | apply Go.GX.SelR.cons | (with_reducible apply Go.GX.TakeR.head) | apply Go.GX.TakeR.tail)); done) | (repeat (first | apply Go.GX.SelR.nil | apply Go.GX.SelR.cons | apply Go.GX.TakeR.head | apply Go.GX.TakeR.tail))) ?_; intro wd F hW hR
    refine GX.wT ?_; intros
    refine GX.gow ?_
    refine (cl (of_spec _ v _) fun _ => ?_)
    refine GX.wT ?_; intros
    refine GX.gow ?_
    refine (cl (into_spec _ g) fun _ => ?_)
    refine GX.wT ?_; intros
    refine GX.wR ?_; intros
    exact rt1 () (vI e)
  by_cases h20 : v.i.op = 20
  · have e : Goes v.t v.u v.i ↔ (match gt v.t.globals v.i.n with | some g => Into g (RtM.of v.u v.i.a) | none => False) := by unfold Goes; rw [if_neg h13, if_neg h16, if_neg h17, if_neg h18, if_neg h19, if_pos h20]; exact Iff.rfl
    refine GX.wR ?_; intros
    refine GX.nmP 3 ?_; rintro b3 rfl
    refine frzB b3 ?_
    by_cases g1 : v.i.n < 0
    · rw [gt_out (.inl g1)] at e
      refine GX.drawn0  (fun j => !(List.contains [24] j)) [(0, true), (1, true), (2, true), (3, true), (4, true), (5, true), (6, true), (7, true), (8, true), (9, true), (10, true), (11, true), (12, true), (13, true), (14, true), (15, true), (16, true), (17, true), (18, true), (19, true), (20, true), (21, true), (22, true), (23, false), (24, false), (25, true), (26, true)] rfl (by kernel_rfl) (by kernel_rfl) (by first | ((repeat (first | apply Go.GX.SelR.nil | apply Go.GX.SelR.cons | (with_reducible apply Go.GX.TakeR.head) | apply Go.GX.TakeR.tail)); done) | (repeat (first | apply Go.GX.SelR.nil | apply Go.GX.SelR.cons | apply Go.GX.TakeR.head | apply Go.GX.TakeR.tail))) ?_; intro wd F hW hR
      refine GX.wT ?_; intros
      refine GX.wR ?_; intros
      exact rt1 () (vN e.1)
    by_cases g2 : (v.t.globals.length : Int) ≤ v.i.n
    · rw [gt_out (.inr g2)] at e
      refine GX.drawn0  (fun j => !(List.contains [24] j)) [(0, true), (1, true), (2, true), (3, true), (4, true), (5, true), (6, true), (7, true), (8, true), (9, true), (10, true), (11, true), (12, true), (13, true), (14, true), (15, true), (16, true), (17, true), (18, true), (19, true), (20, true), (21, true), (22, true), (23, false), (24, false), (25, true), (26, true)] rfl (by kernel_rfl) (by kernel_rfl) (by first | ((repeat (first | apply Go.GX.SelR.nil | apply Go.GX.SelR.cons | (with_reducible apply Go.GX.TakeR.head) | apply Go.GX.TakeR.tail)); done) | (repeat (first | apply Go.GX.SelR.nil | apply Go.GX.SelR.cons | apply Go.GX.TakeR.head | apply Go.GX.TakeR.tail))) ?_; intro wd F hW hR
      refine GX.wT ?_; intros
      refine GX.wR ?_; intros
      exact rt1 () (vN e.1)
    obtain ⟨g, hg, k, hk, hkl, hg2⟩ := gt_in (l := v.t.globals) (n := v.i.n) ⟨by omega, by omega⟩
    rw [hg] at e
    refine GX.drawn0  (fun j => !(List.contains [24] j)) [(0, true), (1, true), (2, true), (3, true), (4, true), (5, true), (6, true), (7, true), (8, true), (9, true), (10, true), (11, true), (12, true), (13, true), (14, true), (15, true), (16, true), (17, true), (18, true), (19, true), (20, true), (21, true), (22, true), (23, false), (24, false), (25, true), (26, true)] rfl (by kernel_rfl) (by kernel_rfl) (by first | ((repeat (first | apply Go.GX.SelR.nil | apply Go.GX.SelR.cons | (with_reducible apply Go.GX.TakeR.head) | apply Go.GX.TakeR.tail)); done) | (repeat (first | apply Go.GX.SelR.nil | apply Go.GX.SelR.cons | apply Go.GX.TakeR.head | apply Go.GX.TakeR.tail))) ?_; intro wd F hW hR
    refine GX.wT ?_; intros
    refine GX.gow ?_
    refine (cl (of_spec _ v _) fun _ => ?_)
    refine GX.wT ?_; intros
    refine GX.gow ?_
    refine (cl (into_spec g _) fun _ => ?_)
    refine GX.wT ?_; intros
    refine GX.wR ?_; intros
    exact rt1 () (vI e)
  have e : Goes v.t v.u v.i ↔ v.i.args ≠ [] ∧ Rise v.i.args ∧ ∀ n ∈ v.i.args, n ∈ v.u.owns := by unfold Goes; rw [if_neg h13, if_neg h16, if_neg h17, if_neg h18, if_neg h19, if_neg h20]
  have ea : 0 < (v.i.args.length : Int) ↔ v.i.args ≠ [] := by rw [ne_eq, ← List.length_eq_zero_iff]; omega
  by_cases g1 : 0 < (v.i.args.length : Int)
  · refine GX.wR ?_; intros
    refine GX.nmP 1 ?_; rintro b1 rfl
    refine GX.nmS 126 ?_; rintro aA cA rfl rfl
    refine GX.o (cl (rising_spec aA cA v.i.args 103 [.pointer (some ⟨b1, 0, none⟩)] [Pt tyRtView b1 0 v] [] (fun n => decide (n ∈ v.u.owns)) (fun n _ => goes1_spec b1 v n)) fun _ => ?_)
    refine GX.wR ?_; intros
    refine rt1 () (vI ?_)
    exact e.trans ⟨fun h => ⟨h.2.1, fun n hn => decide_eq_true (h.2.2 n hn)⟩, fun h => ⟨ea.1 g1, h.1, fun n hn => of_decide_eq_true (h.2 n hn)⟩⟩
  · refine GX.wR ?_; intros
    exact rt1 () (vN fun h => g1 (ea.2 (e.1 h).1))
end Go.Proofs.Ytomadjefdghliaa

/- The walks over package rt: fits. -/
namespace Go.Proofs.Ytomadjefdghliaa
open Go Go.RR Go.RX Go.GX Go.Api Go.RiseM Go.ReachM Go.RtM
attribute [local irreducible] wpList Code.wp wpPlan Exit.then Exit.inBlock bodyPost NoPanic Went GX.Post GX.Again GX.Meet GX.RowR GX.Own GX.Owns GX.Box GX.Sl GX.Pt GX.Ag GX.MapR GX.Kept GX.Pin wpT GoK AtEnd Both

set_option maxHeartbeats 1000000 in
theorem fits_spec (cs : List Value) (v : RtView) : Does Try.prog 77 [.agg cs.toArray] [Ag tyRtView cs v] []
    (fun _ : Unit => .bool (decide (Fits v.t v.u v.i))) (fun _ => []) (fun _ => []) := by
  refine enter Try.func77 rfl Try.ntmps77 rfl fun b => ?_
  by_cases h1 : v.i.op = 1 ∨ v.i.op = 14 ∨ v.i.op = 15
  · have e : Fits v.t v.u v.i ↔ RtM.of v.u v.i.a = -2 := by unfold Fits; rw [if_pos h1]
    rcases h1 with h1 | h1 | h1
    · refine GX.wR ?_; intros
      refine GX.o (cl (plain_spec _ v _ _ _ [v.i.a] rfl) fun _ => ?_)
      refine GX.wR ?_; intros
      exact rt1 () (vI (e.trans plain1.symm))
    · refine GX.wR ?_; intros
      refine GX.o (cl (plain_spec _ v _ _ _ [v.i.a] rfl) fun _ => ?_)
      refine GX.wR ?_; intros
      exact rt1 () (vI (e.trans plain1.symm))
    · refine GX.wR ?_; intros
      refine GX.o (cl (plain_spec _ v _ _ _ [v.i.a] rfl) fun _ => ?_)
      refine GX.wR ?_; intros
      exact rt1 () (vI (e.trans plain1.symm))
  have n1 : v.i.op ≠ 1 := fun h => h1 (.inl h)
  have n14 : v.i.op ≠ 14 := fun h => h1 (.inr (.inl h))
  have n15 : v.i.op ≠ 15 := fun h => h1 (.inr (.inr h))
  by_cases h2 : v.i.op = 2
  · have e : Fits v.t v.u v.i ↔ IsRef (RtM.of v.u v.i.a) := by unfold Fits; rw [if_neg h1, if_pos h2]
    refine GX.wR ?_; intros
    refine GX.o (cl (refs_spec _ v _ _ _ [v.i.a] rfl) fun _ => ?_)
    refine GX.wR ?_; intros
    exact rt1 () (vI (e.trans refs1.symm))
  by_cases h3 : v.i.op = 3
  · have e : Fits v.t v.u v.i ↔ Into (RtM.of v.u v.i.a) (RtM.of v.u v.i.b) := by unfold Fits; rw [if_neg h1, if_neg h2, if_pos h3]
    refine GX.wR ?_; intros
    refine GX.nmP 3 ?_; rintro b3 rfl
    refine frzB b3 ?_
    refine GX.drawn0  (fun j => !(List.contains [7, 8] j)) [(0, true), (1, true), (2, true), (4, true), (5, true), (6, true), (3, false), (7, false), (8, false), (9, true)] rfl (by kernel_rfl) (by kernel_rfl) (by first | ((repeat (first | apply Go.GX.SelR.nil | apply Go.GX.SelR.cons | (with_reducible apply Go.GX.TakeR.head) | apply Go.GX.TakeR.tail)); done) | (repeat (first | apply Go.GX.SelR.nil | apply Go.GX.SelR.cons | apply Go.GX.TakeR.head | apply Go.GX.TakeR.tail))) ?_; intro wd F hW hR
    refine GX.wT ?_; intros
    refine GX.gow ?_
    refine (cl (of_spec _ v v.i.a) fun _ => ?_)
    refine GX.wT ?_; intros
    refine GX.gow ?_
    refine (cl (of_spec _ v v.i.b) fun _ => ?_)
    refine GX.wT ?_; intros
    refine GX.gow ?_
    refine (cl (into_spec _ _) fun _ => ?_)
    refine GX.wT ?_; intros
    refine GX.wR ?_; intros
    exact rt1 () (vI e)
  by_cases h4 : v.i.op = 4
  · have e : Fits v.t v.u v.i ↔ Two v.u v.i := by unfold Fits; rw [if_neg h1, if_neg h2, if_neg h3, if_pos h4]
    refine GX.wR ?_; intros
    refine GX.o (cl (two_spec _ v) fun _ => ?_)
    refine GX.wR ?_; intros
    exact rt1 () (vI e)
  by_cases h5 : v.i.op = 5
  · have e : Fits v.t v.u v.i ↔ (v.i.n = 12 ∨ v.i.n = 13) ∧ RtM.of v.u v.i.a = -2 ∧ RtM.of v.u v.i.b = -2 := by unfold Fits; rw [if_neg h1, if_neg h2, if_neg h3, if_neg h4, if_pos h5]
    by_cases g1 : v.i.n = 12
    · refine GX.wR ?_; intros
      refine GX.o (cl (plain_spec _ v _ _ _ [v.i.a, v.i.b] rfl) fun _ => ?_)
      refine GX.wR ?_; intros
      exact rt1 () (vI (e.trans ⟨fun h => plain2.2 h.2, fun h => ⟨.inl g1, plain2.1 h⟩⟩))
    · by_cases g2 : v.i.n = 13
      · refine GX.wR ?_; intros
        refine GX.o (cl (plain_spec _ v _ _ _ [v.i.a, v.i.b] rfl) fun _ => ?_)
        refine GX.wR ?_; intros
        exact rt1 () (vI (e.trans ⟨fun h => plain2.2 h.2, fun h => ⟨.inr g2, plain2.1 h⟩⟩))
      · refine GX.wR ?_; intros
        exact rt1 () (vN fun h => (e.1 h).1.elim g1 g2)
  by_cases h6 : v.i.op = 6
  · have e : Fits v.t v.u v.i ↔ Loads v.t v.u v.i.a v.i.b false v.i.c := by unfold Fits; rw [if_neg h1, if_neg h2, if_neg h3, if_neg h4, if_neg h5, if_pos h6]
    refine GX.wR ?_; intros
    refine GX.o (cl (loads_spec _ v _ _ _ _) fun _ => ?_)
    refine GX.wR ?_; intros
    exact rt1 () (vI e)
  by_cases h7 : v.i.op = 7
  · have e : Fits v.t v.u v.i ↔ Lays v.t v.u v.i.a false v.i.c v.i.b := by unfold Fits; rw [if_neg h1, if_neg h2, if_neg h3, if_neg h4, if_neg h5, if_neg h6, if_pos h7]
    refine GX.wR ?_; intros
    refine GX.o (cl (lays_spec _ v _ _ _ _) fun _ => ?_)
    refine GX.wR ?_; intros
    exact rt1 () (vI e)
  by_cases h8 : v.i.op = 8
  · have e : Fits v.t v.u v.i ↔ RtM.of v.u v.i.c = -2 ∧ Loads v.t v.u v.i.a v.i.b true 0 := by unfold Fits; rw [if_neg h1, if_neg h2, if_neg h3, if_neg h4, if_neg h5, if_neg h6, if_neg h7, if_pos h8]
    refine GX.wR ?_; intros
    refine GX.o (cl (plain_spec _ v _ _ _ [v.i.c] rfl) fun _ => ?_)
    by_cases g1 : Plain v.u [v.i.c]
    · refine GX.wR ?_; intros
      refine GX.o (cl (loads_spec _ v _ _ _ _) fun _ => ?_)
      refine GX.wR ?_; intros
      exact rt1 () (vI (e.trans ⟨fun h => h.2, fun h => ⟨plain1.1 g1, h⟩⟩))
    · refine GX.wR ?_; intros
      exact rt1 () (vN fun h => g1 (plain1.2 (e.1 h).1))
  by_cases h9 : v.i.op = 9
  · have e : Fits v.t v.u v.i ↔ RtM.of v.u v.i.b = -2 ∧ Lays v.t v.u v.i.a true 0 v.i.c := by unfold Fits; rw [if_neg h1, if_neg h2, if_neg h3, if_neg h4, if_neg h5, if_neg h6, if_neg h7, if_neg h8, if_pos h9]
    refine GX.wR ?_; intros
    refine GX.o (cl (plain_spec _ v _ _ _ [v.i.b] rfl) fun _ => ?_)
    by_cases g1 : Plain v.u [v.i.b]
    · refine GX.wR ?_; intros
      refine GX.o (cl (lays_spec _ v _ _ _ _) fun _ => ?_)
      refine GX.wR ?_; intros
      exact rt1 () (vI (e.trans ⟨fun h => h.2, fun h => ⟨plain1.1 g1, h⟩⟩))
    · refine GX.wR ?_; intros
      exact rt1 () (vN fun h => g1 (plain1.2 (e.1 h).1))
  by_cases h10 : v.i.op = 10
  · have e : Fits v.t v.u v.i ↔ (cell v.t v.u v.i.b true 0).2.2 = true ∧ RtM.of v.u v.i.a = -2 := by unfold Fits; rw [if_neg h1, if_neg h2, if_neg h3, if_neg h4, if_neg h5, if_neg h6, if_neg h7, if_neg h8, if_neg h9, if_pos h10]
    refine GX.wR ?_; intros
    refine GX.o (cl (length_spec _ v) fun _ => ?_)
    refine GX.wR ?_; intros
    exact rt1 () (vI e)
  by_cases h11 : v.i.op = 11
  · have e : Fits v.t v.u v.i ↔ Fresh v.t v.u v.i false := by unfold Fits; rw [if_neg h1, if_neg h2, if_neg h3, if_neg h4, if_neg h5, if_neg h6, if_neg h7, if_neg h8, if_neg h9, if_neg h10, if_pos h11]
    refine GX.wR ?_; intros
    refine GX.o (cl (fresh_spec _ v _) fun _ => ?_)
    refine GX.wR ?_; intros
    exact rt1 () (vI e)
  by_cases h12 : v.i.op = 12
  · have e : Fits v.t v.u v.i ↔ Fresh v.t v.u v.i true ∧ RtM.of v.u v.i.b = -2 := by unfold Fits; rw [if_neg h1, if_neg h2, if_neg h3, if_neg h4, if_neg h5, if_neg h6, if_neg h7, if_neg h8, if_neg h9, if_neg h10, if_neg h11, if_pos h12]
    refine GX.wR ?_; intros
    refine GX.o (cl (fresh_spec _ v _) fun _ => ?_)
    by_cases g1 : Fresh v.t v.u v.i true
    · refine GX.wR ?_; intros
      refine GX.o (cl (plain_spec _ v _ _ _ [v.i.b] rfl) fun _ => ?_)
      refine GX.wR ?_; intros
      exact rt1 () (vI (e.trans ⟨fun h => plain1.2 h.2, fun h => ⟨g1, plain1.1 h⟩⟩))
    · refine GX.wR ?_; intros
      exact rt1 () (vN fun h => g1 (e.1 h).1)
  have e : Fits v.t v.u v.i ↔ Goes v.t v.u v.i := by unfold Fits; rw [if_neg h1, if_neg h2, if_neg h3, if_neg h4, if_neg h5, if_neg h6, if_neg h7, if_neg h8, if_neg h9, if_neg h10, if_neg h11, if_neg h12]
  refine GX.wR ?_; intros
  refine GX.o (cl (goes_spec _ v) fun _ => ?_)
  refine GX.wR ?_; intros
  exact rt1 () (vI e)
end Go.Proofs.Ytomadjefdghliaa

/- slices.Clone over ints. -/
namespace Go.Proofs.Ytomadjefdghliaa
open Go Go.RR Go.RX Go.GX
attribute [local irreducible] wpList Code.wp wpPlan Exit.then Exit.inBlock bodyPost NoPanic Went GX.Post GX.Again GX.Meet GX.RowR GX.Own GX.Owns GX.Box GX.Sl GX.Pt GX.Ag GX.MapR GX.Kept GX.Pin

theorem clone_spec (ao : Option Addr) (cap : Nat) (xs : List Int) (hl : xs.length ≤ 17592186043904) : Does Try.prog 54 [.slice ao xs.length cap] [Sl Ty.int ao cap xs] []
    (fun s : Option Addr × Nat => .slice s.1 xs.length s.2) (fun _ => []) (fun s => [GX.Own 3 Ty.int s.1 s.2 xs]) := by
  refine enter Try.func54 rfl Try.ntmps54 rfl fun b => ?_
  refine sln ao fun h1 h2 h3 => ?_
  cases ao with
  | none =>
    have hx : xs = [] := Classical.byContradiction fun h => by obtain ⟨_, _, h⟩ := h3 h; cases h
    subst hx
    rw [List.length_nil]
    have hc : cap = cap := rfl
    repeat (first | (apply GX.s_list; first | apply GX.nil | (refine GX.o ?_; first | (apply GX.k_move; refine GX.m ?_) | (apply GX.k_assign; refine GX.a ?_) | (apply GX.k_call; first | (refine GX.ap ?_; intro _ _) | (refine GX.ap0 ?_; intro _ _)) | (apply GX.k_buildSlice; (refine GX.sl ?_; intro _)) | (apply GX.k_binOp_eql; first | refine GX.b_eql ?_ | refine GX.b_pn ?_ | refine GX.b_nn ?_ | refine GX.b_snn ?_ | refine GX.b_sns ?_ | refine GX.b_eqls ?_ | refine GX.b_eqltf ?_ | refine GX.b_eqlft ?_ | refine GX.b_eqlb ?_)) | refine GX.gt ?_ | refine GX.gf ?_ | refine GX.gbt ?_ | refine GX.gbf ?_ | refine GX.un ?_ | refine GX.un0 ?_) | apply GX.then_normal | apply GX.seq | apply GX.region | (apply GX.s_cond; first | refine GX.ct ?_ | refine GX.cf ?_ | refine GX.cdf ?_ | refine GX.cdt ?_ | refine GX.cbt ?_ | refine GX.cbf ?_) | apply GX.skip | apply GX.block | apply GX.inBlock_normal | apply GX.exit | apply GX.then_exit | apply GX.inBlock_exit | refine GX.ibo ?_ | apply GX.ret | apply GX.then_ret | apply GX.inBlock_ret)
    refine ownNil 3 Ty.int ?_
    exact rt1 (none, 0) rfl
  | some a =>
    repeat (first | (apply GX.s_list; first | apply GX.nil | (refine GX.o ?_; first | (apply GX.k_move; refine GX.m ?_) | (apply GX.k_assign; refine GX.a ?_) | (apply GX.k_call; first | (refine GX.ap ?_; intro _ _) | (refine GX.ap0 ?_; intro _ _)) | (apply GX.k_buildSlice; (refine GX.slo ?_; intro _)) | (apply GX.k_binOp_eql; first | refine GX.b_eql ?_ | refine GX.b_pn ?_ | refine GX.b_nn ?_ | refine GX.b_snn ?_ | refine GX.b_sns ?_ | refine GX.b_eqls ?_ | refine GX.b_eqltf ?_ | refine GX.b_eqlft ?_ | refine GX.b_eqlb ?_)) | refine GX.gt ?_ | refine GX.gf ?_ | refine GX.gbt ?_ | refine GX.gbf ?_ | refine GX.un ?_ | refine GX.un0 ?_) | apply GX.then_normal | apply GX.seq | apply GX.region | (apply GX.s_cond; first | refine GX.ct ?_ | refine GX.cf ?_ | refine GX.cdf ?_ | refine GX.cdt ?_ | refine GX.cbt ?_ | refine GX.cbf ?_) | apply GX.skip | apply GX.block | apply GX.inBlock_normal | apply GX.exit | apply GX.then_exit | apply GX.inBlock_exit | refine GX.ibo ?_ | apply GX.ret | apply GX.then_ret | apply GX.inBlock_ret)
    exact rt1 (_, _) rfl
end Go.Proofs.Ytomadjefdghliaa
