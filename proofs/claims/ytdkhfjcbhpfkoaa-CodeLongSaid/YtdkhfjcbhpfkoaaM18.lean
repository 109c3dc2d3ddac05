import Derived.Test.YtdkhfjcbhpfkoaaM11
import Derived.Test.YtdkhfjcbhpfkoaaM12
import Derived.Test.YtdkhfjcbhpfkoaaM13
import Derived.Test.YtdkhfjcbhpfkoaaM14
import Derived.Test.YtdkhfjcbhpfkoaaM17
/- The walks over package rt: bare, call, goes, fits. -/
namespace Go.Proofs.Ytdkhfjcbhpfkoaa
open Go Go.RR Go.RX Go.GX Go.Api Go.RiseM Go.ReachM Go.RtM
attribute [local irreducible] wpList Code.wp wpPlan Exit.then Exit.inBlock bodyPost NoPanic Went GX.Post GX.Again GX.Meet GX.RowR GX.Own GX.Owns GX.Box GX.Sl GX.Pt GX.Ag GX.MapR GX.Kept GX.Pin wpT GoK AtEnd Both

theorem bare_spec (cs : List Value) (i : Ins) : Does Try.prog 74 [.agg cs.toArray] [Ag tyIns cs i] []
    (fun _ : Unit => .bool (decide (Bare i))) (fun _ => []) (fun _ => []) := by
  refine enter Try.func74 rfl Try.ntmps74 rfl fun b => ?_
  repeat' (first | (apply GX.s_list; first | apply GX.nil | (refine GX.o ?_; first | (apply GX.k_load; first | refine GX.lr ?_ | refine GX.lrA ?_ | refine GX.ln ?_ | refine GX.lb ?_ | refine GX.lh ?_ | (refine GX.ls ?_; intro ao cap _ _) | (refine GX.lA ?_; intro cs) | (refine GX.l0 ?_; intro cs) | refine GX.o1n ?_ | refine GX.o1b ?_ | refine GX.o1h ?_ | (refine GX.o1s ?_; intro ao cap _ _) | refine GX.omn ?_ | refine GX.omb ?_ | refine GX.omh ?_ | (refine GX.oms ?_; intro ao cap _ _) | refine GX.ofn ?_ | refine GX.ofb ?_ | refine GX.ofh ?_ | (refine GX.ofs ?_; intro ao cap _ _) | (refine GX.oA ?_; intro cs)) | (apply GX.k_assign; refine GX.a ?_) | (apply GX.k_fieldAddr; first | refine GX.f0 ?_ | refine GX.fh ?_ | refine GX.fa ?_) | (apply GX.k_box; first | (refine GX.bxF ?_; intro _) | (refine GX.bxR ?_; intro _)) | (apply GX.k_binOp_eql; first | refine GX.b_eql ?_ | refine GX.b_pn ?_ | refine GX.b_nn ?_ | refine GX.b_snn ?_ | refine GX.b_sns ?_ | refine GX.b_eqls ?_ | refine GX.b_eqltf ?_ | refine GX.b_eqlft ?_ | refine GX.b_eqlb ?_)) | refine GX.gt ?_ | refine GX.gf ?_ | refine GX.gbt ?_ | refine GX.gbf ?_ | refine GX.un ?_ | refine GX.un0 ?_ | (refine GX.gs ?_ ?_ <;> intro _) | (refine GX.gsb ?_ ?_ <;> intro _)) | apply GX.then_normal | apply GX.seq | apply GX.region | (apply GX.s_cond; first | refine GX.ct ?_ | refine GX.cf ?_ | refine GX.cdf ?_ | refine GX.cdt ?_ | refine GX.cbt ?_ | refine GX.cbf ?_ | (refine GX.cs ?_ ?_ <;> intro _) | (refine GX.csb ?_ ?_ <;> intro _)) | apply GX.skip | apply GX.block | apply GX.inBlock_normal | apply GX.exit | apply GX.then_exit | apply GX.inBlock_exit | refine GX.ibo ?_ | apply GX.ret | apply GX.then_ret | apply GX.inBlock_ret)
  all_goals first
    | (refine GX.o (cl (only_spec _ i _ _ _ _ _) fun _ => ?_)
       refine GX.wR ?_; intros
       refine rt1 () (vI ?_)
       unfold Bare names
       simp_all)
    | exact rt1 () (vN (by unfold Bare names; simp_all))

theorem call_spec (cs : List Value) (v : RtView) : Does Try.prog 100 [.agg cs.toArray] [Ag tyRtView cs v] []
    (fun _ : Unit => .bool (decide (CallOk v.t v.u v.i))) (fun _ => []) (fun _ => []) := by
  refine enter Try.func100 rfl Try.ntmps100 rfl fun b => ?_
  by_cases h1 : v.i.c < 0
  · have e : ¬ CallOk v.t v.u v.i := by unfold CallOk; rw [gt_out (.inl h1)]; exact id
    refine GX.wR ?_; intros
    exact rt1 () (vN e)
  by_cases h2 : (v.t.units.length : Int) ≤ v.i.c
  · have e : ¬ CallOk v.t v.u v.i := by unfold CallOk; rw [gt_out (.inr h2)]; exact id
    refine GX.wR ?_; intros
    exact rt1 () (vN e)
  obtain ⟨g, hg, k, hk, hkl, hg2⟩ := gt_in (l := v.t.units) (n := v.i.c) ⟨by omega, by omega⟩
  have e : CallOk v.t v.u v.i ↔ ((v.i.args.length : Int) = g.params ∧ g.params ≤ (g.vars.length : Int) ∧ (∀ p ∈ v.i.args.zip g.vars, Into p.2 (RtM.of v.u p.1))) ∧ (v.i.a = -1 ∨ Into (RtM.of v.u v.i.a) g.result) := by unfold CallOk; rw [hg]
  by_cases h3 : (v.i.args.length : Int) = g.params
  · by_cases h4 : (g.vars.length : Int) < g.params
    · refine GX.wR ?_; intros
      exact rt1 () (vN fun h => by have := (e.1 h).1.2.1; omega)
    · refine GX.wR ?_; intros
      refine GX.nmP 1 ?_; rintro b1 rfl
      refine GX.nmP 3 ?_; rintro b3 rfl
      refine GX.nmP 4 ?_; rintro b4 rfl
      refine frzB b3 ?_
      refine frzB b4 ?_
      refine GX.nmS 43 ?_; rintro aA cA rfl rfl
      refine GX.loop (σ := Nat) (fun i => [(1, .pointer (some ⟨b1, 0, none⟩)), (3, .pointer (some ⟨b3, 0, none⟩)), (4, .pointer (some ⟨b4, 0, none⟩)), (43, .slice aA v.i.args.length cA), (44, .int .i64 (v.i.args.length : Int)), (45, .int .i64 (i : Int))]) (fun _ => []) (fun _ => [])
        (fun i => i ≤ v.i.args.length ∧ ∀ p ∈ (v.i.args.zip g.vars).take i, Into p.2 (RtM.of v.u p.1)) (fun i => v.i.args.length - i) 0 ⟨rfl, rfl, rfl, rfl, rfl, rfl, trivial⟩ ⟨by omega, by simp⟩ (fun i hi => ?_)
      obtain ⟨hi, hA⟩ := hi
      have hzl : (v.i.args.zip g.vars).length = v.i.args.length := by rw [List.length_zip]; omega
      by_cases hlt : i < v.i.args.length
      · obtain ⟨a, ha⟩ := get_lt hlt
        obtain ⟨w, hw⟩ := get_lt (show i < g.vars.length by omega)
        have hz : (v.i.args.zip g.vars)[i]? = some (a, w) := by rw [List.getElem?_zip_eq_some]; exact ⟨ha, hw⟩
        refine GX.wR ?_; intros
        refine GX.drawn0  (fun j => !(List.contains [8] j)) [(0, true), (1, true), (2, true), (3, true), (4, true), (5, true), (6, true), (7, false), (8, false), (9, true)] rfl (by kernel_rfl) (by kernel_rfl) (by first | ((repeat (first | apply Go.GX.SelR.nil | apply Go.GX.SelR.cons | (with_reducible apply Go.GX.TakeR.head) | apply Go.GX.TakeR.tail)); done) | (repeat (first | apply Go.GX.SelR.nil | apply Go.GX.SelR.cons | apply Go.GX.TakeR.head | apply Go.GX.TakeR.tail))) ?_; intro wd F hW hR
        refine GX.wT ?_; intros
        refine GX.gow ?_
        refine (cl (of_spec _ v a) fun _ => ?_)
        refine GX.wT ?_; intros
        refine GX.gow ?_
        refine (cl (into_spec w _) fun _ => ?_)
        refine GX.wT ?_; intros
        by_cases h5 : Into w (RtM.of v.u a)
        · have h5' := Classical.not_not.2 h5
          refine GX.wR ?_; intros
          refine again (i + 1) ⟨rfl, rfl, rfl, rfl, rfl, rfl, trivial⟩ ⟨by omega, fun p hp => ?_⟩ (by omega)
          rw [List.take_add_one, hz, List.mem_append] at hp
          rcases hp with hp | hp
          · exact hA p hp
          · simp at hp; subst hp; exact h5
        · refine GX.wR ?_; intros
          exact rt1 () (vN fun h => h5 ((e.1 h).1.2.2 (a, w) (List.mem_of_getElem? hz)))
      · rw [List.take_of_length_le (by omega)] at hA
        by_cases h5 : v.i.a = -1
        · refine GX.wR ?_; intros
          refine GX.drawn0  (fun j => !(List.contains [10] j)) [(0, true), (1, true), (2, true), (3, true), (4, true), (5, true), (6, true), (8, true), (9, true), (7, false), (10, false), (11, true), (12, true)] rfl (by kernel_rfl) (by kernel_rfl) (by first | ((repeat (first | apply Go.GX.SelR.nil | apply Go.GX.SelR.cons | (with_reducible apply Go.GX.TakeR.head) | apply Go.GX.TakeR.tail)); done) | (repeat (first | apply Go.GX.SelR.nil | apply Go.GX.SelR.cons | apply Go.GX.TakeR.head | apply Go.GX.TakeR.tail))) ?_; intro wd F hW hR
          refine GX.wT ?_; intros
          refine GX.wR ?_; intros
          exact rt1 () (vY (e.2 ⟨⟨h3, by omega, hA⟩, .inl h5⟩))
        · refine GX.wR ?_; intros
          refine GX.drawn0  (fun j => !(List.contains [10] j)) [(0, true), (1, true), (2, true), (3, true), (4, true), (5, true), (6, true), (8, true), (9, true), (7, false), (10, false), (11, true), (12, true)] rfl (by kernel_rfl) (by kernel_rfl) (by first | ((repeat (first | apply Go.GX.SelR.nil | apply Go.GX.SelR.cons | (with_reducible apply Go.GX.TakeR.head) | apply Go.GX.TakeR.tail)); done) | (repeat (first | apply Go.GX.SelR.nil | apply Go.GX.SelR.cons | apply Go.GX.TakeR.head | apply Go.GX.TakeR.tail))) ?_; intro wd F hW hR
          refine GX.wT ?_; intros
          refine GX.gow ?_
          refine (cl (of_spec _ v _) fun _ => ?_)
          refine GX.wT ?_; intros
          refine GX.gow ?_
          refine (cl (into_spec _ g.result) fun _ => ?_)
          refine GX.wT ?_; intros
          refine GX.wR ?_; intros
          exact rt1 () (vI (e.trans ⟨fun h => h.2.elim (fun h => absurd h h5) id, fun h => ⟨⟨h3, by omega, hA⟩, .inr h⟩⟩))
  · refine GX.wR ?_; intros
    exact rt1 () (vN fun h => h3 (e.1 h).1.1)

theorem goes1_spec (bl : Nat) (v : RtView) (n : Int) : Does Try.prog 102 [.int .i64 n, .pointer (some ⟨bl, 0, none⟩)] [Pt tyRtView bl 0 v] [] (fun _ : Unit => .bool (decide (n ∈ v.u.owns))) (fun _ => []) (fun _ => []) := by
  refine enter Try.func102 rfl Try.ntmps102 rfl fun b => ?_
  refine GX.wR ?_; intros
  refine GX.nmS 6 ?_; rintro ao cap rfl rfl
  refine GX.o (cl (contains_spec ao cap v.u.owns n) fun _ => ?_)
  refine GX.wR ?_; intros
  exact rt1 () rfl
end Go.Proofs.Ytdkhfjcbhpfkoaa

/- The walks over package rt: goes, fits. -/
namespace Go.Proofs.Ytdkhfjcbhpfkoaa
open Go Go.RR Go.RX Go.GX Go.Api Go.RiseM Go.ReachM Go.RtM
attribute [local irreducible] wpList Code.wp wpPlan Exit.then Exit.inBlock bodyPost NoPanic Went GX.Post GX.Again GX.Meet GX.RowR GX.Own GX.Owns GX.Box GX.Sl GX.Pt GX.Ag GX.MapR GX.Kept GX.Pin wpT GoK AtEnd Both

theorem plain1 {u : Unt} {n : Int} : Plain u [n] ↔ RtM.of u n = -2 := by simp [Plain]
theorem plain2 {u : Unt} {n m : Int} : Plain u [n, m] ↔ RtM.of u n = -2 ∧ RtM.of u m = -2 := by simp [Plain]
theorem refs1 {u : Unt} {n : Int} : Refs u [n] ↔ IsRef (RtM.of u n) := by simp [Refs]
set_option maxHeartbeats 1000000 in
theorem goes_spec (cs : List Value) (v : RtView) : Does Try.prog 94 [.agg cs.toArray] [Ag tyRtView cs v] []
    (fun _ : Unit => .bool (decide (Goes v.t v.u v.i))) (fun _ => []) (fun _ => []) := by
  refine enter Try.func94 rfl Try.ntmps94 rfl fun b => ?_
  by_cases h13 : v.i.op = 13
  · have e : Goes v.t v.u v.i ↔ CallOk v.t v.u v.i := by unfold Goes; rw [if_pos h13]
    refine GX.wR ?_; intros
    refine GX.o (cl (call_spec _ v) fun _ => ?_)
    refine GX.wR ?_; intros
    exact rt1 () (vI e)
  by_cases h16 : v.i.op = 16
  · have e : Goes v.t v.u v.i ↔ RtM.Place v.u v.i.n := by unfold Goes; rw [if_neg h13, if_pos h16]
    refine GX.wR ?_; intros
    refine GX.o (cl (place_spec _ v _) fun _ => ?_)
    refine GX.wR ?_; intros
    exact rt1 () (vI e)
  by_cases h17 : v.i.op = 17
  · have e : Goes v.t v.u v.i ↔ RtM.of v.u v.i.a = -2 ∧ RtM.Place v.u v.i.n ∧ RtM.Place v.u v.i.c := by unfold Goes; rw [if_neg h13, if_neg h16, if_pos h17]
    refine GX.wR ?_; intros
    refine GX.o (cl (plain_spec _ v _ _ _ [v.i.a] rfl) fun _ => ?_)
    by_cases g1 : Plain v.u [v.i.a]
    · refine GX.wR ?_; intros
      refine GX.o (cl (place_spec _ v _) fun _ => ?_)
      by_cases g2 : RtM.Place v.u v.i.n
      · refine GX.wR ?_; intros
        refine GX.o (cl (place_spec _ v _) fun _ => ?_)
        refine GX.wR ?_; intros
        exact rt1 () (vI (e.trans ⟨fun h => h.2.2, fun h => ⟨plain1.1 g1, g2, h⟩⟩))
      · refine GX.wR ?_; intros
        exact rt1 () (vN fun h => g2 (e.1 h).2.1)
    · refine GX.wR ?_; intros
      exact rt1 () (vN fun h => g1 (plain1.2 (e.1 h).1))
  by_cases h18 : v.i.op = 18
  · have e : Goes v.t v.u v.i ↔ (v.u.result = -3 ∧ v.i.a = -1 ∨ v.u.result ≠ -3 ∧ Into v.u.result (RtM.of v.u v.i.a)) := by unfold Goes; rw [if_neg h13, if_neg h16, if_neg h17, if_pos h18]
    refine GX.wR ?_; intros
    refine GX.nmP 3 ?_; rintro b3 rfl
    refine frzB b3 ?_
    by_cases g1 : v.u.result = -3
    · have g1' := Classical.not_not.2 g1
      by_cases g2 : v.i.a = -1
      · refine GX.drawn0  (fun j => !(List.contains [22] j)) [(0, true), (1, true), (2, true), (3, true), (4, true), (5, true), (6, true), (7, true), (8, true), (9, true), (10, true), (11, true), (12, true), (13, true), (14, true), (15, true), (16, true), (17, true), (18, true), (19, true), (20, true), (21, false), (22, false), (23, true), (24, true), (25, true)] rfl (by kernel_rfl) (by kernel_rfl) (by first | ((repeat (first | apply Go.GX.SelR.nil | apply Go.GX.SelR.cons | (with_reducible apply Go.GX.TakeR.head) | apply Go.GX.TakeR.tail)); done) | (repeat (first | apply Go.GX.SelR.nil | apply Go.GX.SelR.cons | apply Go.GX.TakeR.head | apply Go.GX.TakeR.tail))) ?_; intro wd F hW hR
        refine GX.wT ?_; intros
        refine GX.wR ?_; intros
        exact rt1 () (vY (e.2 (.inl ⟨g1, g2⟩)))
      · refine GX.drawn0  (fun j => !(List.contains [22] j)) [(0, true), (1, true), (2, true), (3, true), (4, true), (5, true), (6, true), (7, true), (8, true), (9, true), (10, true), (11, true), (12, true), (13, true), (14, true), (15, true), (16, true), (17, true), (18, true), (19, true), (20, true), (21, false), (22, false), (23, true), (24, true), (25, true)] rfl (by kernel_rfl) (by kernel_rfl) (by first | ((repeat (first | apply Go.GX.SelR.nil | apply Go.GX.SelR.cons | (with_reducible apply Go.GX.TakeR.head) | apply Go.GX.TakeR.tail)); done) | (repeat (first | apply Go.GX.SelR.nil | apply Go.GX.SelR.cons | apply Go.GX.TakeR.head | apply Go.GX.TakeR.tail))) ?_; intro wd F hW hR
        refine GX.wT ?_; intros
        refine GX.wR ?_; intros
        exact rt1 () (vN fun h => (e.1 h).elim (fun h => g2 h.2) (fun h => h.1 g1))
    · refine GX.drawn0  (fun j => !(List.contains [22] j)) [(0, true), (1, true), (2, true), (3, true), (4, true), (5, true), (6, true), (7, true), (8, true), (9, true), (10, true), (11, true), (12, true), (13, true), (14, true), (15, true), (16, true), (17, true), (18, true), (19, true), (20, true), (21, false), (22, false), (23, true), (24, true), (25, true)] rfl (by kernel_rfl) (by kernel_rfl) (by first | ((repeat (first | apply Go.GX.SelR.nil | apply Go.GX.SelR.cons | (with_reducible apply Go.GX.TakeR.head) | apply Go.GX.TakeR.tail)); done) | (repeat (first | apply Go.GX.SelR.nil | apply Go.GX.SelR.cons | apply Go.GX.TakeR.head | apply Go.GX.TakeR.tail))) ?_; intro wd F hW hR
      refine GX.wT ?_; intros
      refine GX.gow ?_
      refine (cl (of_spec _ v _) fun _ => ?_)
      refine GX.wT ?_; intros
      refine GX.gow ?_
      refine (cl (into_spec v.u.result _) fun _ => ?_)
      refine GX.wT ?_; intros
      refine GX.wR ?_; intros
      exact rt1 () (vI (e.trans ⟨fun h => h.elim (fun h => absurd h.1 g1) (fun h => h.2), fun h => .inr ⟨g1, h⟩⟩))
  by_cases h19 : v.i.op = 19
  · have e : Goes v.t v.u v.i ↔ (match gt v.t.globals v.i.n with | some g => Into (RtM.of v.u v.i.a) g | none => False) := by unfold Goes; rw [if_neg h13, if_neg h16, if_neg h17, if_neg h18, if_pos h19]; exact Iff.rfl
    refine GX.wR ?_; intros
    refine GX.nmP 3 ?_; rintro b3 rfl
    refine frzB b3 ?_
    by_cases g1 : v.i.n < 0
    · rw [gt_out (.inl g1)] at e
      refine GX.drawn0  (fun j => !(List.contains [24] j)) [(0, true), (1, true), (2, true), (3, true), (4, true), (5, true), (6, true), (7, true), (8, true), (9, true), (10, true), (11, true), (12, true), (13, true), (14, true), (15, true), (17, true), (18, true), (19, true), (20, true), (21, true), (22, true), (23, true), (16, false), (24, false), (25, true), (26, true)] rfl (by kernel_rfl) (by kernel_rfl) (by first | ((repeat (first | apply Go.GX.SelR.nil | apply Go.GX.SelR.cons | (with_reducible apply Go.GX.TakeR.head) | apply Go.GX.TakeR.tail)); done) | (repeat (first | apply Go.GX.SelR.nil | apply Go.GX.SelR.cons | apply Go.GX.TakeR.head | apply Go.GX.TakeR.tail))) ?_; intro wd F hW hR
      refine GX.wT ?_; intros
      refine GX.wR ?_; intros
      exact rt1 () (vN e.1)
    by_cases g2 : (v.t.globals.length : Int) ≤ v.i.n
    · rw [gt_out (.inr g2)] at e
      refine GX.drawn0  (fun j => !(List.contains [24] j)) [(0, true), (1, true), (2, true), (3, true), (4, true), (5, true), (6, true), (7, true), (8, true), (9, true), (10, true), (11, true), (12, true), (13, true), (14, true), (15, true), (17, true), (18, true), (19, true), (20, true), (21, true), (22, true), (23, true), (16, false), (24, false), (25, true), (26, true)] rfl (by kernel_rfl) (by kernel_rfl) (by first | ((repeat (first | apply Go.GX.SelR.nil | apply Go.GX.SelR.cons | (with_reducible apply Go.GX.TakeR.head) | apply Go.GX.TakeR.tail)); done) | (repeat (first | apply Go.GX.SelR.nil | apply Go.GX.SelR.cons | apply Go.GX.TakeR.head | apply Go.GX.TakeR.tail))) ?_; intro wd F hW hR
      refine GX.wT ?_; intros
      refine GX.wR ?_; intros
      exact rt1 () (vN e.1)
    obtain ⟨g, hg, k, hk, hkl, hg2⟩ := gt_in (l := v.t.globals) (n := v.i.n) ⟨by omega, by omega⟩
    rw [hg] at e
    refine GX.drawn0  (fun j => !(List.contains [24] j)) [(0, true), (1, true), (2, true), (3, true), (4, true), (5, true), (6, true), (7, true), (8, true), (9, true), (10, true), (11, true), (12, true), (13, true), (14, true), (15, true), (17, true), (18, true), (19, true), (20, true), (21, true), (22, true), (23, true), (16, false), (24, false), (25, true), (26, true)] rfl (by kernel_rfl) (by kernel_rfl) (by first | ((repeat (first | apply Go.GX.SelR.nil | apply Go.GX.SelR.cons | (with_reducible apply Go.GX.TakeR.head) | apply Go.GX.TakeR.tail)); done) | (repeat (first | apply Go.GX.SelR.nil | apply Go.GX.SelR.cons | apply Go.GX.TakeR.head | apply Go.GX.TakeR.tail))) ?_; intro wd F hW hR
    refine GX.wT ?_; intros
    refine GX.gow ?_
    refine (cl (of_spec _ v _) fun _ => ?_)
    refine GX.wT ?_; intros
    refine GX.gow ?_
    refine (cl (into_spec _ g) fun _ => ?_)
    refine GX.wT ?_; intros
    refine GX.wR ?_; intros
    exact rt1 () (vI e)
  by_cases h20 : v.i.op = 20
  · have e : Goes v.t v.u v.i ↔ (match gt v.t.globals v.i.n with | some g => Into g (RtM.of v.u v.i.a) | none => False) := by unfold Goes; rw [if_neg h13, if_neg h16, if_neg h17, if_neg h18, if_neg h19, if_pos h20]; exact Iff.rfl
    refine GX.wR ?_; intros
    refine GX.nmP 3 ?_; rintro b3 rfl
    refine frzB b3 ?_
    by_cases g1 : v.i.n < 0
    · rw [gt_out (.inl g1)] at e
      refine GX.drawn0  (fun j => !(List.contains [24] j)) [(0, true), (1, true), (2, true), (3, true), (4, true), (5, true), (6, true), (7, true), (8, true), (9, true), (10, true), (11, true), (12, true), (13, true), (14, true), (15, true), (16, true), (17, true), (18, true), (19, true), (20, true), (21, true), (22, true), (23, false), (24, false), (25, true), (26, true)] rfl (by kernel_rfl) (by kernel_rfl) (by first | ((repeat (first | apply Go.GX.SelR.nil | apply Go.GX.SelR.cons | (with_reducible apply Go.GX.TakeR.head) | apply Go.GX.TakeR.tail)); done) | (repeat (first | apply Go.GX.SelR.nil | apply Go.GX.SelR.cons | apply Go.GX.TakeR.head | apply Go.GX.TakeR.tail))) ?_; intro wd F hW hR
      refine GX.wT ?_; intros
      refine GX.wR ?_; intros
      exact rt1 () (vN e.1)
    by_cases g2 : (v.t.globals.length : Int) ≤ v.i.n
    · rw [gt_out (.inr g2)] at e
      refine GX.drawn0  (fun j => !(List.contains [24] j)) [(0, true), (1, true), (2, true), (3, true), (4, true), (5, true), (6, true), (7, true), (8, true), (9, true), (10, true), (11, true), (12, true), (13, true), (14, true), (15, true), (16, true), (17, true), (18, true), (19, true), (20, true), (21, true), (22, true), (23, false), (24, false), (25, true), (26, true)] rfl (by kernel_rfl) (by kernel_rfl) (by first | ((repeat (first | apply Go.GX.SelR.nil | apply Go.GX.SelR.cons | (with_reducible apply Go.GX.TakeR.head) | apply Go.GX.TakeR.tail)); done) | (repeat (first | apply Go.GX.SelR.nil | apply Go.GX.SelR.cons | apply Go.GX.TakeR.head | apply Go.GX.TakeR.tail))) ?_; intro wd F hW hR
      refine GX.wT ?_; intros
      refine GX.wR ?_; intros
      exact rt1 () (vN e.1)
    obtain ⟨g, hg, k, hk, hkl, hg2⟩ := gt_in (l := v.t.globals) (n := v.i.n) ⟨by omega, by omega⟩
    rw [hg] at e
    refine GX.drawn0  (fun j => !(List.contains [24] j)) [(0, true), (1, true), (2, true), (3, true), (4, true), (5, true), (6, true), (7, true), (8, true), (9, true), (10, true), (11, true), (12, true), (13, true), (14, true), (15, true), (16, true), (17, true), (18, true), (19, true), (20, true), (21, true), (22, true), (23, false), (24, false), (25, true), (26, true)] rfl (by kernel_rfl) (by kernel_rfl) (by first | ((repeat (first | apply Go.GX.SelR.nil | apply Go.GX.SelR.cons | (with_reducible apply Go.GX.TakeR.head) | apply Go.GX.TakeR.tail)); done) | (repeat (first | apply Go.GX.SelR.nil | apply Go.GX.SelR.cons | apply Go.GX.TakeR.head | apply Go.GX.TakeR.tail))) ?_; intro wd F hW hR
    refine GX.wT ?_; intros
    refine GX.gow ?_
    refine (cl (of_spec _ v _) fun _ => ?_)
    refine GX.wT ?_; intros
    refine GX.gow ?_
    refine (cl (into_spec g _) fun _ => ?_)
    refine GX.wT ?_; intros
    refine GX.wR ?_; intros
    exact rt1 () (vI e)
  have e : Goes v.t v.u v.i ↔ v.i.args ≠ [] ∧ Rise v.i.args ∧ ∀ n ∈ v.i.args, n ∈ v.u.owns := by unfold Goes; rw [if_neg h13, if_neg h16, if_neg h17, if_neg h18, if_neg h19, if_neg h20]
  have ea : 0 < (v.i.args.length : Int) ↔ v.i.args ≠ [] := by rw [ne_eq, ← List.length_eq_zero_iff]; omega
  by_cases g1 : 0 < (v.i.args.length : Int)
  · refine GX.wR ?_; intros
    refine GX.nmP 1 ?_; rintro b1 rfl
    refine GX.nmS 126 ?_; rintro aA cA rfl rfl
    refine GX.o (cl (rising_spec aA cA v.i.args 102 [.pointer (some ⟨b1, 0, none⟩)] [Pt tyRtView b1 0 v] [] (fun n => decide (n ∈ v.u.owns)) (fun n _ => goes1_spec b1 v n)) fun _ => ?_)
    refine GX.wR ?_; intros
    refine rt1 () (vI ?_)
    exact e.trans ⟨fun h => ⟨h.2.1, fun n hn => decide_eq_true (h.2.2 n hn)⟩, fun h => ⟨ea.1 g1, h.1, fun n hn => of_decide_eq_true (h.2 n hn)⟩⟩
  · refine GX.wR ?_; intros
    exact rt1 () (vN fun h => g1 (ea.2 (e.1 h).1))
end Go.Proofs.Ytdkhfjcbhpfkoaa

/- The walks over package rt: fits. -/
namespace Go.Proofs.Ytdkhfjcbhpfkoaa
open Go Go.RR Go.RX Go.GX Go.Api Go.RiseM Go.ReachM Go.RtM
attribute [local irreducible] wpList Code.wp wpPlan Exit.then Exit.inBlock bodyPost NoPanic Went GX.Post GX.Again GX.Meet GX.RowR GX.Own GX.Owns GX.Box GX.Sl GX.Pt GX.Ag GX.MapR GX.Kept GX.Pin wpT GoK AtEnd Both

set_option maxHeartbeats 1000000 in
theorem fits_spec (cs : List Value) (v : RtView) : Does Try.prog 75 [.agg cs.toArray] [Ag tyRtView cs v] []
    (fun _ : Unit => .bool (decide (Fits v.t v.u v.i))) (fun _ => []) (fun _ => []) := by
  refine enter Try.func75 rfl Try.ntmps75 rfl fun b => ?_
  by_cases h1 : v.i.op = 1 ∨ v.i.op = 14 ∨ v.i.op = 15
  · have e : Fits v.t v.u v.i ↔ RtM.of v.u v.i.a = -2 := by unfold Fits; rw [if_pos h1]
    rcases h1 with h1 | h1 | h1
    · refine GX.wR ?_; intros
      refine GX.o (cl (plain_spec _ v _ _ _ [v.i.a] rfl) fun _ => ?_)
      refine GX.wR ?_; intros
      exact rt1 () (vI (e.trans plain1.symm))
    · refine GX.wR ?_; intros
      refine GX.o (cl (plain_spec _ v _ _ _ [v.i.a] rfl) fun _ => ?_)
      refine GX.wR ?_; intros
      exact rt1 () (vI (e.trans plain1.symm))
    · refine GX.wR ?_; intros
      refine GX.o (cl (plain_spec _ v _ _ _ [v.i.a] rfl) fun _ => ?_)
      refine GX.wR ?_; intros
      exact rt1 () (vI (e.trans plain1.symm))
  have n1 : v.i.op ≠ 1 := fun h => h1 (.inl h)
  have n14 : v.i.op ≠ 14 := fun h => h1 (.inr (.inl h))
  have n15 : v.i.op ≠ 15 := fun h => h1 (.inr (.inr h))
  by_cases h2 : v.i.op = 2
  · have e : Fits v.t v.u v.i ↔ IsRef (RtM.of v.u v.i.a) := by unfold Fits; rw [if_neg h1, if_pos h2]
    refine GX.wR ?_; intros
    refine GX.o (cl (refs_spec _ v _ _ _ [v.i.a] rfl) fun _ => ?_)
    refine GX.wR ?_; intros
    exact rt1 () (vI (e.trans refs1.symm))
  by_cases h3 : v.i.op = 3
  · have e : Fits v.t v.u v.i ↔ Into (RtM.of v.u v.i.a) (RtM.of v.u v.i.b) := by unfold Fits; rw [if_neg h1, if_neg h2, if_pos h3]
    refine GX.wR ?_; intros
    refine GX.nmP 3 ?_; rintro b3 rfl
    refine frzB b3 ?_
    refine GX.drawn0  (fun j => !(List.contains [7, 8] j)) [(0, true), (1, true), (2, true), (4, true), (5, true), (6, true), (3, false), (7, false), (8, false), (9, true)] rfl (by kernel_rfl) (by kernel_rfl) (by first | ((repeat (first | apply Go.GX.SelR.nil | apply Go.GX.SelR.cons | (with_reducible apply Go.GX.TakeR.head) | apply Go.GX.TakeR.tail)); done) | (repeat (first | apply Go.GX.SelR.nil | apply Go.GX.SelR.cons | apply Go.GX.TakeR.head | apply Go.GX.TakeR.tail))) ?_; intro wd F hW hR
    refine GX.wT ?_; intros
    refine GX.gow ?_
    refine (cl (of_spec _ v v.i.a) fun _ => ?_)
    refine GX.wT ?_; intros
    refine GX.gow ?_
    refine (cl (of_spec _ v v.i.b) fun _ => ?_)
    refine GX.wT ?_; intros
    refine GX.gow ?_
    refine (cl (into_spec _ _) fun _ => ?_)
    refine GX.wT ?_; intros
    refine GX.wR ?_; intros
    exact rt1 () (vI e)
  by_cases h4 : v.i.op = 4
  · have e : Fits v.t v.u v.i ↔ Two v.u v.i := by unfold Fits; rw [if_neg h1, if_neg h2, if_neg h3, if_pos h4]
    refine GX.wR ?_; intros
    refine GX.o (cl (two_spec _ v) fun _ => ?_)
    refine GX.wR ?_; intros
    exact rt1 () (vI e)
  by_cases h5 : v.i.op = 5
  · have e : Fits v.t v.u v.i ↔ (v.i.n = 12 ∨ v.i.n = 13) ∧ RtM.of v.u v.i.a = -2 ∧ RtM.of v.u v.i.b = -2 := by unfold Fits; rw [if_neg h1, if_neg h2, if_neg h3, if_neg h4, if_pos h5]
    by_cases g1 : v.i.n = 12
    · refine GX.wR ?_; intros
      refine GX.o (cl (plain_spec _ v _ _ _ [v.i.a, v.i.b] rfl) fun _ => ?_)
      refine GX.wR ?_; intros
      exact rt1 () (vI (e.trans ⟨fun h => plain2.2 h.2, fun h => ⟨.inl g1, plain2.1 h⟩⟩))
    · by_cases g2 : v.i.n = 13
      · refine GX.wR ?_; intros
        refine GX.o (cl (plain_spec _ v _ _ _ [v.i.a, v.i.b] rfl) fun _ => ?_)
        refine GX.wR ?_; intros
        exact rt1 () (vI (e.trans ⟨fun h => plain2.2 h.2, fun h => ⟨.inr g2, plain2.1 h⟩⟩))
      · refine GX.wR ?_; intros
        exact rt1 () (vN fun h => (e.1 h).1.elim g1 g2)
  by_cases h6 : v.i.op = 6
  · have e : Fits v.t v.u v.i ↔ Loads v.t v.u v.i.a v.i.b false v.i.c := by unfold Fits; rw [if_neg h1, if_neg h2, if_neg h3, if_neg h4, if_neg h5, if_pos h6]
    refine GX.wR ?_; intros
    refine GX.o (cl (loads_spec _ v _ _ _ _) fun _ => ?_)
    refine GX.wR ?_; intros
    exact rt1 () (vI e)
  by_cases h7 : v.i.op = 7
  · have e : Fits v.t v.u v.i ↔ Lays v.t v.u v.i.a false v.i.c v.i.b := by unfold Fits; rw [if_neg h1, if_neg h2, if_neg h3, if_neg h4, if_neg h5, if_neg h6, if_pos h7]
    refine GX.wR ?_; intros
    refine GX.o (cl (lays_spec _ v _ _ _ _) fun _ => ?_)
    refine GX.wR ?_; intros
    exact rt1 () (vI e)
  by_cases h8 : v.i.op = 8
  · have e : Fits v.t v.u v.i ↔ RtM.of v.u v.i.c = -2 ∧ Loads v.t v.u v.i.a v.i.b true 0 := by unfold Fits; rw [if_neg h1, if_neg h2, if_neg h3, if_neg h4, if_neg h5, if_neg h6, if_neg h7, if_pos h8]
    refine GX.wR ?_; intros
    refine GX.o (cl (plain_spec _ v _ _ _ [v.i.c] rfl) fun _ => ?_)
    by_cases g1 : Plain v.u [v.i.c]
    · refine GX.wR ?_; intros
      refine GX.o (cl (loads_spec _ v _ _ _ _) fun _ => ?_)
      refine GX.wR ?_; intros
      exact rt1 () (vI (e.trans ⟨fun h => h.2, fun h => ⟨plain1.1 g1, h⟩⟩))
    · refine GX.wR ?_; intros
      exact rt1 () (vN fun h => g1 (plain1.2 (e.1 h).1))
  by_cases h9 : v.i.op = 9
  · have e : Fits v.t v.u v.i ↔ RtM.of v.u v.i.b = -2 ∧ Lays v.t v.u v.i.a true 0 v.i.c := by unfold Fits; rw [if_neg h1, if_neg h2, if_neg h3, if_neg h4, if_neg h5, if_neg h6, if_neg h7, if_neg h8, if_pos h9]
    refine GX.wR ?_; intros
    refine GX.o (cl (plain_spec _ v _ _ _ [v.i.b] rfl) fun _ => ?_)
    by_cases g1 : Plain v.u [v.i.b]
    · refine GX.wR ?_; intros
      refine GX.o (cl (lays_spec _ v _ _ _ _) fun _ => ?_)
      refine GX.wR ?_; intros
      exact rt1 () (vI (e.trans ⟨fun h => h.2, fun h => ⟨plain1.1 g1, h⟩⟩))
    · refine GX.wR ?_; intros
      exact rt1 () (vN fun h => g1 (plain1.2 (e.1 h).1))
  by_cases h10 : v.i.op = 10
  · have e : Fits v.t v.u v.i ↔ (cell v.t v.u v.i.b true 0).2.2 = true ∧ RtM.of v.u v.i.a = -2 := by unfold Fits; rw [if_neg h1, if_neg h2, if_neg h3, if_neg h4, if_neg h5, if_neg h6, if_neg h7, if_neg h8, if_neg h9, if_pos h10]
    refine GX.wR ?_; intros
    refine GX.o (cl (length_spec _ v) fun _ => ?_)
    refine GX.wR ?_; intros
    exact rt1 () (vI e)
  by_cases h11 : v.i.op = 11
  · have e : Fits v.t v.u v.i ↔ Fresh v.t v.u v.i false := by unfold Fits; rw [if_neg h1, if_neg h2, if_neg h3, if_neg h4, if_neg h5, if_neg h6, if_neg h7, if_neg h8, if_neg h9, if_neg h10, if_pos h11]
    refine GX.wR ?_; intros
    refine GX.o (cl (fresh_spec _ v _) fun _ => ?_)
    refine GX.wR ?_; intros
    exact rt1 () (vI e)
  by_cases h12 : v.i.op = 12
  · have e : Fits v.t v.u v.i ↔ Fresh v.t v.u v.i true ∧ RtM.of v.u v.i.b = -2 := by unfold Fits; rw [if_neg h1, if_neg h2, if_neg h3, if_neg h4, if_neg h5, if_neg h6, if_neg h7, if_neg h8, if_neg h9, if_neg h10, if_neg h11, if_pos h12]
    refine GX.wR ?_; intros
    refine GX.o (cl (fresh_spec _ v _) fun _ => ?_)
    by_cases g1 : Fresh v.t v.u v.i true
    · refine GX.wR ?_; intros
      refine GX.o (cl (plain_spec _ v _ _ _ [v.i.b] rfl) fun _ => ?_)
      refine GX.wR ?_; intros
      exact rt1 () (vI (e.trans ⟨fun h => plain1.2 h.2, fun h => ⟨g1, plain1.1 h⟩⟩))
    · refine GX.wR ?_; intros
      exact rt1 () (vN fun h => g1 (e.1 h).1)
  have e : Fits v.t v.u v.i ↔ Goes v.t v.u v.i := by unfold Fits; rw [if_neg h1, if_neg h2, if_neg h3, if_neg h4, if_neg h5, if_neg h6, if_neg h7, if_neg h8, if_neg h9, if_neg h10, if_neg h11, if_neg h12]
  refine GX.wR ?_; intros
  refine GX.o (cl (goes_spec _ v) fun _ => ?_)
  refine GX.wR ?_; intros
  exact rt1 () (vI e)
end Go.Proofs.Ytdkhfjcbhpfkoaa

/- slices.Clone over ints. -/
namespace Go.Proofs.Ytdkhfjcbhpfkoaa
open Go Go.RR Go.RX Go.GX
attribute [local irreducible] wpList Code.wp wpPlan Exit.then Exit.inBlock bodyPost NoPanic Went GX.Post GX.Again GX.Meet GX.RowR GX.Own GX.Owns GX.Box GX.Sl GX.Pt GX.Ag GX.MapR GX.Kept GX.Pin

theorem clone_spec (ao : Option Addr) (cap : Nat) (xs : List Int) (hl : xs.length ≤ 1099511627776) : Does Try.prog 80 [.slice ao xs.length cap] [Sl Ty.int ao cap xs] []
    (fun s : Option Addr × Nat => .slice s.1 xs.length s.2) (fun _ => []) (fun s => [Own 3 Ty.int s.1 s.2 xs]) := by
  refine enter Try.func80 rfl Try.ntmps80 rfl fun b => ?_
  refine sln ao fun h1 h2 h3 => ?_
  cases ao with
  | none =>
    have hx : xs = [] := Classical.byContradiction fun h => by obtain ⟨_, _, h⟩ := h3 h; cases h
    subst hx
    rw [List.length_nil]
    have hc : cap = cap := rfl
    repeat (first | (apply GX.s_list; first | apply GX.nil | (refine GX.o ?_; first | (apply GX.k_move; refine GX.m ?_) | (apply GX.k_assign; refine GX.a ?_) | (apply GX.k_call; first | (refine GX.ap ?_; intro _ _) | (refine GX.ap0 ?_; intro _ _)) | (apply GX.k_buildSlice; (refine GX.sl ?_; intro _)) | (apply GX.k_binOp_eql; first | refine GX.b_eql ?_ | refine GX.b_pn ?_ | refine GX.b_nn ?_ | refine GX.b_snn ?_ | refine GX.b_sns ?_ | refine GX.b_eqls ?_ | refine GX.b_eqltf ?_ | refine GX.b_eqlft ?_ | refine GX.b_eqlb ?_)) | refine GX.gt ?_ | refine GX.gf ?_ | refine GX.gbt ?_ | refine GX.gbf ?_ | refine GX.un ?_ | refine GX.un0 ?_) | apply GX.then_normal | apply GX.seq | apply GX.region | (apply GX.s_cond; first | refine GX.ct ?_ | refine GX.cf ?_ | refine GX.cdf ?_ | refine GX.cdt ?_ | refine GX.cbt ?_ | refine GX.cbf ?_) | apply GX.skip | apply GX.block | apply GX.inBlock_normal | apply GX.exit | apply GX.then_exit | apply GX.inBlock_exit | refine GX.ibo ?_ | apply GX.ret | apply GX.then_ret | apply GX.inBlock_ret)
    refine ownNil 3 Ty.int ?_
    exact rt1 (none, 0) rfl
  | some a =>
    repeat (first | (apply GX.s_list; first | apply GX.nil | (refine GX.o ?_; first | (apply GX.k_move; refine GX.m ?_) | (apply GX.k_assign; refine GX.a ?_) | (apply GX.k_call; first | (refine GX.ap ?_; intro _ _) | (refine GX.ap0 ?_; intro _ _)) | (apply GX.k_buildSlice; (refine GX.slo ?_; intro _)) | (apply GX.k_binOp_eql; first | refine GX.b_eql ?_ | refine GX.b_pn ?_ | refine GX.b_nn ?_ | refine GX.b_snn ?_ | refine GX.b_sns ?_ | refine GX.b_eqls ?_ | refine GX.b_eqltf ?_ | refine GX.b_eqlft ?_ | refine GX.b_eqlb ?_)) | refine GX.gt ?_ | refine GX.gf ?_ | refine GX.gbt ?_ | refine GX.gbf ?_ | refine GX.un ?_ | refine GX.un0 ?_) | apply GX.then_normal | apply GX.seq | apply GX.region | (apply GX.s_cond; first | refine GX.ct ?_ | refine GX.cf ?_ | refine GX.cdf ?_ | refine GX.cdt ?_ | refine GX.cbt ?_ | refine GX.cbf ?_) | apply GX.skip | apply GX.block | apply GX.inBlock_normal | apply GX.exit | apply GX.then_exit | apply GX.inBlock_exit | refine GX.ibo ?_ | apply GX.ret | apply GX.then_ret | apply GX.inBlock_ret)
    exact rt1 (_, _) rfl
end Go.Proofs.Ytdkhfjcbhpfkoaa

/- Parts of slices of one's own: cutting, and the built-in clear, for elements of one cell. No program in sight. -/
namespace Go.GX
open Go Go.RowKit Go.RR Go.RX
section
variable {P : Program} {n : Nat} {env : Env} {b : Base} {ps : List Pf} {hp : List Res} {Q : Exit → Act → World → Prop} {K : Act → World → Prop}
variable {ty : TypeId} {pos : String} {aft : Array Edge} {gd : Option (Nat × Bool)} {α : Type} {e : Ty α}

theorem els_take {F : Nat → Prop} {w : World} : ∀ {xs : List α} {cs : List Value} (j : Nat), Els e F w cs xs → Els e F w (cs.take (j * e.size)) (xs.take j)
  | [], cs, j, h => by
    have h : cs = [] := h
    subst h; simp; rfl
  | x :: xs, cs, 0, h => by simp; rfl
  | x :: xs, cs, j + 1, ⟨c1, c2, h1, h2, h3⟩ => by
    have hl := e.len h2
    refine ⟨c1, c2.take (j * e.size), ?_, h2, els_take j h3⟩
    rw [h1, Nat.add_mul, Nat.one_mul, Nat.add_comm, ← hl, List.take_length_add_append]
/-- Fewer of them. -/
theorem ownTake (ao : Option Addr) (j : Nat) {t : TypeId} {cap : Nat} {xs : List α} {rest : List Res} [hf : FOwn ao hp t e cap xs rest] (h : G n env b ps (Own t e ao cap (xs.take j) :: rest) K) : G n env b ps hp K := by
  refine alter (hp1 := [Own t e ao cap xs]) (hp2 := [Own t e ao cap (xs.take j)]) hf.p ?_ ?_ h
  · intro F w h1 _
    refine ⟨fun r hr => ?_, by simp⟩
    obtain rfl : r = _ := by simpa using hr
    obtain ⟨cs, g1, g2⟩ : (Own t e ao cap xs).says F w := h1 _ (by simp)
    have hlen := els_take j g2
    rcases g1.2 with ⟨h3, h4⟩ | ⟨g, cap', cur, h3, hb, hg, h5, h6, h7, h8⟩
    · simp at h3
      obtain ⟨rfl, hx, rfl⟩ := h3
      subst hx
      have : cs = [] := g2
      subst this
      simp; exact own_none
    · simp at h3
      obtain ⟨rfl, rfl⟩ := h3
      refine ⟨cs.take (j * e.size), ⟨hlen.len, .inr ⟨g, cap, cur, rfl, hb, hg, ?_, h6, h7, ?_⟩⟩, hlen⟩
      · rw [List.length_take]; omega
      · have h8 : cur.toList.take (xs.length * e.size) = cs := h8
        show cur.toList.take ((xs.take j).length * e.size) = cs.take (j * e.size)
        rw [← h8, List.take_take, List.length_take, Nat.mul_min_mul_right]
  · rintro k ⟨r, hr, hk⟩
    obtain rfl : r = _ := by simpa using hr
    refine ⟨Own t e ao cap xs, by simp, ?_⟩
    have hk : Value.ownBlock (.slice ao (xs.take j).length cap) = some k := hk
    show Value.ownBlock (.slice ao xs.length cap) = some k
    cases ao <;> exact hk
section cutting
variable {t et : TypeId} {x y : Operand} {k : IntKind} {d : Nat}
/-- 's[:j]' of a slice of one's own, as a value. -/
theorem oh {ao : Option Addr} {m cap j sz : Nat} [ht : USlice P t et] [hs : USize P et sz] (h : G n ((d, .slice ao j cap) :: env) b ps hp K) (hx : ev env x = some (.slice ao m cap) := by exact rfl) (hy : ev env y = some (.int k (j : Int)) := by exact rfl) (hj : j ≤ cap := by omega) (hao : ∀ a, ao = some a → a.spot = none := by intro a ha; cases ha; rfl) (hd : Nat.blt d n = true := by exact rfl) :
    GO P n env b ps hp ⟨some d, .slice t x none (some y) none, ty, pos, aft, gd⟩ K Q := by
  refine rd1 (fun a ha o ho w _ => ?_) hd h
  have hb1 := sliceBound_run (P := P) (k := k) (i := (j : Int)) (y := cap) (c := .sliceAcap) (w := w) ⟨by omega, by omega⟩
  have e0 : (if cap = 0 then ao else ao.map (·.add (0 * sz))) = ao := by
    split
    · rfl
    · cases ao with
      | none => rfl
      | some a =>
        have := hao a rfl
        obtain ⟨b, o, sp⟩ := a
        dsimp only at this; subst this
        simp [Addr.add_lit]
  simp [execOp, ho, ha.ev hx, ha.ev hy, Instr.sliceAt, Instr.slice, run_underlying ht.u, Instr.sliceBounds, hb1, hs.s]
  simpa using e0
/-- 's[j:]', likewise. -/
theorem ol {g o m cap j sz : Nat} [ht : USlice P t et] [hs : USize P et sz] (h : ∀ o2, (j < cap → o2 = o + j * sz) → G n ((d, .slice (some ⟨g, o2, none⟩) (m - j) (cap - j)) :: env) b ps hp K) (hx : ev env x = some (.slice (some ⟨g, o, none⟩) m cap) := by exact rfl) (hy : ev env y = some (.int k (j : Int)) := by exact rfl) (hj : j ≤ m := by omega) (hm : m ≤ cap := by omega) (hd : Nat.blt d n = true := by exact rfl) :
    GO P n env b ps hp ⟨some d, .slice t x (some y) none none, ty, pos, aft, gd⟩ K Q := by
  refine rd1 (v := .slice (some ⟨g, if cap = j then o else o + j * sz, none⟩) (m - j) (cap - j)) (fun a ha o' ho w _ => ?_) hd (h _ (fun hlt => by rw [if_neg (by omega)]))
  have hb1 := sliceBound_run (P := P) (k := k) (i := (j : Int)) (y := m) (c := .sliceB) (w := w) ⟨by omega, by omega⟩
  by_cases hc : cap = j
  · simp [execOp, ho, ha.ev hx, ha.ev hy, Instr.sliceAt, Instr.slice, run_underlying ht.u, Instr.sliceBounds, hb1, hs.s, hc]
  · simp [execOp, ho, ha.ev hx, ha.ev hy, Instr.sliceAt, Instr.slice, run_underlying ht.u, Instr.sliceBounds, hb1, hs.s, hc, Addr.add_lit]

theorem effC {w w' : World} {c : Call} {v : Value} (hs : ∀ a, Has n env a → (execOp a.eval ⟨none, .call c, ty, pos, aft, gd⟩).run P w = .ok (.value v) w') (h : E n env w' K) : OW P n env w ⟨none, .call c, ty, pos, aft, gd⟩ K Q := by
  constructor; intro a ha
  show Oper.upon P _ a K Q ((execOp a.eval _).run P w)
  rw [hs a ha]
  exact h.run _ ha
/-- 'clear(s[k:])': what lies ahead stays. -/
theorem clr {z : α} {zv : Value} {g o m c cap k0 : Nat} {xs : List α} {rest : List Res} [ht : USlice P t et] [hz : UTy P et e z zv] [hf : FOwn (some ⟨g, 0, none⟩) hp et e cap xs rest] (h : ∀ ys, ys.length = xs.length → ys.take k0 = xs.take k0 → G n env b ps (Own et e (some ⟨g, 0, none⟩) cap ys :: rest) K)
    (hx : ev env x = some (.slice (some ⟨g, o, none⟩) m c)) (hes : e.size = 1) (hzs : zv.cells = #[zv]) (h1 : zv.oneCell' = true) (ho : m = 0 ∨ (k0 ≤ o ∧ o + m ≤ xs.length)) : GO P n env b ps hp ⟨none, .call { callee := .builtin .clear, args := #[x], argTypes := #[t] }, ty, pos, aft, gd⟩ K Q := by
  refine Acts.use (hp1 := [Own et e (some ⟨g, 0, none⟩) cap xs]) (ι := { ys : List α // ys.length = xs.length ∧ ys.take k0 = xs.take k0 }) (val := fun _ => undef) (pf := fun _ => []) (hr := fun ys => [Own et e (some ⟨g, 0, none⟩) cap ys.1]) ?_ hf.p (fun ys => h ys.1 ys.2.1 ys.2.2)
  intro F w K Q b s hk
  rcases Nat.eq_zero_or_pos m with hm | hm
  · subst hm
    refine effC (v := .tuple #[]) (w' := w) (fun a ha => ?_) (hk ⟨xs, rfl, rfl⟩ w (mkOk1 s (Upd.refl _ _) (s.rs (Own et e (some ⟨g, 0, none⟩) cap xs) (by simp)) (fun k hk _ => hk)))
    simp [execOp, ha.ev hx, resolve, invoke, builtin, Builtin.clear_, run_underlying ht.u]
  · obtain ⟨ho1, ho2⟩ : k0 ≤ o ∧ o + m ≤ xs.length := by omega
    obtain ⟨cs, tl, g1, g2, g3, g4, g5⟩ := own_open (s.rs (Own et e (some ⟨g, 0, none⟩) cap xs) (by simp))
    have hcl := g2.len
    rw [hes, Nat.mul_one] at hcl
    obtain ⟨w', k1, k2, k3⟩ := run_storeAll (P := P) (bl := g) (o := o) (te := et) (List.replicate m zv) (cs ++ tl) w 0 g1 (by simp; omega) (fun u hu => by rw [List.eq_of_mem_replicate hu]; exact h1)
    have hzc : (Builtin.zeroCells zv.cells m).toList = List.replicate m zv := by
      rw [hzs]
      simp [Builtin.zeroCells]
      apply List.ext_getElem
      · simp
      · intro i h1 h2; simp [Nat.mod_one]
    have hrd : e.rd F w [zv] z := by have := hz.rd F w; rw [hzs] at this; exact this
    refine effC (v := .tuple #[]) (w' := w') (fun a ha => ?_) (hk ⟨xs.take o ++ (List.replicate m z ++ xs.drop (o + m)), by simp; omega, by rw [List.take_append_of_le_length (by simp; omega), List.take_take, Nat.min_eq_left ho1]⟩ w' (mkOk1 s (k3.mono fun k _ hk => by subst hk; rfl) (own_close (cs := cs.take o ++ (List.replicate m zv ++ cs.drop (o + m))) (tl := tl) ?_ ?_ ?_ (by simp; omega) g5) (fun k hk _ => hk)))
    · obtain ⟨m', rfl⟩ : ∃ m', m = m' + 1 := ⟨m - 1, by omega⟩
      simp [execOp, ha.ev hx, resolve, invoke, builtin, Builtin.clear_, run_underlying ht.u, hz.zero, hzc, k1]
    · have e1 : over (cs ++ tl) (o + 0) (List.replicate m zv) = cs.take o ++ (List.replicate m zv ++ cs.drop (o + m)) ++ tl := by
        unfold over
        rw [Nat.add_zero, List.length_replicate, List.take_append_of_le_length (by omega), List.drop_append_of_le_length (by omega)]
        simp
      rw [e1] at k2; exact k2
    · have hu' : Upd (feet [Own et e (some ⟨g, 0, none⟩) cap xs]) w w' := k3.mono fun k _ hk => ⟨Own et e (some ⟨g, 0, none⟩) cap xs, by simp, by subst hk; rfl⟩
      have a1 := els_take o g2
      rw [hes, Nat.mul_one] at a1
      have a3 : Els e F w (cs.drop (o + m)) (xs.drop (o + m)) := by
        have key : ∀ (j : Nat) (xs : List α) (cs : List Value), Els e F w cs xs → Els e F w (cs.drop j) (xs.drop j) := by
          intro j
          induction j with
          | zero => intro xs cs h; simpa using h
          | succ j ih =>
            intro xs cs h
            cases xs with
            | nil => have h : cs = [] := h
                     subst h; simp; rfl
            | cons x xs =>
              obtain ⟨c1, c2, q1, q2, q3⟩ := h
              have hl := e.len q2
              rw [q1, List.drop_succ_cons, show j + 1 = c1.length + j by omega, ← List.drop_drop, List.drop_left]
              exact ih xs c2 q3
        exact key _ _ _ g2
      have a2 : Els e F w (List.replicate m zv) (List.replicate m z) := by
        have := els_rep hrd m
        simpa using this
      exact (a1.append (a2.append a3)).move (fun _ _ h => h) (agF s hu')
    · rw [← g3]; simp; omega
end cutting

/-- A call of a function value; one thing more is one's own, and is not touched. -/
theorem clvR {d : Nat} {f : FuncId} {x : Operand} {xs : List Operand} {ts : Array TypeId} {vs fs cs : List Value} {r : Res} {hpC : List Res} [hf : UFunc P f] {ps1 : List Pf} {σ : Type} {val : σ → Value}
    (hc : Does P f (fs ++ (vs ++ cs)) ps1 hpC val (fun _ => []) (fun _ => hpC)) (h : ∀ s, G n ((d, val s) :: env) b ps (r :: hpC) K)
    (hx : ev env x = some (.func (.func f) fs.toArray cs.toArray) := by exact rfl) (hxs : evs env xs = some vs := by exact rfl)
    (hps : Suf ps1 ps := by repeat (first | (with_reducible apply Go.GX.Suf.refl) | apply Go.GX.Suf.tail)) (hd : Nat.blt d n = true := by exact rfl) :
    GO P n env b ps (r :: hpC) ⟨some d, .call { callee := .value x, args := xs.toArray, argTypes := ts }, ty, pos, aft, gd⟩ K Q :=
  callvG (rest := [r]) hc hx hxs hps.sub (List.perm_append_comm (l₁ := [r])) hd (fun s => perm (List.perm_append_comm (l₂ := [r])) (by rw [List.nil_append]; exact h s))
theorem clR {d : Nat} {f : FuncId} {xs : List Operand} {ts : Array TypeId} {vs : List Value} [hf : UFunc P f] {ps1 : List Pf} {σ : Type} {val : σ → Value} {hp' : σ → List Res}
    (hc : Does P f vs ps1 hp val (fun _ => []) hp') (h : ∀ s, G n ((d, val s) :: env) b ps (hp' s) K) (hxs : evs env xs = some vs := by exact rfl)
    (hps : Suf ps1 ps := by repeat (first | (with_reducible apply Go.GX.Suf.refl) | apply Go.GX.Suf.tail)) (hd : Nat.blt d n = true := by exact rfl) :
    GO P n env b ps hp ⟨some d, .call { callee := .value (.func f), args := xs.toArray, argTypes := ts }, ty, pos, aft, gd⟩ K Q :=
  call hc hxs hps.sub (rest := []) (by rw [List.append_nil]) hd (fun s => by rw [List.nil_append, List.append_nil]; exact h s)
end
end Go.GX
