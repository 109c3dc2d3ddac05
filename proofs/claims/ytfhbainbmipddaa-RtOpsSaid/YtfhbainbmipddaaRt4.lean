/- The walks over package rt: bare, call, goes, fits. -/
import Derived.Test.YtfhbainbmipddaaRt3
import Derived.Test.YtfhbainbmipddaaGWalk
namespace Go.Proofs.Ytfhbainbmipddaa
open Go Go.RR Go.RX Go.GX Go.Api Go.RiseM Go.ReachM Go.RtM
attribute [local irreducible] wpList Code.wp wpPlan Exit.then Exit.inBlock bodyPost NoPanic Went GX.Post GX.Again GX.Meet GX.RowR GX.Own GX.Owns GX.Box GX.Sl GX.Pt GX.Ag GX.MapR GX.Kept GX.Pin wpT GoK AtEnd Both

theorem bare_spec (cs : List Value) (i : Ins) : Does Try.prog 65 [.agg cs.toArray] [Ag tyIns cs i] []
    (fun _ : Unit => .bool (decide (Bare i))) (fun _ => []) (fun _ => []) := by
  refine enter Try.func65 rfl Try.ntmps65 rfl fun b => ?_
  repeat' (first | (apply GX.s_list; first | apply GX.nil | (refine GX.o ?_; first | (apply GX.k_load; first | refine GX.lr ?_ | refine GX.lrA ?_ | refine GX.ln ?_ | refine GX.lb ?_ | refine GX.lh ?_ | (refine GX.ls ?_; intro ao cap _ _) | (refine GX.lA ?_; intro cs) | (refine GX.l0 ?_; intro cs) | refine GX.o1n ?_ | refine GX.o1b ?_ | refine GX.o1h ?_ | (refine GX.o1s ?_; intro ao cap _ _) | refine GX.omn ?_ | refine GX.omb ?_ | refine GX.omh ?_ | (refine GX.oms ?_; intro ao cap _ _) | refine GX.ofn ?_ | refine GX.ofb ?_ | refine GX.ofh ?_ | (refine GX.ofs ?_; intro ao cap _ _) | (refine GX.oA ?_; intro cs)) | (apply GX.k_assign; refine GX.a ?_) | (apply GX.k_fieldAddr; first | refine GX.f0 ?_ | refine GX.fh ?_ | refine GX.fa ?_) | (apply GX.k_box; first | (refine GX.bxF ?_; intro _) | (refine GX.bxR ?_; intro _)) | (apply GX.k_binOp_eql; first | refine GX.b_eql ?_ | refine GX.b_pn ?_ | refine GX.b_nn ?_ | refine GX.b_snn ?_ | refine GX.b_sns ?_ | refine GX.b_eqls ?_ | refine GX.b_eqltf ?_ | refine GX.b_eqlft ?_ | refine GX.b_eqlb ?_)) | refine GX.gt ?_ | refine GX.gf ?_ | refine GX.gbt ?_ | refine GX.gbf ?_ | refine GX.un ?_ | refine GX.un0 ?_ | (refine GX.gs ?_ ?_ <;> intro _) | (refine GX.gsb ?_ ?_ <;> intro _)) | apply GX.then_normal | apply GX.seq | apply GX.region | (apply GX.s_cond; first | refine GX.ct ?_ | refine GX.cf ?_ | refine GX.cdf ?_ | refine GX.cdt ?_ | refine GX.cbt ?_ | refine GX.cbf ?_ | (refine GX.cs ?_ ?_ <;> intro _) | (refine GX.csb ?_ ?_ <;> intro _)) | apply GX.skip | apply GX.block | apply GX.inBlock_normal | apply GX.exit | apply GX.then_exit | apply GX.inBlock_exit | refine GX.ibo ?_ | apply GX.ret | apply GX.then_ret | apply GX.inBlock_ret)
  all_goals first
    | (refine GX.o (cl (only_spec _ i _ _ _ _ _) fun _ => ?_)
       refine GX.wR ?_; intros
       refine rt1 () (vI ?_)
       unfold Bare names
       simp_all)
    | exact rt1 () (vN (by unfold Bare names; simp_all))

theorem call_spec (cs : List Value) (v : RtView) : Does Try.prog 82 [.agg cs.toArray] [Ag tyRtView cs v] []
    (fun _ : Unit => .bool (decide (CallOk v.t v.u v.i))) (fun _ => []) (fun _ => []) := by
  refine enter Try.func82 rfl Try.ntmps82 rfl fun b => ?_
  by_cases h1 : v.i.c < 0
  · have e : ¬ CallOk v.t v.u v.i := by unfold CallOk; rw [gt_out (.inl h1)]; exact id
    refine GX.wR ?_; intros
    exact rt1 () (vN e)
  by_cases h2 : (v.t.units.length : Int) ≤ v.i.c
  · have e : ¬ CallOk v.t v.u v.i := by unfold CallOk; rw [gt_out (.inr h2)]; exact id
    refine GX.wR ?_; intros
    exact rt1 () (vN e)
  obtain ⟨g, hg, k, hk, hkl, hg2⟩ := gt_in (l := v.t.units) (n := v.i.c) ⟨by omega, by omega⟩
  have e : CallOk v.t v.u v.i ↔ ((v.i.args.length : Int) = g.params ∧ g.params ≤ (g.vars.length : Int) ∧ (∀ p ∈ v.i.args.zip g.vars, Into p.2 (RtM.of v.u p.1))) ∧ (v.i.a = -1 ∨ Into (RtM.of v.u v.i.a) g.result) := by unfold CallOk; rw [hg]
  by_cases h3 : (v.i.args.length : Int) = g.params
  · by_cases h4 : (g.vars.length : Int) < g.params
    · refine GX.wR ?_; intros
      exact rt1 () (vN fun h => by have := (e.1 h).1.2.1; omega)
    · refine GX.wR ?_; intros
      refine GX.nmP 1 ?_; rintro b1 rfl
      refine GX.nmP 3 ?_; rintro b3 rfl
      refine GX.nmP 4 ?_; rintro b4 rfl
      refine frzB b3 ?_
      refine frzB b4 ?_
      refine GX.nmS 43 ?_; rintro aA cA rfl rfl
      refine GX.loop (σ := Nat) (fun i => [(1, .pointer (some ⟨b1, 0, none⟩)), (3, .pointer (some ⟨b3, 0, none⟩)), (4, .pointer (some ⟨b4, 0, none⟩)), (43, .slice aA v.i.args.length cA), (44, .int .i64 (v.i.args.length : Int)), (45, .int .i64 (i : Int))]) (fun _ => []) (fun _ => [])
        (fun i => i ≤ v.i.args.length ∧ ∀ p ∈ (v.i.args.zip g.vars).take i, Into p.2 (RtM.of v.u p.1)) (fun i => v.i.args.length - i) 0 ⟨rfl, rfl, rfl, rfl, rfl, rfl, trivial⟩ ⟨by omega, by simp⟩ (fun i hi => ?_)
      obtain ⟨hi, hA⟩ := hi
      have hzl : (v.i.args.zip g.vars).length = v.i.args.length := by rw [List.length_zip]; omega
      by_cases hlt : i < v.i.args.length
      · obtain ⟨a, ha⟩ := get_lt hlt
        obtain ⟨w, hw⟩ := get_lt (show i < g.vars.length by omega)
        have hz : (v.i.args.zip g.vars)[i]? = some (a, w) := by rw [List.getElem?_zip_eq_some]; exact ⟨ha, hw⟩
        refine GX.wR ?_; intros
        refine GX.drawn0  (fun j => !(List.contains [8] j)) [(0, true), (1, true), (2, true), (3, true), (4, true), (5, true), (6, true), (7, false), (8, false), (9, true)] rfl (by kernel_rfl) (by kernel_rfl) (by first | ((repeat (first | apply Go.GX.SelR.nil | apply Go.GX.SelR.cons | (with_reducible apply Go.GX.TakeR.head) | apply Go.GX.TakeR.tail)); done) | (repeat (first | apply Go.GX.SelR.nil | apply Go.GX.SelR.cons | apply Go.GX.TakeR.head | apply Go.GX.TakeR.tail))) ?_; intro wd F hW hR
        refine GX.wT ?_; intros
        refine GX.gow ?_
        refine (cl (of_spec _ v a) fun _ => ?_)
        refine GX.wT ?_; intros
        refine GX.gow ?_
        refine (cl (into_spec w _) fun _ => ?_)
        refine GX.wT ?_; intros
        by_cases h5 : Into w (RtM.of v.u a)
        · have h5' := Classical.not_not.2 h5
          refine GX.wR ?_; intros
          refine again (i + 1) ⟨rfl, rfl, rfl, rfl, rfl, rfl, trivial⟩ ⟨by omega, fun p hp => ?_⟩ (by omega)
          rw [List.take_add_one, hz, List.mem_append] at hp
          rcases hp with hp | hp
          · exact hA p hp
          · simp at hp; subst hp; exact h5
        · refine GX.wR ?_; intros
          exact rt1 () (vN fun h => h5 ((e.1 h).1.2.2 (a, w) (List.mem_of_getElem? hz)))
      · rw [List.take_of_length_le (by omega)] at hA
        by_cases h5 : v.i.a = -1
        · refine GX.wR ?_; intros
          refine GX.drawn0  (fun j => !(List.contains [10] j)) [(0, true), (1, true), (2, true), (3, true), (4, true), (5, true), (6, true), (8, true), (9, true), (7, false), (10, false), (11, true), (12, true)] rfl (by kernel_rfl) (by kernel_rfl) (by first | ((repeat (first | apply Go.GX.SelR.nil | apply Go.GX.SelR.cons | (with_reducible apply Go.GX.TakeR.head) | apply Go.GX.TakeR.tail)); done) | (repeat (first | apply Go.GX.SelR.nil | apply Go.GX.SelR.cons | apply Go.GX.TakeR.head | apply Go.GX.TakeR.tail))) ?_; intro wd F hW hR
          refine GX.wT ?_; intros
          refine GX.wR ?_; intros
          exact rt1 () (vY (e.2 ⟨⟨h3, by omega, hA⟩, .inl h5⟩))
        · refine GX.wR ?_; intros
          refine GX.drawn0  (fun j => !(List.contains [10] j)) [(0, true), (1, true), (2, true), (3, true), (4, true), (5, true), (6, true), (8, true), (9, true), (7, false), (10, false), (11, true), (12, true)] rfl (by kernel_rfl) (by kernel_rfl) (by first | ((repeat (first | apply Go.GX.SelR.nil | apply Go.GX.SelR.cons | (with_reducible apply Go.GX.TakeR.head) | apply Go.GX.TakeR.tail)); done) | (repeat (first | apply Go.GX.SelR.nil | apply Go.GX.SelR.cons | apply Go.GX.TakeR.head | apply Go.GX.TakeR.tail))) ?_; intro wd F hW hR
          refine GX.wT ?_; intros
          refine GX.gow ?_
          refine (cl (of_spec _ v _) fun _ => ?_)
          refine GX.wT ?_; intros
          refine GX.gow ?_
          refine (cl (into_spec _ g.result) fun _ => ?_)
          refine GX.wT ?_; intros
          refine GX.wR ?_; intros
          exact rt1 () (vI (e.trans ⟨fun h => h.2.elim (fun h => absurd h h5) id, fun h => ⟨⟨h3, by omega, hA⟩, .inr h⟩⟩))
  · refine GX.wR ?_; intros
    exact rt1 () (vN fun h => h3 (e.1 h).1.1)

theorem goes1_spec (bl : Nat) (v : RtView) (n : Int) : Does Try.prog 84 [.int .i64 n, .pointer (some ⟨bl, 0, none⟩)] [Pt tyRtView bl 0 v] [] (fun _ : Unit => .bool (decide (n ∈ v.u.owns))) (fun _ => []) (fun _ => []) := by
  refine enter Try.func84 rfl Try.ntmps84 rfl fun b => ?_
  refine GX.wR ?_; intros
  refine GX.nmS 6 ?_; rintro ao cap rfl rfl
  refine GX.o (cl (contains_spec ao cap v.u.owns n) fun _ => ?_)
  refine GX.wR ?_; intros
  exact rt1 () rfl
end Go.Proofs.Ytfhbainbmipddaa
