import Derived.Test.YtomfpmbapdhbgaaGreatP18
import Derived.Test.YtomfpmbapdhbgaaGreatP24
import Derived.Test.YtomfpmbapdhbgaaGreatP29
/- The walks over Out, call and named of the reference of chapter 26. -/
namespace Go.Proofs.YtomfpmbapdhbgaaGreat
open Go Go.RR Go.RX Go.GX Go.Api Go.RiseM Go.ReachM Go.RtM
attribute [local irreducible] wpList Code.wp wpPlan Exit.then Exit.inBlock bodyPost NoPanic Went GX.Post GX.Again GX.Meet GX.RowR GX.Own GX.Owns GX.Box GX.Sl GX.Pt GX.Ag GX.MapR GX.Kept GX.Pin wpT GoK AtEnd Both

/-- The roots as the reference gathers them. -/
def rootsTo (u : Unt) (i : Nat) : List Int := u.result :: u.vars.take i
theorem rootsTo_len (u : Unt) (i : Nat) : (rootsTo u i).length ≤ u.vars.length + 1 := by unfold rootsTo; rw [List.length_cons, List.length_take]; omega
theorem outOf_minus (t : RTg) (u : Unt) : minus (fromL (flds t) (rootsTo u (pars u))) (glob t) = outOf t u := by
  unfold minus outOf
  rw [fromL_congr (f := flds t) (r := rootsTo u (pars u)) (s := roots u)]
  intro x
  unfold rootsTo roots
  simp only [List.mem_cons, List.mem_append, List.not_mem_nil, or_false]
  exact ⟨fun h => h.elim .inr .inl, fun h => h.elim .inr .inl⟩
theorem rout_spec (cs : List Value) (t : RTg) (hs : Small t) (k : Int) : Does Tryz.prog 30 [.agg cs.toArray, .int .i64 k] [Ag tyRTg cs t] []
    (fun s : Option Addr × Nat => .slice s.1 (out t k).length s.2) (fun s => [Sl Ty.int s.1 s.2 (out t k)]) (fun _ => []) := by
  by_cases h1 : k < 0
  · rw [out_none (.inl h1)]
    refine enter Tryz.func30 rfl Tryz.ntmps30 rfl fun b => ?_
    refine GX.wR ?_; intros
    refine slNil Ty.int ?_
    exact rt1 (none, 0) rfl
  by_cases h2 : (t.units.length : Int) ≤ k
  · rw [out_none (.inr h2)]
    refine enter Tryz.func30 rfl Tryz.ntmps30 rfl fun b => ?_
    refine GX.wR ?_; intros
    refine slNil Ty.int ?_
    exact rt1 (none, 0) rfl
  obtain ⟨k, rfl⟩ := Int.eq_ofNat_of_zero_le (show 0 ≤ k by omega)
  obtain ⟨u, hu⟩ := get_lt (show k < t.units.length by omega)
  rw [out_some hu]
  have hc := hs.classes
  have hfl := flds_len t
  have hp := pars_le u
  have hul := (hs.unit u (List.mem_of_getElem? hu)).1
  have hpe : ((pars u : Nat) : Int) = min (max u.params 0) (u.vars.length : Int) := by unfold pars; omega
  refine enter Tryz.func30 rfl Tryz.ntmps30 rfl fun b => ?_
  refine GX.wRO ?_; intros
  refine GX.nmP 2 ?_; rintro b2 rfl
  refine GX.nmP 5 ?_; rintro b5 rfl
  refine GX.nmB 6 ?_; rintro b6 rfl
  refine frzB b5 ?_
  refine GX.loop (σ := Nat × Option Addr × Nat) (fun s => [(1, .int .i64 (k : Int)), (2, .pointer (some ⟨b2, 0, none⟩)), (5, .pointer (some ⟨b5, 0, none⟩)), (6, .slice s.2.1 (rootsTo u s.1).length s.2.2), (7, .int .i64 (s.1 : Int))]) (fun _ => [])
    (fun s => [GX.Own 3 Ty.int s.2.1 s.2.2 (rootsTo u s.1)]) (fun s => s.1 ≤ pars u) (fun s => pars u - s.1) (0, some ⟨b6, 0, none⟩, 1) ⟨rfl, rfl, rfl, rfl, rfl, trivial⟩ (by simp) (fun s hs2 => ?_)
  obtain ⟨i, aL, cL⟩ := s
  dsimp only at *
  have hrl := rootsTo_len u i
  by_cases hlt : i < pars u
  · obtain ⟨x, hx⟩ := get_lt (show i < u.vars.length by omega)
    have e : rootsTo u i ++ [x] = rootsTo u (i + 1) := by unfold rootsTo; rw [List.take_add_one, hx]; rfl
    refine GX.wR ?_; intros
    rw [e]
    refine GX.nmS 6 ?_; rintro a6 c6 rfl rfl
    refine GX.wR ?_; intros
    exact again (i + 1, a6, c6) ⟨rfl, rfl, rfl, rfl, rfl, trivial⟩ (by dsimp only; omega) (by dsimp only; omega)
  · have hip : i = pars u := by omega
    subst hip
    refine frz aL ?_
    by_cases h3 : ((pars u : Nat) : Int) < u.params
    · refine GX.wR ?_; intros
      refine GX.drawn0  (fun j => !(List.contains [5, 6] j)) [(0, true), (2, true), (4, true), (1, false), (3, false), (5, false), (6, false), (7, true)] rfl (by kernel_rfl) (by kernel_rfl) (by first | ((repeat (first | apply Go.GX.SelR.nil | apply Go.GX.SelR.cons | (with_reducible apply Go.GX.TakeR.head) | apply Go.GX.TakeR.tail)); done) | (repeat (first | apply Go.GX.SelR.nil | apply Go.GX.SelR.cons | apply Go.GX.TakeR.head | apply Go.GX.TakeR.tail))) ?_; intro wd F hW hR
      refine GX.wT ?_; intros
      refine GX.gow ?_
      refine (cl (rfields_spec _ t hs) fun s => ?_)
      obtain ⟨aF, cF⟩ := s
      dsimp only
      refine GX.wT ?_; intros
      refine GX.gow ?_
      refine (cl (rfrom_spec aF aL cF cL (flds t) (rootsTo u (pars u)) (by omega)) fun s => ?_)
      obtain ⟨aR, cR⟩ := s
      dsimp only
      refine frz aR ?_
      refine GX.wT ?_; intros
      refine GX.gow ?_
      refine (cl (rglobal_spec _ t hs) fun s => ?_)
      obtain ⟨aG, cG⟩ := s
      dsimp only
      refine GX.wT ?_; intros
      refine GX.gow ?_
      refine (cl (minus_spec aR aG cR cG (fromL (flds t) (rootsTo u (pars u))) (glob t) (by have := fromL_len (flds t) (rootsTo u (pars u)); omega)) fun s => ?_)
      obtain ⟨aM, cM⟩ := s
      dsimp only
      rw [outOf_minus]
      refine GX.wT ?_; intros
      refine GX.wR ?_; intros
      refine frz aM ?_
      exact rt1 (aM, cM) rfl
    · refine GX.wR ?_; intros
      refine GX.drawn0  (fun j => !(List.contains [5, 6] j)) [(0, true), (2, true), (4, true), (1, false), (3, false), (5, false), (6, false), (7, true)] rfl (by kernel_rfl) (by kernel_rfl) (by first | ((repeat (first | apply Go.GX.SelR.nil | apply Go.GX.SelR.cons | (with_reducible apply Go.GX.TakeR.head) | apply Go.GX.TakeR.tail)); done) | (repeat (first | apply Go.GX.SelR.nil | apply Go.GX.SelR.cons | apply Go.GX.TakeR.head | apply Go.GX.TakeR.tail))) ?_; intro wd F hW hR
      refine GX.wT ?_; intros
      refine GX.gow ?_
      refine (cl (rfields_spec _ t hs) fun s => ?_)
      obtain ⟨aF, cF⟩ := s
      dsimp only
      refine GX.wT ?_; intros
      refine GX.gow ?_
      refine (cl (rfrom_spec aF aL cF cL (flds t) (rootsTo u (pars u)) (by omega)) fun s => ?_)
      obtain ⟨aR, cR⟩ := s
      dsimp only
      refine frz aR ?_
      refine GX.wT ?_; intros
      refine GX.gow ?_
      refine (cl (rglobal_spec _ t hs) fun s => ?_)
      obtain ⟨aG, cG⟩ := s
      dsimp only
      refine GX.wT ?_; intros
      refine GX.gow ?_
      refine (cl (minus_spec aR aG cR cG (fromL (flds t) (rootsTo u (pars u))) (glob t) (by have := fromL_len (flds t) (rootsTo u (pars u)); omega)) fun s => ?_)
      obtain ⟨aM, cM⟩ := s
      dsimp only
      rw [outOf_minus]
      refine GX.wT ?_; intros
      refine GX.wR ?_; intros
      refine frz aM ?_
      exact rt1 (aM, cM) rfl

theorem rcall_spec (c1 c2 c3 : List Value) (t : RTg) (u : Unt) (i : Ins) : Does Tryz.prog 43 [.agg c1.toArray, .agg c2.toArray, .agg c3.toArray] [Ag tyRTg c1 t, Ag tyUnt c2 u, Ag tyIns c3 i] []
    (fun _ : Unit => .bool (decide (RCall t u i))) (fun _ => []) (fun _ => []) := by
  refine enter Tryz.func43 rfl Tryz.ntmps43 rfl fun b => ?_
  by_cases h1 : i.c < 0
  · have e : ¬ RCall t u i := by unfold RCall; rw [gt_out (.inl h1)]; exact id
    refine GX.wR ?_; intros
    exact rt1 () (vN e)
  by_cases h2 : (t.units.length : Int) ≤ i.c
  · have e : ¬ RCall t u i := by unfold RCall; rw [gt_out (.inr h2)]; exact id
    refine GX.wR ?_; intros
    exact rt1 () (vN e)
  obtain ⟨g, hg, k, hk, hkl, hg2⟩ := gt_in (l := t.units) (n := i.c) ⟨by omega, by omega⟩
  have e : RCall t u i ↔ (0 ≤ g.params ∧ g.params ≤ (g.vars.length : Int) ∧ (i.args.length : Int) = g.params ∧ (∀ p ∈ i.args.zip g.vars, rof u p.1 ≠ -4 ∧ RInto p.2 (rof u p.1))) ∧ (i.a = -1 ∨ rof u i.a ≠ -4 ∧ g.result ≠ -3 ∧ RInto (rof u i.a) g.result) := by unfold RCall; rw [hg]
  by_cases h3 : g.params < 0
  · refine GX.wR ?_; intros
    exact rt1 () (vN fun h => by have := (e.1 h).1.1; omega)
  by_cases h4 : (g.vars.length : Int) < g.params
  · refine GX.wR ?_; intros
    exact rt1 () (vN fun h => by have := (e.1 h).1.2.1; omega)
  by_cases h5 : (i.args.length : Int) = g.params
  · refine GX.wR ?_; intros
    refine GX.nmP 4 ?_; rintro b4 rfl
    refine GX.nmP 5 ?_; rintro b5 rfl
    refine GX.nmP 7 ?_; rintro b7 rfl
    refine frzB b7 ?_
    refine GX.loop (σ := Nat) (fun k => [(4, .pointer (some ⟨b4, 0, none⟩)), (5, .pointer (some ⟨b5, 0, none⟩)), (7, .pointer (some ⟨b7, 0, none⟩)), (8, .int .i64 (k : Int))]) (fun _ => []) (fun _ => [])
      (fun k => k ≤ i.args.length ∧ ∀ p ∈ (i.args.zip g.vars).take k, rof u p.1 ≠ -4 ∧ RInto p.2 (rof u p.1)) (fun k => i.args.length - k) 0 ⟨rfl, rfl, rfl, rfl, trivial⟩ ⟨by omega, by simp⟩ (fun k hk => ?_)
    obtain ⟨hk, hA⟩ := hk
    have hzl : (i.args.zip g.vars).length = i.args.length := by rw [List.length_zip]; omega
    by_cases hlt : k < i.args.length
    · obtain ⟨a, ha⟩ := get_lt hlt
      obtain ⟨w, hw⟩ := get_lt (show k < g.vars.length by omega)
      have hz : (i.args.zip g.vars)[k]? = some (a, w) := by rw [List.getElem?_zip_eq_some]; exact ⟨ha, hw⟩
      refine GX.wR ?_; intros
      refine GX.drawn0  (fun j => !(List.contains [6] j)) [(0, true), (1, true), (2, true), (3, true), (4, true), (5, true), (6, false), (7, true)] rfl (by kernel_rfl) (by kernel_rfl) (by first | ((repeat (first | apply Go.GX.SelR.nil | apply Go.GX.SelR.cons | (with_reducible apply Go.GX.TakeR.head) | apply Go.GX.TakeR.tail)); done) | (repeat (first | apply Go.GX.SelR.nil | apply Go.GX.SelR.cons | apply Go.GX.TakeR.head | apply Go.GX.TakeR.tail))) ?_; intro wd F hW hR
      refine GX.wT ?_; intros
      refine GX.gow ?_
      refine (cl (rof_spec _ u a) fun _ => ?_)
      refine GX.wT ?_; intros
      by_cases h6 : rof u a = -4
      · refine GX.wR ?_; intros
        exact rt1 () (vN fun h => ((e.1 h).1.2.2.2 (a, w) (List.mem_of_getElem? hz)).1 h6)
      · refine GX.wR ?_; intros
        refine GX.o (cl (rinto_spec w _) fun _ => ?_)
        by_cases h7 : RInto w (rof u a)
        · have h7' := Classical.not_not.2 h7
          refine GX.wR ?_; intros
          refine again (k + 1) ⟨rfl, rfl, rfl, rfl, trivial⟩ ⟨by omega, fun p hp => ?_⟩ (by omega)
          rw [List.take_add_one, hz, List.mem_append] at hp
          rcases hp with hp | hp
          · exact hA p hp
          · simp at hp; subst hp; exact ⟨h6, h7⟩
        · refine GX.wR ?_; intros
          exact rt1 () (vN fun h => h7 ((e.1 h).1.2.2.2 (a, w) (List.mem_of_getElem? hz)).2)
    · rw [List.take_of_length_le (by omega)] at hA
      have hh : 0 ≤ g.params ∧ g.params ≤ (g.vars.length : Int) ∧ (i.args.length : Int) = g.params ∧ (∀ p ∈ i.args.zip g.vars, rof u p.1 ≠ -4 ∧ RInto p.2 (rof u p.1)) := ⟨by omega, by omega, h5, hA⟩
      by_cases h6 : i.a = -1
      · refine GX.wR ?_; intros
        exact rt1 () (vY (e.2 ⟨hh, .inl h6⟩))
      · refine GX.wR ?_; intros
        refine GX.o (cl (rof_spec _ u _) fun _ => ?_)
        by_cases h7 : rof u i.a = -4
        · refine GX.wR ?_; intros
          exact rt1 () (vN fun h => (e.1 h).2.elim h6 (fun h => h.1 h7))
        · by_cases h8 : g.result = -3
          · refine GX.wR ?_; intros
            exact rt1 () (vN fun h => (e.1 h).2.elim h6 (fun h => h.2.1 h8))
          · refine GX.wR ?_; intros
            refine GX.o (cl (rinto_spec _ g.result) fun _ => ?_)
            refine GX.wR ?_; intros
            exact rt1 () (vI (e.trans ⟨fun h => h.2.elim (fun h => absurd h h6) (fun h => h.2.2), fun h => ⟨hh, .inr ⟨h7, h8, h⟩⟩⟩))
  · refine GX.wR ?_; intros
    exact rt1 () (vN fun h => h5 (e.1 h).1.2.2.1)
set_option maxHeartbeats 2000000 in
theorem named_spec (cs : List Value) (i : Ins) : Does Tryz.prog 37 [.agg cs.toArray] [Ag tyIns cs i] []
    (fun _ : Unit => .bool (decide (Named i))) (fun _ => []) (fun _ => []) := by
  refine enter Tryz.func37 rfl Tryz.ntmps37 rfl fun b => ?_
  refine GX.wRB ?_; intros
  refine GX.nmP 1 ?_; rintro b1 rfl
  refine GX.cut (σ := Unit) (fun _ => [(1, .pointer (some ⟨b1, 0, none⟩)), (3, .bool (rnames i.op).2.1), (4, .bool (rnames i.op).2.2.1), (5, .bool (rnames i.op).2.2.2.1), (6, .bool (rnames i.op).2.2.2.2), (7, .bool (rnames i.op).1)]) (fun _ => []) (fun _ => []) (fun _ => True) ?_ (fun _ _ => ?_)
  · repeat' (first | (apply GX.s_list; first | apply GX.nil | (refine GX.o ?_; first | (apply GX.k_load; first | refine GX.lr ?_ | refine GX.lrA ?_ | refine GX.ln ?_ | refine GX.lb ?_ | refine GX.lh ?_ | (refine GX.ls ?_; intro ao cap _ _) | (refine GX.lA ?_; intro cs) | (refine GX.l0 ?_; intro cs) | refine GX.o1n ?_ | refine GX.o1b ?_ | refine GX.o1h ?_ | (refine GX.o1s ?_; intro ao cap _ _) | refine GX.omn ?_ | refine GX.omb ?_ | refine GX.omh ?_ | (refine GX.oms ?_; intro ao cap _ _) | refine GX.ofn ?_ | refine GX.ofb ?_ | refine GX.ofh ?_ | (refine GX.ofs ?_; intro ao cap _ _) | (refine GX.oA ?_; intro cs)) | (apply GX.k_move; refine GX.m ?_) | (apply GX.k_assign; refine GX.a ?_) | (apply GX.k_fieldAddr; first | refine GX.f0 ?_ | refine GX.fh ?_ | refine GX.fa ?_) | (apply GX.k_call; refine GX.c_len ?_) | (apply GX.k_pick; first | refine GX.pt ?_ | refine GX.pf ?_ | refine GX.pk ?_) | (apply GX.k_box; first | (refine GX.bxF ?_; intro _) | (refine GX.bxR ?_; intro _)) | (apply GX.k_binOp_eql; first | refine GX.b_eql ?_ | refine GX.b_pn ?_ | refine GX.b_nn ?_ | refine GX.b_snn ?_ | refine GX.b_sns ?_ | refine GX.b_eqls ?_ | refine GX.b_eqltf ?_ | refine GX.b_eqlft ?_ | refine GX.b_eqlb ?_)) | refine GX.gt ?_ | refine GX.gf ?_ | refine GX.gbt ?_ | refine GX.gbf ?_ | refine GX.un ?_ | refine GX.un0 ?_ | (refine GX.gs ?_ ?_ <;> intro _) | (refine GX.gsb ?_ ?_ <;> intro _)) | apply GX.then_normal | apply GX.seq | apply GX.region | (apply GX.s_cond; first | refine GX.ct ?_ | refine GX.cf ?_ | refine GX.cdf ?_ | refine GX.cdt ?_ | refine GX.cbt ?_ | refine GX.cbf ?_ | (refine GX.cs ?_ ?_ <;> intro _) | (refine GX.csb ?_ ?_ <;> intro _)) | apply GX.skip | apply GX.block | apply GX.inBlock_normal | apply GX.exit | apply GX.then_exit | apply GX.inBlock_exit | refine GX.ibo ?_ | apply GX.ret | apply GX.then_ret | apply GX.inBlock_ret)
    all_goals refine meet () ⟨rfl, (rfl : RX.lk _ 3 = some (.bool _)).trans ?_, (rfl : RX.lk _ 4 = some (.bool _)).trans ?_, (rfl : RX.lk _ 5 = some (.bool _)).trans ?_, (rfl : RX.lk _ 6 = some (.bool _)).trans ?_, (rfl : RX.lk _ 7 = some (.bool _)).trans ?_, trivial⟩ trivial
    all_goals (unfold rnames; simp_all)
  · have e : Named i ↔ Only i (rnames i.op).1 (rnames i.op).2.1 (rnames i.op).2.2.1 (rnames i.op).2.2.2.1 (rnames i.op).2.2.2.2 := Iff.rfl
    generalize rnames i.op = x at *
    obtain ⟨a, c, d, n, g⟩ := x
    dsimp only at *
    have eg : (i.args.length : Int) = 0 ↔ i.args = [] := by rw [← List.length_eq_zero_iff]; omega
    repeat' (first | (apply GX.s_list; first | apply GX.nil | (refine GX.o ?_; first | (apply GX.k_load; first | refine GX.lr ?_ | refine GX.lrA ?_ | refine GX.ln ?_ | refine GX.lb ?_ | refine GX.lh ?_ | (refine GX.ls ?_; intro ao cap _ _) | (refine GX.lA ?_; intro cs) | (refine GX.l0 ?_; intro cs) | refine GX.o1n ?_ | refine GX.o1b ?_ | refine GX.o1h ?_ | (refine GX.o1s ?_; intro ao cap _ _) | refine GX.omn ?_ | refine GX.omb ?_ | refine GX.omh ?_ | (refine GX.oms ?_; intro ao cap _ _) | refine GX.ofn ?_ | refine GX.ofb ?_ | refine GX.ofh ?_ | (refine GX.ofs ?_; intro ao cap _ _) | (refine GX.oA ?_; intro cs)) | (apply GX.k_move; refine GX.m ?_) | (apply GX.k_assign; refine GX.a ?_) | (apply GX.k_fieldAddr; first | refine GX.f0 ?_ | refine GX.fh ?_ | refine GX.fa ?_) | (apply GX.k_call; refine GX.c_len ?_) | (apply GX.k_pick; first | refine GX.pt ?_ | refine GX.pf ?_ | refine GX.pk ?_) | (apply GX.k_box; first | (refine GX.bxF ?_; intro _) | (refine GX.bxR ?_; intro _)) | (apply GX.k_binOp_eql; first | refine GX.b_eql ?_ | refine GX.b_pn ?_ | refine GX.b_nn ?_ | refine GX.b_snn ?_ | refine GX.b_sns ?_ | refine GX.b_eqls ?_ | refine GX.b_eqltf ?_ | refine GX.b_eqlft ?_ | refine GX.b_eqlb ?_)) | refine GX.gt ?_ | refine GX.gf ?_ | refine GX.gbt ?_ | refine GX.gbf ?_ | refine GX.un ?_ | refine GX.un0 ?_ | (refine GX.gs ?_ ?_ <;> intro _) | (refine GX.gsb ?_ ?_ <;> intro _)) | apply GX.then_normal | apply GX.seq | apply GX.region | (apply GX.s_cond; first | refine GX.ct ?_ | refine GX.cf ?_ | refine GX.cdf ?_ | refine GX.cdt ?_ | refine GX.cbt ?_ | refine GX.cbf ?_ | (refine GX.cs ?_ ?_ <;> intro _) | (refine GX.csb ?_ ?_ <;> intro _)) | apply GX.skip | apply GX.block | apply GX.inBlock_normal | apply GX.exit | apply GX.then_exit | apply GX.inBlock_exit | refine GX.ibo ?_ | apply GX.ret | apply GX.then_ret | apply GX.inBlock_ret)
    all_goals first
      | exact rt1 () (vI (Q := ((i.args.length : Int) = 0)) (e.trans (by unfold Only; simp_all)))
      | exact rt1 () (vY (e.2 (by unfold Only; simp_all)))
      | exact rt1 () (vN (fun h => absurd (e.1 h) (by unfold Only; simp_all)))
end Go.Proofs.YtomfpmbapdhbgaaGreat

/- The walks over the reference's sight and closed of chapter 28. -/
namespace Go.Proofs.YtomfpmbapdhbgaaGreat
open Go Go.RR Go.RX Go.GX Go.Api Go.RiseM Go.ReachM Go.RtM Go.LivM
attribute [local irreducible] wpList Code.wp wpPlan Exit.then Exit.inBlock bodyPost NoPanic Went GX.Post GX.Again GX.Meet GX.RowR GX.Own GX.Owns GX.Box GX.Sl GX.Pt GX.Ag GX.MapR GX.Kept GX.Pin wpT GoK AtEnd Both
/-- Where a walker's parts lie. -/
structure WV where
  aC : Option Addr
  cC : Nat
  aG : Option Addr
  cG : Nat
  aU : Option Addr
  cU : Nat
  aL : Option Addr
  cL : Nat
  aO : Option Addr
  cO : Nat
  aX : Option Addr
  cX : Nat
noncomputable def sightL (t : RTg) (k : Int) (L : List Int) : List Int := puts (puts (glob t ++ out t k) ++ L)
theorem sight_mem {t : RTg} {k : Int} {L : List Int} {c : Int} : c ∈ sightL t k L ↔ GuaM.Seen t k L c := by
  unfold sightL GuaM.Seen
  rw [(puts_spec _).2, List.mem_append, (puts_spec _).2, List.mem_append, or_assoc]
theorem rsight_spec (bl : Nat) (v : WV) (t : RTg) (k : Int) (w : Value) (a : Option Addr) (cp : Nat) (L : List Int) (hg : (glob t).length ≤ 20000) (ho : (out t k).length ≤ 20000) (hL : L.length ≤ 20000) : Does Tryz.prog 98 [.pointer (some ⟨bl, 0, none⟩), .slice a L.length cp]
    [Sl Ty.int a cp L, Sl tyLayout v.aC v.cC t.classes, Sl Ty.int v.aG v.cG t.globals, Sl tyUnt v.aU v.cU t.units, Sl Ty.int v.aL v.cL (glob t), Sl Ty.int v.aO v.cO (out t k), Sl (Ty.slice Ty.int) v.aX v.cX (outs t)] [RowR bl 69 [.slice v.aC t.classes.length v.cC, .slice v.aG t.globals.length v.cG, .slice v.aU t.units.length v.cU, .int .i64 t.main, .int .i64 k, .slice v.aL (glob t).length v.cL, .slice v.aO (out t k).length v.cO, .slice v.aX (outs t).length v.cX, w]] (fun s : Option Addr × Nat => .slice s.1 (sightL t k L).length s.2) (fun s => [Sl Ty.int s.1 s.2 (sightL t k L)]) (fun _ => [RowR bl 69 [.slice v.aC t.classes.length v.cC, .slice v.aG t.globals.length v.cG, .slice v.aU t.units.length v.cU, .int .i64 t.main, .int .i64 k, .slice v.aL (glob t).length v.cL, .slice v.aO (out t k).length v.cO, .slice v.aX (outs t).length v.cX, w]]) := by
  refine enter Tryz.func98 rfl Tryz.ntmps98 rfl fun b => ?_
  have hp := puts_le' (glob t ++ out t k)
  rw [List.length_append] at hp
  refine GX.wR ?_; intros
  refine GX.drawn1 (RowR bl 69 [.slice v.aC t.classes.length v.cC, .slice v.aG t.globals.length v.cG, .slice v.aU t.units.length v.cU, .int .i64 t.main, .int .i64 k, .slice v.aL (glob t).length v.cL, .slice v.aO (out t k).length v.cO, .slice v.aX (outs t).length v.cX, w]) (fun j => !(List.contains [8, 10] j)) [(0, true), (1, true), (2, true), (3, true), (4, true), (5, true), (6, true), (7, true), (9, true), (8, false), (10, false), (11, true)] rfl (by kernel_rfl) (by kernel_rfl) (by first | ((repeat (first | apply Go.GX.SelR.nil | apply Go.GX.SelR.cons | (with_reducible apply Go.GX.TakeR.head) | apply Go.GX.TakeR.tail)); done) | (repeat (first | apply Go.GX.SelR.nil | apply Go.GX.SelR.cons | apply Go.GX.TakeR.head | apply Go.GX.TakeR.tail))) ?_; intro wd F hW hR
  refine GX.wT ?_; intros
  refine GX.gow ?_
  refine (cl (rboth_spec v.aL v.aO v.cL v.cO (glob t) (out t k) (by omega) (by omega)) fun s => ?_)
  obtain ⟨a3, c3⟩ := s
  dsimp only
  refine GX.wT ?_; intros
  refine GX.gow ?_
  refine (cl (rboth_spec a3 a c3 cp (puts (glob t ++ out t k)) L (by omega) (by omega)) fun s => ?_)
  obtain ⟨a4, c4⟩ := s
  dsimp only
  refine GX.wT ?_; intros
  refine GX.unpin (RowR bl 69 [.slice v.aC t.classes.length v.cC, .slice v.aG t.globals.length v.cG, .slice v.aU t.units.length v.cU, .int .i64 t.main, .int .i64 k, .slice v.aL (glob t).length v.cL, .slice v.aO (out t k).length v.cO, .slice v.aX (outs t).length v.cX, w]) ?_
  refine GX.wR ?_; intros
  exact rt1 (a4, c4) rfl
theorem rclosed_spec (bl : Nat) (v : WV) (t : RTg) (k : Int) (w : Value) (a : Option Addr) (cp : Nat) (L : List Int) (hs : Small t) (hg : (glob t).length ≤ 20000) (ho : (out t k).length ≤ 20000) (hL : L.length ≤ 20000) : Does Tryz.prog 96 [.pointer (some ⟨bl, 0, none⟩), .slice a L.length cp]
    [Sl Ty.int a cp L, Sl tyLayout v.aC v.cC t.classes, Sl Ty.int v.aG v.cG t.globals, Sl tyUnt v.aU v.cU t.units, Sl Ty.int v.aL v.cL (glob t), Sl Ty.int v.aO v.cO (out t k), Sl (Ty.slice Ty.int) v.aX v.cX (outs t)] [RowR bl 69 [.slice v.aC t.classes.length v.cC, .slice v.aG t.globals.length v.cG, .slice v.aU t.units.length v.cU, .int .i64 t.main, .int .i64 k, .slice v.aL (glob t).length v.cL, .slice v.aO (out t k).length v.cO, .slice v.aX (outs t).length v.cX, w]] (fun _ : Unit => .bool (decide (GuaM.Closed t k L))) (fun _ => []) (fun _ => [RowR bl 69 [.slice v.aC t.classes.length v.cC, .slice v.aG t.globals.length v.cG, .slice v.aU t.units.length v.cU, .int .i64 t.main, .int .i64 k, .slice v.aL (glob t).length v.cL, .slice v.aO (out t k).length v.cO, .slice v.aX (outs t).length v.cX, w]]) := by
  refine enter Tryz.func96 rfl Tryz.ntmps96 rfl fun b => ?_
  have hc := hs.classes
  have hfl := flds_len t
  refine GX.wR ?_; intros
  refine GX.o (GX.lrP ?_)
  refine GX.agI (e := tyRTg) (cs := [.slice v.aC t.classes.length v.cC, .slice v.aG t.globals.length v.cG, .slice v.aU t.units.length v.cU, .int .i64 t.main]) (y := ⟨t.classes, t.globals, t.units, t.main⟩) ?_
  refine GX.o (cl (rfields_spec _ t hs) fun s => ?_)
  obtain ⟨a1, c1⟩ := s
  dsimp only
  refine GX.wR ?_; intros
  refine GX.o (cl (rfrom_spec a1 a c1 cp (flds t) L (by omega)) fun s => ?_)
  obtain ⟨a2, c2⟩ := s
  dsimp only
  refine frz a2 ?_
  refine GX.wR ?_; intros
  refine GX.o (cl (rsight_spec bl v t k w a cp L hg ho hL) fun s => ?_)
  obtain ⟨a3, c3⟩ := s
  dsimp only
  refine GX.wR ?_; intros
  refine GX.o (cl (all2_spec a2 a3 c2 c3 (fromL (flds t) L) (sightL t k L)) fun _ => ?_)
  refine GX.wR ?_; intros
  have e : (∀ x ∈ fromL (flds t) L, x ∈ sightL t k L) ↔ GuaM.Closed t k L := ⟨fun h c hc => sight_mem.1 (h c hc), fun h c hc => sight_mem.2 (h c hc)⟩
  exact rt1 () (vI e.symm)
end Go.Proofs.YtomfpmbapdhbgaaGreat
