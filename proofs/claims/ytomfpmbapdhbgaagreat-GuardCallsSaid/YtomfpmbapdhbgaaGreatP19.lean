import Derived.Test.YtomfpmbapdhbgaaGreatP10
import Derived.Test.YtomfpmbapdhbgaaGreatP14
import Derived.Test.YtomfpmbapdhbgaaGreatP15
import Derived.Test.YtomfpmbapdhbgaaGreatP16
/- The walk over Next of package flow. -/
namespace Go.Proofs.YtomfpmbapdhbgaaGreat
open Go Go.RR Go.RX Go.GX Go.Api Go.FlowM Go.RiseM
attribute [local irreducible] wpList Code.wp wpPlan Exit.then Exit.inBlock bodyPost NoPanic Went GX.Post GX.Again GX.Meet GX.RowR GX.Own GX.Owns GX.Box GX.Sl GX.Pt GX.Ag GX.MapR GX.Kept GX.Pin

theorem next1_spec (bl : Nat) (c : Api.Code) (x : Int) : Does Tryz.prog 92 [.int .i64 x, .pointer (some ⟨bl, 0, none⟩)] [Pt tyCode bl 0 c] [] (fun _ : Unit => .bool (decide (¬ In c.ins.length x))) (fun _ => []) (fun _ => []) := by
  refine enter Tryz.func92 rfl Tryz.ntmps92 rfl fun b => ?_
  by_cases h1 : x < 0
  · repeat (first | (apply GX.s_list; first | apply GX.nil | (refine GX.o ?_; first | (apply GX.k_load; first | refine GX.lr ?_ | refine GX.lrA ?_ | refine GX.ln ?_ | refine GX.lb ?_ | refine GX.lh ?_ | (refine GX.ls ?_; intro ao cap _ _) | (refine GX.lA ?_; intro cs) | (refine GX.l0 ?_; intro cs) | refine GX.o1n ?_ | refine GX.o1b ?_ | refine GX.o1h ?_ | (refine GX.o1s ?_; intro ao cap _ _) | refine GX.omn ?_ | refine GX.omb ?_ | refine GX.omh ?_ | (refine GX.oms ?_; intro ao cap _ _) | refine GX.ofn ?_ | refine GX.ofb ?_ | refine GX.ofh ?_ | (refine GX.ofs ?_; intro ao cap _ _) | (refine GX.oA ?_; intro cs)) | (apply GX.k_move; refine GX.m ?_) | (apply GX.k_binOp_lss; refine GX.b_lss ?_) | (apply GX.k_assign; refine GX.a ?_) | (apply GX.k_fieldAddr; first | refine GX.f0 ?_ | refine GX.fh ?_ | refine GX.fa ?_) | (apply GX.k_call; refine GX.c_len ?_) | (apply GX.k_pick; first | refine GX.pt ?_ | refine GX.pf ?_ | refine GX.pk ?_) | (apply GX.k_binOp_geq; refine GX.b_geq ?_)) | refine GX.gt ?_ | refine GX.gf ?_ | refine GX.gbt ?_ | refine GX.gbf ?_ | refine GX.un ?_ | refine GX.un0 ?_) | apply GX.then_normal | apply GX.seq | apply GX.region | (apply GX.s_cond; first | refine GX.ct ?_ | refine GX.cf ?_ | refine GX.cdf ?_ | refine GX.cdt ?_ | refine GX.cbt ?_ | refine GX.cbf ?_) | apply GX.skip | apply GX.block | apply GX.inBlock_normal | apply GX.exit | apply GX.then_exit | apply GX.inBlock_exit | refine GX.ibo ?_ | apply GX.ret | apply GX.then_ret | apply GX.inBlock_ret)
    exact rt1 () (congrArg Value.bool (decide_eq_true fun h => by have := h.1; omega))
  · repeat (first | (apply GX.s_list; first | apply GX.nil | (refine GX.o ?_; first | (apply GX.k_load; first | refine GX.lr ?_ | refine GX.lrA ?_ | refine GX.ln ?_ | refine GX.lb ?_ | refine GX.lh ?_ | (refine GX.ls ?_; intro ao cap _ _) | (refine GX.lA ?_; intro cs) | (refine GX.l0 ?_; intro cs) | refine GX.o1n ?_ | refine GX.o1b ?_ | refine GX.o1h ?_ | (refine GX.o1s ?_; intro ao cap _ _) | refine GX.omn ?_ | refine GX.omb ?_ | refine GX.omh ?_ | (refine GX.oms ?_; intro ao cap _ _) | refine GX.ofn ?_ | refine GX.ofb ?_ | refine GX.ofh ?_ | (refine GX.ofs ?_; intro ao cap _ _) | (refine GX.oA ?_; intro cs)) | (apply GX.k_move; refine GX.m ?_) | (apply GX.k_binOp_lss; refine GX.b_lss ?_) | (apply GX.k_assign; refine GX.a ?_) | (apply GX.k_fieldAddr; first | refine GX.f0 ?_ | refine GX.fh ?_ | refine GX.fa ?_) | (apply GX.k_call; refine GX.c_len ?_) | (apply GX.k_pick; first | refine GX.pt ?_ | refine GX.pf ?_ | refine GX.pk ?_) | (apply GX.k_binOp_geq; refine GX.b_geq ?_)) | refine GX.gt ?_ | refine GX.gf ?_ | refine GX.gbt ?_ | refine GX.gbf ?_ | refine GX.un ?_ | refine GX.un0 ?_) | apply GX.then_normal | apply GX.seq | apply GX.region | (apply GX.s_cond; first | refine GX.ct ?_ | refine GX.cf ?_ | refine GX.cdf ?_ | refine GX.cdt ?_ | refine GX.cbt ?_ | refine GX.cbf ?_) | apply GX.skip | apply GX.block | apply GX.inBlock_normal | apply GX.exit | apply GX.then_exit | apply GX.inBlock_exit | refine GX.ibo ?_ | apply GX.ret | apply GX.then_ret | apply GX.inBlock_ret)
    refine rt1 () (congrArg Value.bool (decide_eq_decide.2 ⟨fun h => ?_, fun h h2 => ?_⟩))
    · have : ¬ x < c.ins.length := fun h2 => h ⟨by omega, h2⟩
      omega
    · have := h2.2; omega

theorem sorted_once {xs : List Int} {n : Nat} : once (sorted (kept (fun y => decide (¬ In n y)) xs xs.length)) = puts (xs.filter fun y => decide (In n y)) := by
  have h1 := sorted_rise (kept (fun y => decide (¬ In n y)) xs xs.length)
  obtain ⟨h2, h3⟩ := compact_rise h1
  obtain ⟨h4, h5⟩ := puts_spec (xs.filter fun y => decide (In n y))
  refine Rise.eq h2 h4 fun x => ?_
  rw [h5]
  show x ∈ Lib.compact _ ↔ _
  rw [h3, sorted_mem]
  unfold kept
  rw [List.take_length, List.mem_filter, List.mem_filter]
  simp

theorem next_spec (cs : List Value) (c : Api.Code) (i : Int) : Does Tryz.prog 61 [.agg cs.toArray, .int .i64 i] [Ag tyCode cs c] []
    (fun s : Option Addr × Nat => .slice s.1 (next c.ins i).length s.2) (fun s => [Sl Ty.int s.1 s.2 (next c.ins i)]) (fun _ => []) := by
  by_cases h1 : i < 0
  · rw [next_none (.inl h1)]
    refine enter Tryz.func61 rfl Tryz.ntmps61 rfl fun b => ?_
    repeat (first | (apply GX.s_list; first | apply GX.nil | (refine GX.o ?_; first | (apply GX.k_load; first | refine GX.lr ?_ | refine GX.lrA ?_ | refine GX.ln ?_ | refine GX.lb ?_ | refine GX.lh ?_ | (refine GX.ls ?_; intro ao cap _ _) | (refine GX.lA ?_; intro cs) | (refine GX.l0 ?_; intro cs) | refine GX.o1n ?_ | refine GX.o1b ?_ | refine GX.o1h ?_ | (refine GX.o1s ?_; intro ao cap _ _) | refine GX.omn ?_ | refine GX.omb ?_ | refine GX.omh ?_ | (refine GX.oms ?_; intro ao cap _ _) | refine GX.ofn ?_ | refine GX.ofb ?_ | refine GX.ofh ?_ | (refine GX.ofs ?_; intro ao cap _ _) | (refine GX.oA ?_; intro cs)) | (apply GX.k_move; refine GX.m ?_) | (apply GX.k_indexAddr; first | refine GX.io1 ?_ | refine GX.ioh ?_ | refine GX.i1 ?_ | refine GX.ih ?_ | (refine GX.ix ?_; intro bl o)) | (apply GX.k_binOp_lss; refine GX.b_lss ?_) | (apply GX.k_binOp_add; first | refine GX.b_inc ?_ | refine GX.b_add ?_ | refine GX.b_addw ?_) | (apply GX.k_assign; refine GX.a ?_) | (apply GX.k_fieldAddr; first | refine GX.f0 ?_ | refine GX.fh ?_ | refine GX.fa ?_) | (apply GX.k_call; refine GX.c_len ?_) | (apply GX.k_pick; first | refine GX.pt ?_ | refine GX.pf ?_ | refine GX.pk ?_) | (apply GX.k_store; first | refine GX.stW ?_ | refine GX.stB ?_ | refine GX.stR ?_ | refine GX.stRW ?_ | refine GX.so1 ?_ | refine GX.som ?_ | refine GX.sof ?_ | refine GX.sog ?_) | (apply GX.k_box; first | (refine GX.bxF ?_; intro _) | (refine GX.bxR ?_; intro _)) | (apply GX.k_buildSlice; (refine GX.sl ?_; intro _)) | (apply GX.k_alloc; (refine GX.al ?_; intro _)) | (apply GX.k_makeFunc; refine GX.mkf ?_) | (apply GX.k_binOp_eql; first | refine GX.b_eql ?_ | refine GX.b_pn ?_ | refine GX.b_nn ?_ | refine GX.b_snn ?_ | refine GX.b_sns ?_ | refine GX.b_eqls ?_ | refine GX.b_eqltf ?_ | refine GX.b_eqlft ?_ | refine GX.b_eqlb ?_) | (apply GX.k_binOp_geq; refine GX.b_geq ?_)) | refine GX.gt ?_ | refine GX.gf ?_ | refine GX.gbt ?_ | refine GX.gbf ?_ | refine GX.un ?_ | refine GX.un0 ?_) | apply GX.then_normal | apply GX.seq | apply GX.region | (apply GX.s_cond; first | refine GX.ct ?_ | refine GX.cf ?_ | refine GX.cdf ?_ | refine GX.cdt ?_ | refine GX.cbt ?_ | refine GX.cbf ?_) | apply GX.skip | apply GX.block | apply GX.inBlock_normal | apply GX.exit | apply GX.then_exit | apply GX.inBlock_exit | refine GX.ibo ?_ | apply GX.ret | apply GX.then_ret | apply GX.inBlock_ret)
    refine slNil Ty.int ?_
    exact rt1 (none, 0) rfl
  by_cases h2 : (c.ins.length : Int) ≤ i
  · rw [next_none (.inr h2)]
    refine enter Tryz.func61 rfl Tryz.ntmps61 rfl fun b => ?_
    repeat (first | (apply GX.s_list; first | apply GX.nil | (refine GX.o ?_; first | (apply GX.k_load; first | refine GX.lr ?_ | refine GX.lrA ?_ | refine GX.ln ?_ | refine GX.lb ?_ | refine GX.lh ?_ | (refine GX.ls ?_; intro ao cap _ _) | (refine GX.lA ?_; intro cs) | (refine GX.l0 ?_; intro cs) | refine GX.o1n ?_ | refine GX.o1b ?_ | refine GX.o1h ?_ | (refine GX.o1s ?_; intro ao cap _ _) | refine GX.omn ?_ | refine GX.omb ?_ | refine GX.omh ?_ | (refine GX.oms ?_; intro ao cap _ _) | refine GX.ofn ?_ | refine GX.ofb ?_ | refine GX.ofh ?_ | (refine GX.ofs ?_; intro ao cap _ _) | (refine GX.oA ?_; intro cs)) | (apply GX.k_move; refine GX.m ?_) | (apply GX.k_indexAddr; first | refine GX.io1 ?_ | refine GX.ioh ?_ | refine GX.i1 ?_ | refine GX.ih ?_ | (refine GX.ix ?_; intro bl o)) | (apply GX.k_binOp_lss; refine GX.b_lss ?_) | (apply GX.k_binOp_add; first | refine GX.b_inc ?_ | refine GX.b_add ?_ | refine GX.b_addw ?_) | (apply GX.k_assign; refine GX.a ?_) | (apply GX.k_fieldAddr; first | refine GX.f0 ?_ | refine GX.fh ?_ | refine GX.fa ?_) | (apply GX.k_call; refine GX.c_len ?_) | (apply GX.k_pick; first | refine GX.pt ?_ | refine GX.pf ?_ | refine GX.pk ?_) | (apply GX.k_store; first | refine GX.stW ?_ | refine GX.stB ?_ | refine GX.stR ?_ | refine GX.stRW ?_ | refine GX.so1 ?_ | refine GX.som ?_ | refine GX.sof ?_ | refine GX.sog ?_) | (apply GX.k_box; first | (refine GX.bxF ?_; intro _) | (refine GX.bxR ?_; intro _)) | (apply GX.k_buildSlice; (refine GX.sl ?_; intro _)) | (apply GX.k_alloc; (refine GX.al ?_; intro _)) | (apply GX.k_makeFunc; refine GX.mkf ?_) | (apply GX.k_binOp_eql; first | refine GX.b_eql ?_ | refine GX.b_pn ?_ | refine GX.b_nn ?_ | refine GX.b_snn ?_ | refine GX.b_sns ?_ | refine GX.b_eqls ?_ | refine GX.b_eqltf ?_ | refine GX.b_eqlft ?_ | refine GX.b_eqlb ?_) | (apply GX.k_binOp_geq; refine GX.b_geq ?_)) | refine GX.gt ?_ | refine GX.gf ?_ | refine GX.gbt ?_ | refine GX.gbf ?_ | refine GX.un ?_ | refine GX.un0 ?_) | apply GX.then_normal | apply GX.seq | apply GX.region | (apply GX.s_cond; first | refine GX.ct ?_ | refine GX.cf ?_ | refine GX.cdf ?_ | refine GX.cdt ?_ | refine GX.cbt ?_ | refine GX.cbf ?_) | apply GX.skip | apply GX.block | apply GX.inBlock_normal | apply GX.exit | apply GX.then_exit | apply GX.inBlock_exit | refine GX.ibo ?_ | apply GX.ret | apply GX.then_ret | apply GX.inBlock_ret)
    refine slNil Ty.int ?_
    exact rt1 (none, 0) rfl
  obtain ⟨k, rfl⟩ : ∃ k : Nat, i = k := ⟨i.toNat, by omega⟩
  obtain ⟨x, hx⟩ := get_lt (show k < c.ins.length by omega)
  rw [next_some hx]
  have h3 : k < c.ins.length := by omega
  refine enter Tryz.func61 rfl Tryz.ntmps61 rfl fun b => ?_
  repeat (first | (apply GX.s_list; first | apply GX.nil | (refine GX.o ?_; first | (apply GX.k_load; first | refine GX.lr ?_ | refine GX.lrA ?_ | refine GX.ln ?_ | refine GX.lb ?_ | refine GX.lh ?_ | (refine GX.ls ?_; intro ao cap _ _) | (refine GX.lA ?_; intro cs) | (refine GX.l0 ?_; intro cs) | refine GX.o1n ?_ | refine GX.o1b ?_ | refine GX.o1h ?_ | (refine GX.o1s ?_; intro ao cap _ _) | refine GX.omn ?_ | refine GX.omb ?_ | refine GX.omh ?_ | (refine GX.oms ?_; intro ao cap _ _) | refine GX.ofn ?_ | refine GX.ofb ?_ | refine GX.ofh ?_ | (refine GX.ofs ?_; intro ao cap _ _) | (refine GX.oA ?_; intro cs)) | (apply GX.k_move; refine GX.m ?_) | (apply GX.k_indexAddr; first | refine GX.io1 ?_ | refine GX.ioh ?_ | refine GX.i1 ?_ | refine GX.ih ?_ | (refine GX.ix ?_; intro bl o)) | (apply GX.k_binOp_lss; refine GX.b_lss ?_) | (apply GX.k_binOp_add; first | refine GX.b_inc ?_ | refine GX.b_add ?_ | refine GX.b_addw ?_) | (apply GX.k_assign; refine GX.a ?_) | (apply GX.k_fieldAddr; first | refine GX.f0 ?_ | refine GX.fh ?_ | refine GX.fa ?_) | (apply GX.k_call; refine GX.c_len ?_) | (apply GX.k_pick; first | refine GX.pt ?_ | refine GX.pf ?_ | refine GX.pk ?_) | (apply GX.k_store; first | refine GX.stW ?_ | refine GX.stB ?_ | refine GX.stR ?_ | refine GX.stRW ?_ | refine GX.so1 ?_ | refine GX.som ?_ | refine GX.sof ?_ | refine GX.sog ?_) | (apply GX.k_box; first | (refine GX.bxF ?_; intro _) | (refine GX.bxR ?_; intro _)) | (apply GX.k_buildSlice; (refine GX.slo ?_; intro _)) | (apply GX.k_alloc; (refine GX.al ?_; intro _)) | (apply GX.k_makeFunc; refine GX.mkf ?_) | (apply GX.k_binOp_eql; first | refine GX.b_eql ?_ | refine GX.b_pn ?_ | refine GX.b_nn ?_ | refine GX.b_snn ?_ | refine GX.b_sns ?_ | refine GX.b_eqls ?_ | refine GX.b_eqltf ?_ | refine GX.b_eqlft ?_ | refine GX.b_eqlb ?_) | (apply GX.k_binOp_geq; refine GX.b_geq ?_)) | refine GX.gt ?_ | refine GX.gf ?_ | refine GX.gbt ?_ | refine GX.gbf ?_ | refine GX.un ?_ | refine GX.un0 ?_) | apply GX.then_normal | apply GX.seq | apply GX.region | (apply GX.s_cond; first | refine GX.ct ?_ | refine GX.cf ?_ | refine GX.cdf ?_ | refine GX.cdt ?_ | refine GX.cbt ?_ | refine GX.cbf ?_) | apply GX.skip | apply GX.inBlock_normal | apply GX.exit | apply GX.then_exit | apply GX.inBlock_exit | refine GX.ibo ?_ | apply GX.ret | apply GX.then_ret | apply GX.inBlock_ret)
  refine GX.nmP 2 ?_; rintro b2 rfl
  refine GX.cut (σ := Nat) (fun s => [(2, .pointer (some ⟨b2, 0, none⟩)), (5, .slice (some ⟨s, 0, none⟩) (targets x k).length (targets x k).length)]) (fun _ => []) (fun s => [GX.Own 3 Ty.int (some ⟨s, 0, none⟩) (targets x k).length (targets x k)]) (fun _ => x.op ≠ 18) ?_ (fun s hs => ?_)
  · by_cases e18 : x.op = 18
    · have e : nextOf x c.ins.length (k : Int) = [] := by unfold nextOf targets; rw [if_pos e18]; rfl
      rw [e]
      repeat (first | (apply GX.s_list; first | apply GX.nil | (refine GX.o ?_; first | (apply GX.k_load; first | refine GX.lr ?_ | refine GX.lrA ?_ | refine GX.ln ?_ | refine GX.lb ?_ | refine GX.lh ?_ | (refine GX.ls ?_; intro ao cap _ _) | (refine GX.lA ?_; intro cs) | (refine GX.l0 ?_; intro cs) | refine GX.o1n ?_ | refine GX.o1b ?_ | refine GX.o1h ?_ | (refine GX.o1s ?_; intro ao cap _ _) | refine GX.omn ?_ | refine GX.omb ?_ | refine GX.omh ?_ | (refine GX.oms ?_; intro ao cap _ _) | refine GX.ofn ?_ | refine GX.ofb ?_ | refine GX.ofh ?_ | (refine GX.ofs ?_; intro ao cap _ _) | (refine GX.oA ?_; intro cs)) | (apply GX.k_move; refine GX.m ?_) | (apply GX.k_indexAddr; first | refine GX.io1 ?_ | refine GX.ioh ?_ | refine GX.i1 ?_ | refine GX.ih ?_ | (refine GX.ix ?_; intro bl o)) | (apply GX.k_binOp_lss; refine GX.b_lss ?_) | (apply GX.k_binOp_add; first | refine GX.b_inc ?_ | refine GX.b_add ?_ | refine GX.b_addw ?_) | (apply GX.k_assign; refine GX.a ?_) | (apply GX.k_fieldAddr; first | refine GX.f0 ?_ | refine GX.fh ?_ | refine GX.fa ?_) | (apply GX.k_call; refine GX.c_len ?_) | (apply GX.k_pick; first | refine GX.pt ?_ | refine GX.pf ?_ | refine GX.pk ?_) | (apply GX.k_store; first | refine GX.stW ?_ | refine GX.stB ?_ | refine GX.stR ?_ | refine GX.stRW ?_ | refine GX.so1 ?_ | refine GX.som ?_ | refine GX.sof ?_ | refine GX.sog ?_) | (apply GX.k_box; first | (refine GX.bxF ?_; intro _) | (refine GX.bxR ?_; intro _)) | (apply GX.k_buildSlice; (refine GX.slo ?_; intro _)) | (apply GX.k_alloc; (refine GX.al ?_; intro _)) | (apply GX.k_makeFunc; refine GX.mkf ?_) | (apply GX.k_binOp_eql; first | refine GX.b_eql ?_ | refine GX.b_pn ?_ | refine GX.b_nn ?_ | refine GX.b_snn ?_ | refine GX.b_sns ?_ | refine GX.b_eqls ?_ | refine GX.b_eqltf ?_ | refine GX.b_eqlft ?_ | refine GX.b_eqlb ?_) | (apply GX.k_binOp_geq; refine GX.b_geq ?_)) | refine GX.gt ?_ | refine GX.gf ?_ | refine GX.gbt ?_ | refine GX.gbf ?_ | refine GX.un ?_ | refine GX.un0 ?_) | apply GX.then_normal | apply GX.seq | apply GX.region | (apply GX.s_cond; first | refine GX.ct ?_ | refine GX.cf ?_ | refine GX.cdf ?_ | refine GX.cdt ?_ | refine GX.cbt ?_ | refine GX.cbf ?_) | apply GX.skip | apply GX.block | apply GX.inBlock_normal | apply GX.exit | apply GX.then_exit | apply GX.inBlock_exit | refine GX.ibo ?_ | apply GX.ret | apply GX.then_ret | apply GX.inBlock_ret)
      refine slNil Ty.int ?_
      exact rt1 (none, 0) rfl
    · by_cases e16 : x.op = 16
      · have e : targets x (k : Int) = [x.n] := by unfold targets; rw [if_neg e18, if_pos e16]
        repeat (first | (apply GX.s_list; first | apply GX.nil | (refine GX.o ?_; first | (apply GX.k_load; first | refine GX.lr ?_ | refine GX.lrA ?_ | refine GX.ln ?_ | refine GX.lb ?_ | refine GX.lh ?_ | (refine GX.ls ?_; intro ao cap _ _) | (refine GX.lA ?_; intro cs) | (refine GX.l0 ?_; intro cs) | refine GX.o1n ?_ | refine GX.o1b ?_ | refine GX.o1h ?_ | (refine GX.o1s ?_; intro ao cap _ _) | refine GX.omn ?_ | refine GX.omb ?_ | refine GX.omh ?_ | (refine GX.oms ?_; intro ao cap _ _) | refine GX.ofn ?_ | refine GX.ofb ?_ | refine GX.ofh ?_ | (refine GX.ofs ?_; intro ao cap _ _) | (refine GX.oA ?_; intro cs)) | (apply GX.k_move; refine GX.m ?_) | (apply GX.k_indexAddr; first | refine GX.io1 ?_ | refine GX.ioh ?_ | refine GX.i1 ?_ | refine GX.ih ?_ | (refine GX.ix ?_; intro bl o)) | (apply GX.k_binOp_lss; refine GX.b_lss ?_) | (apply GX.k_binOp_add; first | refine GX.b_inc ?_ | refine GX.b_add ?_ | refine GX.b_addw ?_) | (apply GX.k_assign; refine GX.a ?_) | (apply GX.k_fieldAddr; first | refine GX.f0 ?_ | refine GX.fh ?_ | refine GX.fa ?_) | (apply GX.k_call; refine GX.c_len ?_) | (apply GX.k_pick; first | refine GX.pt ?_ | refine GX.pf ?_ | refine GX.pk ?_) | (apply GX.k_store; first | refine GX.stW ?_ | refine GX.stB ?_ | refine GX.stR ?_ | refine GX.stRW ?_ | refine GX.so1 ?_ | refine GX.som ?_ | refine GX.sof ?_ | refine GX.sog ?_) | (apply GX.k_box; first | (refine GX.bxF ?_; intro _) | (refine GX.bxR ?_; intro _)) | (apply GX.k_buildSlice; (refine GX.slo ?_; intro _)) | (apply GX.k_alloc; (refine GX.al ?_; intro _)) | (apply GX.k_makeFunc; refine GX.mkf ?_) | (apply GX.k_binOp_eql; first | refine GX.b_eql ?_ | refine GX.b_pn ?_ | refine GX.b_nn ?_ | refine GX.b_snn ?_ | refine GX.b_sns ?_ | refine GX.b_eqls ?_ | refine GX.b_eqltf ?_ | refine GX.b_eqlft ?_ | refine GX.b_eqlb ?_) | (apply GX.k_binOp_geq; refine GX.b_geq ?_)) | refine GX.gt ?_ | refine GX.gf ?_ | refine GX.gbt ?_ | refine GX.gbf ?_ | refine GX.un ?_ | refine GX.un0 ?_) | apply GX.then_normal | apply GX.seq | apply GX.region | (apply GX.s_cond; first | refine GX.ct ?_ | refine GX.cf ?_ | refine GX.cdf ?_ | refine GX.cdt ?_ | refine GX.cbt ?_ | refine GX.cbf ?_) | apply GX.skip | apply GX.block | apply GX.inBlock_normal | apply GX.exit | apply GX.then_exit | apply GX.inBlock_exit | refine GX.ibo ?_ | apply GX.ret | apply GX.then_ret | apply GX.inBlock_ret)
        refine GX.nmB 5 ?_; rintro b5 rfl
        exact meet b5 ⟨rfl, by rw [e]; rfl, trivial⟩ e18 (h2 := by rw [e]; first | ((repeat (first | apply Go.GX.SelR.nil | apply Go.GX.SelR.cons | (with_reducible apply Go.GX.TakeR.head) | apply Go.GX.TakeR.tail)); done) | (repeat (first | apply Go.GX.SelR.nil | apply Go.GX.SelR.cons | apply Go.GX.TakeR.head | apply Go.GX.TakeR.tail)))
      · by_cases e17 : x.op = 17
        · have e : targets x (k : Int) = [x.n, x.c] := by unfold targets; rw [if_neg e18, if_neg e16, if_pos e17]
          repeat (first | (apply GX.s_list; first | apply GX.nil | (refine GX.o ?_; first | (apply GX.k_load; first | refine GX.lr ?_ | refine GX.lrA ?_ | refine GX.ln ?_ | refine GX.lb ?_ | refine GX.lh ?_ | (refine GX.ls ?_; intro ao cap _ _) | (refine GX.lA ?_; intro cs) | (refine GX.l0 ?_; intro cs) | refine GX.o1n ?_ | refine GX.o1b ?_ | refine GX.o1h ?_ | (refine GX.o1s ?_; intro ao cap _ _) | refine GX.omn ?_ | refine GX.omb ?_ | refine GX.omh ?_ | (refine GX.oms ?_; intro ao cap _ _) | refine GX.ofn ?_ | refine GX.ofb ?_ | refine GX.ofh ?_ | (refine GX.ofs ?_; intro ao cap _ _) | (refine GX.oA ?_; intro cs)) | (apply GX.k_move; refine GX.m ?_) | (apply GX.k_indexAddr; first | refine GX.io1 ?_ | refine GX.ioh ?_ | refine GX.i1 ?_ | refine GX.ih ?_ | (refine GX.ix ?_; intro bl o)) | (apply GX.k_binOp_lss; refine GX.b_lss ?_) | (apply GX.k_binOp_add; first | refine GX.b_inc ?_ | refine GX.b_add ?_ | refine GX.b_addw ?_) | (apply GX.k_assign; refine GX.a ?_) | (apply GX.k_fieldAddr; first | refine GX.f0 ?_ | refine GX.fh ?_ | refine GX.fa ?_) | (apply GX.k_call; refine GX.c_len ?_) | (apply GX.k_pick; first | refine GX.pt ?_ | refine GX.pf ?_ | refine GX.pk ?_) | (apply GX.k_store; first | refine GX.stW ?_ | refine GX.stB ?_ | refine GX.stR ?_ | refine GX.stRW ?_ | refine GX.so1 ?_ | refine GX.som ?_ | refine GX.sof ?_ | refine GX.sog ?_) | (apply GX.k_box; first | (refine GX.bxF ?_; intro _) | (refine GX.bxR ?_; intro _)) | (apply GX.k_buildSlice; (refine GX.slo ?_; intro _)) | (apply GX.k_alloc; (refine GX.al ?_; intro _)) | (apply GX.k_makeFunc; refine GX.mkf ?_) | (apply GX.k_binOp_eql; first | refine GX.b_eql ?_ | refine GX.b_pn ?_ | refine GX.b_nn ?_ | refine GX.b_snn ?_ | refine GX.b_sns ?_ | refine GX.b_eqls ?_ | refine GX.b_eqltf ?_ | refine GX.b_eqlft ?_ | refine GX.b_eqlb ?_) | (apply GX.k_binOp_geq; refine GX.b_geq ?_)) | refine GX.gt ?_ | refine GX.gf ?_ | refine GX.gbt ?_ | refine GX.gbf ?_ | refine GX.un ?_ | refine GX.un0 ?_) | apply GX.then_normal | apply GX.seq | apply GX.region | (apply GX.s_cond; first | refine GX.ct ?_ | refine GX.cf ?_ | refine GX.cdf ?_ | refine GX.cdt ?_ | refine GX.cbt ?_ | refine GX.cbf ?_) | apply GX.skip | apply GX.block | apply GX.inBlock_normal | apply GX.exit | apply GX.then_exit | apply GX.inBlock_exit | refine GX.ibo ?_ | apply GX.ret | apply GX.then_ret | apply GX.inBlock_ret)
          refine GX.nmB 5 ?_; rintro b5 rfl
          exact meet b5 ⟨rfl, by rw [e]; rfl, trivial⟩ e18 (h2 := by rw [e]; first | ((repeat (first | apply Go.GX.SelR.nil | apply Go.GX.SelR.cons | (with_reducible apply Go.GX.TakeR.head) | apply Go.GX.TakeR.tail)); done) | (repeat (first | apply Go.GX.SelR.nil | apply Go.GX.SelR.cons | apply Go.GX.TakeR.head | apply Go.GX.TakeR.tail)))
        · have e : targets x (k : Int) = [(k : Int) + 1] := by unfold targets; rw [if_neg e18, if_neg e16, if_neg e17]
          repeat (first | (apply GX.s_list; first | apply GX.nil | (refine GX.o ?_; first | (apply GX.k_load; first | refine GX.lr ?_ | refine GX.lrA ?_ | refine GX.ln ?_ | refine GX.lb ?_ | refine GX.lh ?_ | (refine GX.ls ?_; intro ao cap _ _) | (refine GX.lA ?_; intro cs) | (refine GX.l0 ?_; intro cs) | refine GX.o1n ?_ | refine GX.o1b ?_ | refine GX.o1h ?_ | (refine GX.o1s ?_; intro ao cap _ _) | refine GX.omn ?_ | refine GX.omb ?_ | refine GX.omh ?_ | (refine GX.oms ?_; intro ao cap _ _) | refine GX.ofn ?_ | refine GX.ofb ?_ | refine GX.ofh ?_ | (refine GX.ofs ?_; intro ao cap _ _) | (refine GX.oA ?_; intro cs)) | (apply GX.k_move; refine GX.m ?_) | (apply GX.k_indexAddr; first | refine GX.io1 ?_ | refine GX.ioh ?_ | refine GX.i1 ?_ | refine GX.ih ?_ | (refine GX.ix ?_; intro bl o)) | (apply GX.k_binOp_lss; refine GX.b_lss ?_) | (apply GX.k_binOp_add; first | refine GX.b_inc ?_ | refine GX.b_add ?_ | refine GX.b_addw ?_) | (apply GX.k_assign; refine GX.a ?_) | (apply GX.k_fieldAddr; first | refine GX.f0 ?_ | refine GX.fh ?_ | refine GX.fa ?_) | (apply GX.k_call; refine GX.c_len ?_) | (apply GX.k_pick; first | refine GX.pt ?_ | refine GX.pf ?_ | refine GX.pk ?_) | (apply GX.k_store; first | refine GX.stW ?_ | refine GX.stB ?_ | refine GX.stR ?_ | refine GX.stRW ?_ | refine GX.so1 ?_ | refine GX.som ?_ | refine GX.sof ?_ | refine GX.sog ?_) | (apply GX.k_box; first | (refine GX.bxF ?_; intro _) | (refine GX.bxR ?_; intro _)) | (apply GX.k_buildSlice; (refine GX.slo ?_; intro _)) | (apply GX.k_alloc; (refine GX.al ?_; intro _)) | (apply GX.k_makeFunc; refine GX.mkf ?_) | (apply GX.k_binOp_eql; first | refine GX.b_eql ?_ | refine GX.b_pn ?_ | refine GX.b_nn ?_ | refine GX.b_snn ?_ | refine GX.b_sns ?_ | refine GX.b_eqls ?_ | refine GX.b_eqltf ?_ | refine GX.b_eqlft ?_ | refine GX.b_eqlb ?_) | (apply GX.k_binOp_geq; refine GX.b_geq ?_)) | refine GX.gt ?_ | refine GX.gf ?_ | refine GX.gbt ?_ | refine GX.gbf ?_ | refine GX.un ?_ | refine GX.un0 ?_) | apply GX.then_normal | apply GX.seq | apply GX.region | (apply GX.s_cond; first | refine GX.ct ?_ | refine GX.cf ?_ | refine GX.cdf ?_ | refine GX.cdt ?_ | refine GX.cbt ?_ | refine GX.cbf ?_) | apply GX.skip | apply GX.block | apply GX.inBlock_normal | apply GX.exit | apply GX.then_exit | apply GX.inBlock_exit | refine GX.ibo ?_ | apply GX.ret | apply GX.then_ret | apply GX.inBlock_ret)
          refine GX.nmB 5 ?_; rintro b5 rfl
          exact meet b5 ⟨rfl, by rw [e]; rfl, trivial⟩ e18 (h2 := by rw [e]; first | ((repeat (first | apply Go.GX.SelR.nil | apply Go.GX.SelR.cons | (with_reducible apply Go.GX.TakeR.head) | apply Go.GX.TakeR.tail)); done) | (repeat (first | apply Go.GX.SelR.nil | apply Go.GX.SelR.cons | apply Go.GX.TakeR.head | apply Go.GX.TakeR.tail)))
  · have h4 : (targets x (k : Int)).length ≤ 2 := by unfold targets; (repeat' split) <;> simp
    repeat (first | (apply GX.s_list; first | apply GX.nil | (refine GX.o ?_; first | (apply GX.k_load; first | refine GX.lr ?_ | refine GX.lrA ?_ | refine GX.ln ?_ | refine GX.lb ?_ | refine GX.lh ?_ | (refine GX.ls ?_; intro ao cap _ _) | (refine GX.lA ?_; intro cs) | (refine GX.l0 ?_; intro cs) | refine GX.o1n ?_ | refine GX.o1b ?_ | refine GX.o1h ?_ | (refine GX.o1s ?_; intro ao cap _ _) | refine GX.omn ?_ | refine GX.omb ?_ | refine GX.omh ?_ | (refine GX.oms ?_; intro ao cap _ _) | refine GX.ofn ?_ | refine GX.ofb ?_ | refine GX.ofh ?_ | (refine GX.ofs ?_; intro ao cap _ _) | (refine GX.oA ?_; intro cs)) | (apply GX.k_move; refine GX.m ?_) | (apply GX.k_indexAddr; first | refine GX.io1 ?_ | refine GX.ioh ?_ | refine GX.i1 ?_ | refine GX.ih ?_ | (refine GX.ix ?_; intro bl o)) | (apply GX.k_binOp_lss; refine GX.b_lss ?_) | (apply GX.k_binOp_add; first | refine GX.b_inc ?_ | refine GX.b_add ?_ | refine GX.b_addw ?_) | (apply GX.k_assign; refine GX.a ?_) | (apply GX.k_fieldAddr; first | refine GX.f0 ?_ | refine GX.fh ?_ | refine GX.fa ?_) | (apply GX.k_call; refine GX.c_len ?_) | (apply GX.k_pick; first | refine GX.pt ?_ | refine GX.pf ?_ | refine GX.pk ?_) | (apply GX.k_store; first | refine GX.stW ?_ | refine GX.stB ?_ | refine GX.stR ?_ | refine GX.stRW ?_ | refine GX.so1 ?_ | refine GX.som ?_ | refine GX.sof ?_ | refine GX.sog ?_) | (apply GX.k_box; first | (refine GX.bxF ?_; intro _) | (refine GX.bxR ?_; intro _)) | (apply GX.k_buildSlice; (refine GX.sl ?_; intro _)) | (apply GX.k_alloc; (refine GX.al ?_; intro _)) | (apply GX.k_makeFunc; refine GX.mkf ?_) | (apply GX.k_binOp_eql; first | refine GX.b_eql ?_ | refine GX.b_pn ?_ | refine GX.b_nn ?_ | refine GX.b_snn ?_ | refine GX.b_sns ?_ | refine GX.b_eqls ?_ | refine GX.b_eqltf ?_ | refine GX.b_eqlft ?_ | refine GX.b_eqlb ?_) | (apply GX.k_binOp_geq; refine GX.b_geq ?_)) | refine GX.gt ?_ | refine GX.gf ?_ | refine GX.gbt ?_ | refine GX.gbf ?_ | refine GX.un ?_ | refine GX.un0 ?_) | apply GX.then_normal | apply GX.seq | apply GX.region | (apply GX.s_cond; first | refine GX.ct ?_ | refine GX.cf ?_ | refine GX.cdf ?_ | refine GX.cdt ?_ | refine GX.cbt ?_ | refine GX.cbf ?_) | apply GX.skip | apply GX.block | apply GX.inBlock_normal | apply GX.exit | apply GX.then_exit | apply GX.inBlock_exit | refine GX.ibo ?_ | apply GX.ret | apply GX.then_ret | apply GX.inBlock_ret)
    refine GX.o (cl (deleteFunc_spec (some ⟨s, 0, none⟩) (targets x k).length (targets x k) 92 [.pointer (some ⟨b2, 0, none⟩)] [Pt tyCode b2 0 c] [] (fun y => decide (¬ In c.ins.length y)) (fun y _ => next1_spec b2 c y)) fun _ => ?_)
    have h5 := kept_len (fun y => decide (¬ In c.ins.length y)) (targets x (k : Int)) (targets x (k : Int)).length (Nat.le_refl _)
    have e : nextOf x c.ins.length (k : Int) = once (sorted (kept (fun y => decide (¬ In c.ins.length y)) (targets x k) (targets x k).length)) := sorted_once.symm
    rw [e]
    obtain ⟨L, hL⟩ : ∃ L, L = kept (fun y => decide (¬ In c.ins.length y)) (targets x (k : Int)) (targets x (k : Int)).length := ⟨_, rfl⟩
    rw [← hL] at h5 ⊢
    repeat (first | (apply GX.s_list; first | apply GX.nil | (refine GX.o ?_; first | (apply GX.k_load; first | refine GX.lr ?_ | refine GX.lrA ?_ | refine GX.ln ?_ | refine GX.lb ?_ | refine GX.lh ?_ | (refine GX.ls ?_; intro ao cap _ _) | (refine GX.lA ?_; intro cs) | (refine GX.l0 ?_; intro cs) | refine GX.o1n ?_ | refine GX.o1b ?_ | refine GX.o1h ?_ | (refine GX.o1s ?_; intro ao cap _ _) | refine GX.omn ?_ | refine GX.omb ?_ | refine GX.omh ?_ | (refine GX.oms ?_; intro ao cap _ _) | refine GX.ofn ?_ | refine GX.ofb ?_ | refine GX.ofh ?_ | (refine GX.ofs ?_; intro ao cap _ _) | (refine GX.oA ?_; intro cs)) | (apply GX.k_move; refine GX.m ?_) | (apply GX.k_indexAddr; first | refine GX.io1 ?_ | refine GX.ioh ?_ | refine GX.i1 ?_ | refine GX.ih ?_ | (refine GX.ix ?_; intro bl o)) | (apply GX.k_binOp_lss; refine GX.b_lss ?_) | (apply GX.k_binOp_add; first | refine GX.b_inc ?_ | refine GX.b_add ?_ | refine GX.b_addw ?_) | (apply GX.k_assign; refine GX.a ?_) | (apply GX.k_fieldAddr; first | refine GX.f0 ?_ | refine GX.fh ?_ | refine GX.fa ?_) | (apply GX.k_call; refine GX.c_len ?_) | (apply GX.k_pick; first | refine GX.pt ?_ | refine GX.pf ?_ | refine GX.pk ?_) | (apply GX.k_store; first | refine GX.stW ?_ | refine GX.stB ?_ | refine GX.stR ?_ | refine GX.stRW ?_ | refine GX.so1 ?_ | refine GX.som ?_ | refine GX.sof ?_ | refine GX.sog ?_) | (apply GX.k_box; first | (refine GX.bxF ?_; intro _) | (refine GX.bxR ?_; intro _)) | (apply GX.k_buildSlice; (refine GX.sl ?_; intro _)) | (apply GX.k_alloc; (refine GX.al ?_; intro _)) | (apply GX.k_makeFunc; refine GX.mkf ?_) | (apply GX.k_binOp_eql; first | refine GX.b_eql ?_ | refine GX.b_pn ?_ | refine GX.b_nn ?_ | refine GX.b_snn ?_ | refine GX.b_sns ?_ | refine GX.b_eqls ?_ | refine GX.b_eqltf ?_ | refine GX.b_eqlft ?_ | refine GX.b_eqlb ?_) | (apply GX.k_binOp_geq; refine GX.b_geq ?_)) | refine GX.gt ?_ | refine GX.gf ?_ | refine GX.gbt ?_ | refine GX.gbf ?_ | refine GX.un ?_ | refine GX.un0 ?_) | apply GX.then_normal | apply GX.seq | apply GX.region | (apply GX.s_cond; first | refine GX.ct ?_ | refine GX.cf ?_ | refine GX.cdf ?_ | refine GX.cdt ?_ | refine GX.cbt ?_ | refine GX.cbf ?_) | apply GX.skip | apply GX.block | apply GX.inBlock_normal | apply GX.exit | apply GX.then_exit | apply GX.inBlock_exit | refine GX.ibo ?_ | apply GX.ret | apply GX.then_ret | apply GX.inBlock_ret)
    refine GX.o (cl (sort_spec (some ⟨s, 0, none⟩) (targets x k).length L (by omega)) fun _ => ?_)
    have h6 := sorted_len L
    rw [← h6]
    repeat (first | (apply GX.s_list; first | apply GX.nil | (refine GX.o ?_; first | (apply GX.k_load; first | refine GX.lr ?_ | refine GX.lrA ?_ | refine GX.ln ?_ | refine GX.lb ?_ | refine GX.lh ?_ | (refine GX.ls ?_; intro ao cap _ _) | (refine GX.lA ?_; intro cs) | (refine GX.l0 ?_; intro cs) | refine GX.o1n ?_ | refine GX.o1b ?_ | refine GX.o1h ?_ | (refine GX.o1s ?_; intro ao cap _ _) | refine GX.omn ?_ | refine GX.omb ?_ | refine GX.omh ?_ | (refine GX.oms ?_; intro ao cap _ _) | refine GX.ofn ?_ | refine GX.ofb ?_ | refine GX.ofh ?_ | (refine GX.ofs ?_; intro ao cap _ _) | (refine GX.oA ?_; intro cs)) | (apply GX.k_move; refine GX.m ?_) | (apply GX.k_indexAddr; first | refine GX.io1 ?_ | refine GX.ioh ?_ | refine GX.i1 ?_ | refine GX.ih ?_ | (refine GX.ix ?_; intro bl o)) | (apply GX.k_binOp_lss; refine GX.b_lss ?_) | (apply GX.k_binOp_add; first | refine GX.b_inc ?_ | refine GX.b_add ?_ | refine GX.b_addw ?_) | (apply GX.k_assign; refine GX.a ?_) | (apply GX.k_fieldAddr; first | refine GX.f0 ?_ | refine GX.fh ?_ | refine GX.fa ?_) | (apply GX.k_call; refine GX.c_len ?_) | (apply GX.k_pick; first | refine GX.pt ?_ | refine GX.pf ?_ | refine GX.pk ?_) | (apply GX.k_store; first | refine GX.stW ?_ | refine GX.stB ?_ | refine GX.stR ?_ | refine GX.stRW ?_ | refine GX.so1 ?_ | refine GX.som ?_ | refine GX.sof ?_ | refine GX.sog ?_) | (apply GX.k_box; first | (refine GX.bxF ?_; intro _) | (refine GX.bxR ?_; intro _)) | (apply GX.k_buildSlice; (refine GX.sl ?_; intro _)) | (apply GX.k_alloc; (refine GX.al ?_; intro _)) | (apply GX.k_makeFunc; refine GX.mkf ?_) | (apply GX.k_binOp_eql; first | refine GX.b_eql ?_ | refine GX.b_pn ?_ | refine GX.b_nn ?_ | refine GX.b_snn ?_ | refine GX.b_sns ?_ | refine GX.b_eqls ?_ | refine GX.b_eqltf ?_ | refine GX.b_eqlft ?_ | refine GX.b_eqlb ?_) | (apply GX.k_binOp_geq; refine GX.b_geq ?_)) | refine GX.gt ?_ | refine GX.gf ?_ | refine GX.gbt ?_ | refine GX.gbf ?_ | refine GX.un ?_ | refine GX.un0 ?_) | apply GX.then_normal | apply GX.seq | apply GX.region | (apply GX.s_cond; first | refine GX.ct ?_ | refine GX.cf ?_ | refine GX.cdf ?_ | refine GX.cdt ?_ | refine GX.cbt ?_ | refine GX.cbf ?_) | apply GX.skip | apply GX.block | apply GX.inBlock_normal | apply GX.exit | apply GX.then_exit | apply GX.inBlock_exit | refine GX.ibo ?_ | apply GX.ret | apply GX.then_ret | apply GX.inBlock_ret)
    refine GX.o (cl (compact_spec (some ⟨s, 0, none⟩) (targets x k).length (sorted L) (by omega)) fun _ => ?_)
    repeat (first | (apply GX.s_list; first | apply GX.nil | (refine GX.o ?_; first | (apply GX.k_load; first | refine GX.lr ?_ | refine GX.lrA ?_ | refine GX.ln ?_ | refine GX.lb ?_ | refine GX.lh ?_ | (refine GX.ls ?_; intro ao cap _ _) | (refine GX.lA ?_; intro cs) | (refine GX.l0 ?_; intro cs) | refine GX.o1n ?_ | refine GX.o1b ?_ | refine GX.o1h ?_ | (refine GX.o1s ?_; intro ao cap _ _) | refine GX.omn ?_ | refine GX.omb ?_ | refine GX.omh ?_ | (refine GX.oms ?_; intro ao cap _ _) | refine GX.ofn ?_ | refine GX.ofb ?_ | refine GX.ofh ?_ | (refine GX.ofs ?_; intro ao cap _ _) | (refine GX.oA ?_; intro cs)) | (apply GX.k_move; refine GX.m ?_) | (apply GX.k_indexAddr; first | refine GX.io1 ?_ | refine GX.ioh ?_ | refine GX.i1 ?_ | refine GX.ih ?_ | (refine GX.ix ?_; intro bl o)) | (apply GX.k_binOp_lss; refine GX.b_lss ?_) | (apply GX.k_binOp_add; first | refine GX.b_inc ?_ | refine GX.b_add ?_ | refine GX.b_addw ?_) | (apply GX.k_assign; refine GX.a ?_) | (apply GX.k_fieldAddr; first | refine GX.f0 ?_ | refine GX.fh ?_ | refine GX.fa ?_) | (apply GX.k_call; refine GX.c_len ?_) | (apply GX.k_pick; first | refine GX.pt ?_ | refine GX.pf ?_ | refine GX.pk ?_) | (apply GX.k_store; first | refine GX.stW ?_ | refine GX.stB ?_ | refine GX.stR ?_ | refine GX.stRW ?_ | refine GX.so1 ?_ | refine GX.som ?_ | refine GX.sof ?_ | refine GX.sog ?_) | (apply GX.k_box; first | (refine GX.bxF ?_; intro _) | (refine GX.bxR ?_; intro _)) | (apply GX.k_buildSlice; (refine GX.sl ?_; intro _)) | (apply GX.k_alloc; (refine GX.al ?_; intro _)) | (apply GX.k_makeFunc; refine GX.mkf ?_) | (apply GX.k_binOp_eql; first | refine GX.b_eql ?_ | refine GX.b_pn ?_ | refine GX.b_nn ?_ | refine GX.b_snn ?_ | refine GX.b_sns ?_ | refine GX.b_eqls ?_ | refine GX.b_eqltf ?_ | refine GX.b_eqlft ?_ | refine GX.b_eqlb ?_) | (apply GX.k_binOp_geq; refine GX.b_geq ?_)) | refine GX.gt ?_ | refine GX.gf ?_ | refine GX.gbt ?_ | refine GX.gbf ?_ | refine GX.un ?_ | refine GX.un0 ?_) | apply GX.then_normal | apply GX.seq | apply GX.region | (apply GX.s_cond; first | refine GX.ct ?_ | refine GX.cf ?_ | refine GX.cdf ?_ | refine GX.cdt ?_ | refine GX.cbt ?_ | refine GX.cbf ?_) | apply GX.skip | apply GX.block | apply GX.inBlock_normal | apply GX.exit | apply GX.then_exit | apply GX.inBlock_exit | refine GX.ibo ?_ | apply GX.ret | apply GX.then_ret | apply GX.inBlock_ret)
    refine frz (some ⟨s, 0, none⟩) ?_
    exact rt1 (_, _) rfl
end Go.Proofs.YtomfpmbapdhbgaaGreat

/- The walks over isVar, asked, Uses, Def of package live. -/
namespace Go.Proofs.YtomfpmbapdhbgaaGreat
open Go Go.RR Go.RX Go.GX Go.Api Go.FlowM Go.RiseM Go.LivM
attribute [local irreducible] wpList Code.wp wpPlan Exit.then Exit.inBlock bodyPost NoPanic Went GX.Post GX.Again GX.Meet GX.RowR GX.Own GX.Owns GX.Box GX.Sl GX.Pt GX.Ag GX.MapR GX.Kept GX.Pin wpT GoK AtEnd Both

theorem isVar_spec (x : Int) : Does Tryz.prog 119 [.int .i64 x] [] [] (fun _ : Unit => .bool (decide (In 4000 x))) (fun _ => []) (fun _ => []) := by
  refine enter Tryz.func119 rfl Tryz.ntmps119 rfl fun b => ?_
  by_cases h1 : 0 ≤ x
  · refine GX.wR ?_; intros
    exact rt1 () (congrArg Value.bool (decide_eq_decide.2 ⟨fun h => h.2, fun h => ⟨h1, h⟩⟩))
  · refine GX.wR ?_; intros
    exact rt1 () (congrArg Value.bool (decide_eq_false fun h => h1 h.1))
theorem uses1_spec (x : Int) : Does Tryz.prog 118 [.int .i64 x] [] [] (fun _ : Unit => .bool (decide (¬ In 4000 x))) (fun _ => []) (fun _ => []) := by
  refine enter Tryz.func118 rfl Tryz.ntmps118 rfl fun b => ?_
  refine GX.wR ?_; intros
  refine GX.o (cl (isVar_spec x) fun _ => ?_)
  refine GX.wR ?_; intros
  exact rt1 () rfl
set_option maxHeartbeats 2000000 in
theorem asked_spec (cs : List Value) (x : Ins) (hx : x.args.length ≤ 17592186043904) : Does Tryz.prog 117 [.agg cs.toArray] [Ag tyIns cs x] [] (fun s : Option Addr × Nat => .slice s.1 (asks x).length s.2) (fun _ => []) (fun s => [GX.Own 3 Ty.int s.1 s.2 (asks x)]) := by
  refine enter Tryz.func117 rfl Tryz.ntmps117 rfl fun b => ?_
  by_cases e3 : x.op = 3
  · rw [show asks x = [x.b] by simp [asks, e3]]
    refine GX.wRO ?_; intros
    exact rt1 (_, _) rfl
  by_cases e5 : x.op = 5
  · rw [show asks x = [x.b] by simp [asks, e5]]
    refine GX.wRO ?_; intros
    exact rt1 (_, _) rfl
  by_cases e6 : x.op = 6
  · rw [show asks x = [x.b] by simp [asks, e6]]
    refine GX.wRO ?_; intros
    exact rt1 (_, _) rfl
  by_cases e10 : x.op = 10
  · rw [show asks x = [x.b] by simp [asks, e10]]
    refine GX.wRO ?_; intros
    exact rt1 (_, _) rfl
  by_cases e12 : x.op = 12
  · rw [show asks x = [x.b] by simp [asks, e12]]
    refine GX.wRO ?_; intros
    exact rt1 (_, _) rfl
  by_cases e4 : x.op = 4
  · rw [show asks x = [x.b, x.c] by simp [asks, e4]]
    refine GX.wRO ?_; intros
    exact rt1 (_, _) rfl
  by_cases e8 : x.op = 8
  · rw [show asks x = [x.b, x.c] by simp [asks, e8]]
    refine GX.wRO ?_; intros
    exact rt1 (_, _) rfl
  by_cases e7 : x.op = 7
  · rw [show asks x = [x.a, x.b] by simp [asks, e7]]
    refine GX.wRO ?_; intros
    exact rt1 (_, _) rfl
  by_cases e9 : x.op = 9
  · rw [show asks x = [x.a, x.b, x.c] by simp [asks, e9]]
    refine GX.wRO ?_; intros
    exact rt1 (_, _) rfl
  by_cases e13 : x.op = 13
  · rw [show asks x = x.args by simp [asks, e13]]
    refine GX.wRO ?_; intros
    refine GX.o (cl (clone_spec _ _ x.args hx) fun s => ?_)
    obtain ⟨a, c⟩ := s
    dsimp only
    refine GX.wRO ?_; intros
    exact rt1 (_, _) rfl
  by_cases e15 : x.op = 15
  · rw [show asks x = [x.a] by simp [asks, e15]]
    refine GX.wRO ?_; intros
    exact rt1 (_, _) rfl
  by_cases e17 : x.op = 17
  · rw [show asks x = [x.a] by simp [asks, e17]]
    refine GX.wRO ?_; intros
    exact rt1 (_, _) rfl
  by_cases e18 : x.op = 18
  · rw [show asks x = [x.a] by simp [asks, e18]]
    refine GX.wRO ?_; intros
    exact rt1 (_, _) rfl
  by_cases e20 : x.op = 20
  · rw [show asks x = [x.a] by simp [asks, e20]]
    refine GX.wRO ?_; intros
    exact rt1 (_, _) rfl
  rw [show asks x = [] by simp [asks, e3, e5, e6, e10, e12, e4, e8, e7, e9, e13, e15, e17, e18, e20]]
  refine GX.wRO ?_; intros
  refine ownNil 3 Ty.int ?_
  exact rt1 (none, 0) rfl
set_option maxHeartbeats 1000000 in
theorem uses_spec (cs : List Value) (x : Ins) (hx : x.args.length ≤ 17592186043904) : Does Tryz.prog 86 [.agg cs.toArray] [Ag tyIns cs x] [] (fun s : Option Addr × Nat => .slice s.1 (uses x).length s.2) (fun s => [Sl Ty.int s.1 s.2 (uses x)]) (fun _ => []) := by
  refine enter Tryz.func86 rfl Tryz.ntmps86 rfl fun b => ?_
  refine GX.wR ?_; intros
  refine GX.o (cl (asked_spec _ x hx) fun s => ?_)
  obtain ⟨a, c⟩ := s
  dsimp only
  have h4 : (asks x).length ≤ 17592186043904 := by unfold asks; (repeat' split) <;> first | exact hx | (simp only [List.length_cons, List.length_nil]; omega)
  refine GX.wR ?_; intros
  refine GX.o (cl (deleteFunc_spec a c (asks x) 118 [] [] [] (fun y => decide (¬ In 4000 y)) (fun y _ => uses1_spec y)) fun _ => ?_)
  have h5 := kept_len (fun y => decide (¬ In 4000 y)) (asks x) (asks x).length (Nat.le_refl _)
  have e : uses x = once (sorted (kept (fun y => decide (¬ In 4000 y)) (asks x) (asks x).length)) := sorted_once.symm
  rw [e]
  obtain ⟨L, hL⟩ : ∃ L, L = kept (fun y => decide (¬ In 4000 y)) (asks x) (asks x).length := ⟨_, rfl⟩
  rw [← hL] at h5 ⊢
  refine GX.wR ?_; intros
  refine GX.o (cl (sort_spec a c L (by omega)) fun _ => ?_)
  have h6 := sorted_len L
  rw [← h6]
  refine GX.wR ?_; intros
  refine GX.o (cl (compact_spec a c (sorted L) (by omega)) fun _ => ?_)
  refine GX.wR ?_; intros
  refine frz a ?_
  exact rt1 (_, _) rfl
set_option maxHeartbeats 2000000 in
theorem def_spec (cs : List Value) (x : Ins) : Does Tryz.prog 91 [.agg cs.toArray] [Ag tyIns cs x] [] (fun _ : Unit => .int .i64 (def_ x)) (fun _ => []) (fun _ => []) := by
  refine enter Tryz.func91 rfl Tryz.ntmps91 rfl fun b => ?_
  refine GX.wR ?_; intros
  refine GX.nmP 1 ?_; rintro b1 rfl
  refine GX.cut (σ := Bool) (fun q => [(1, .pointer (some ⟨b1, 0, none⟩)), (4, .int .i64 x.op), (5, .bool q)]) (fun _ => []) (fun _ => []) (fun q => q = decide (Sets x.op)) ?_ (fun q hq => ?_)
  · by_cases e1 : x.op = 1
    · refine GX.wR ?_; intros
      exact meet _ ⟨rfl, rfl, rfl, trivial⟩ (by simp [Sets, e1])
    by_cases e2 : x.op = 2
    · refine GX.wR ?_; intros
      exact meet _ ⟨rfl, rfl, rfl, trivial⟩ (by simp [Sets, e2])
    by_cases e3 : x.op = 3
    · refine GX.wR ?_; intros
      exact meet _ ⟨rfl, rfl, rfl, trivial⟩ (by simp [Sets, e3])
    by_cases e4 : x.op = 4
    · refine GX.wR ?_; intros
      exact meet _ ⟨rfl, rfl, rfl, trivial⟩ (by simp [Sets, e4])
    by_cases e5 : x.op = 5
    · refine GX.wR ?_; intros
      exact meet _ ⟨rfl, rfl, rfl, trivial⟩ (by simp [Sets, e5])
    by_cases e6 : x.op = 6
    · refine GX.wR ?_; intros
      exact meet _ ⟨rfl, rfl, rfl, trivial⟩ (by simp [Sets, e6])
    by_cases e8 : x.op = 8
    · refine GX.wR ?_; intros
      exact meet _ ⟨rfl, rfl, rfl, trivial⟩ (by simp [Sets, e8])
    by_cases e10 : x.op = 10
    · refine GX.wR ?_; intros
      exact meet _ ⟨rfl, rfl, rfl, trivial⟩ (by simp [Sets, e10])
    by_cases e11 : x.op = 11
    · refine GX.wR ?_; intros
      exact meet _ ⟨rfl, rfl, rfl, trivial⟩ (by simp [Sets, e11])
    by_cases e12 : x.op = 12
    · refine GX.wR ?_; intros
      exact meet _ ⟨rfl, rfl, rfl, trivial⟩ (by simp [Sets, e12])
    by_cases e13 : x.op = 13
    · refine GX.wR ?_; intros
      exact meet _ ⟨rfl, rfl, rfl, trivial⟩ (by simp [Sets, e13])
    by_cases e14 : x.op = 14
    · refine GX.wR ?_; intros
      exact meet _ ⟨rfl, rfl, rfl, trivial⟩ (by simp [Sets, e14])
    by_cases e19 : x.op = 19
    · refine GX.wR ?_; intros
      exact meet _ ⟨rfl, rfl, rfl, trivial⟩ (by simp [Sets, e19])
    refine GX.wR ?_; intros
    exact meet _ ⟨rfl, rfl, rfl, trivial⟩ (by simp [Sets, e1, e2, e3, e4, e5, e6, e8, e10, e11, e12, e13, e14, e19])
  by_cases hs : Sets x.op
  · have hq1 : q = true := by rw [hq]; exact decide_eq_true hs
    by_cases hv : In 4000 x.a
    · rw [show def_ x = x.a from if_pos ⟨hs, hv⟩]
      refine GX.wR ?_; intros
      refine GX.o (cl (isVar_spec x.a) fun _ => ?_)
      refine GX.wR ?_; intros
      exact rt1 () rfl
    · rw [show def_ x = -1 from if_neg fun h => hv h.2]
      refine GX.wR ?_; intros
      refine GX.o (cl (isVar_spec x.a) fun _ => ?_)
      refine GX.wR ?_; intros
      exact rt1 () rfl
  · have hq1 : q = false := by rw [hq]; exact decide_eq_false hs
    rw [show def_ x = -1 from if_neg fun h => hs h.1]
    refine GX.wR ?_; intros
    exact rt1 () rfl
end Go.Proofs.YtomfpmbapdhbgaaGreat
