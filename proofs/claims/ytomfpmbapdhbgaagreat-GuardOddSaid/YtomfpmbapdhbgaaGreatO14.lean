import Derived.Test.YtomfpmbapdhbgaaGreatO11
import Derived.Test.YtomfpmbapdhbgaaGreatO13
import Derived.Lib.AppendZerosOnto
/- The walk's steps, as default arguments: what is left of a goal is handed back, with all that was brought in ahead of it. Written by wip/rx.py walk. No program in sight. -/
namespace Go.GX
open Go Go.RowKit Go.RR Go.RX
/-- What is left of a goal. -/
structure Hold (p : Prop) : Prop where
  out : p
theorem wR {A B : Prop} (h : B) (h1 : Hold B → A := by intro hB_; (repeat (first | (apply GX.s_list; first | apply GX.nil | (refine GX.o ?_; first | (apply GX.k_load; first | refine GX.lr ?_ | refine GX.lrA ?_ | refine GX.ln ?_ | refine GX.lb ?_ | refine GX.lh ?_ | (refine GX.ls ?_; intro v9_ v9_ v9_ v9_) | (refine GX.lA ?_; intro v9_) | (refine GX.l0 ?_; intro v9_) | refine GX.o1n ?_ | refine GX.o1b ?_ | refine GX.o1h ?_ | (refine GX.o1s ?_; intro v9_ v9_ v9_ v9_) | refine GX.omn ?_ | refine GX.omb ?_ | refine GX.omh ?_ | (refine GX.oms ?_; intro v9_ v9_ v9_ v9_) | refine GX.ofn ?_ | refine GX.ofb ?_ | refine GX.ofh ?_ | (refine GX.ofs ?_; intro v9_ v9_ v9_ v9_) | (refine GX.oA ?_; intro v9_)) | (apply GX.k_move; refine GX.m ?_) | (apply GX.k_indexAddr; first | refine GX.io1 ?_ | refine GX.ioh ?_ | refine GX.i1 ?_ | refine GX.ih ?_ | (refine GX.ix ?_; intro v9_ v9_)) | (apply GX.k_binOp_lss; refine GX.b_lss ?_) | (apply GX.k_binOp_add; first | refine GX.b_inc ?_ | refine GX.b_add ?_ | refine GX.b_addw ?_) | (apply GX.k_assign; refine GX.a ?_) | (apply GX.k_fieldAddr; first | refine GX.f0 ?_ | refine GX.fh ?_ | refine GX.fa ?_) | (apply GX.k_call; first | refine GX.c_len ?_ | refine GX.c_max ?_ | refine GX.c_min ?_ | (refine GX.ap ?_; intro v9_ v9_) | (refine GX.ap0 ?_; intro v9_ v9_)) | (apply GX.k_pick; first | refine GX.pt ?_ | refine GX.pf ?_ | refine GX.pk ?_) | (apply GX.k_store; first | refine GX.stW ?_ | refine GX.stB ?_ | refine GX.stR ?_ | refine GX.stRW ?_ | refine GX.so1 ?_ | refine GX.som ?_ | refine GX.sof ?_ | refine GX.sog ?_) | (apply GX.k_extract; refine GX.ex ?_) | (apply GX.k_box; first | (refine GX.bxF ?_; intro v9_) | (refine GX.bxR ?_; intro v9_)) | (apply GX.k_slice; first | (refine GX.ch ?_; intro v9_) | (refine GX.cl_ ?_; intro v9_) | (refine GX.cb_ ?_; intro v9_)) | (apply GX.k_unOp; first | refine GX.nt ?_ | refine GX.nf ?_ | refine GX.nd ?_ | refine GX.n_ ?_) | (apply GX.k_lookup; first | refine GX.lk ?_ | refine GX.lko ?_) | (apply GX.k_nilCheck; refine GX.nc ?_) | (apply GX.k_build; refine GX.bd ?_) | (apply GX.k_buildSlice; (refine GX.sl ?_; intro v9_)) | (apply GX.k_alloc; (refine GX.al ?_; intro v9_)) | (apply GX.k_makeSlice; (refine GX.mks ?_; intro v9_)) | (apply GX.k_makeFunc; refine GX.mkf ?_) | (apply GX.k_makeMap; (refine GX.mm ?_; intro v9_)) | (apply GX.k_mapUpdate; refine GX.mu ?_) | (apply GX.k_binOp_and; refine GX.b_and ?_) | (apply GX.k_binOp_eql; first | refine GX.b_eql ?_ | refine GX.b_pn ?_ | refine GX.b_nn ?_ | refine GX.b_snn ?_ | refine GX.b_sns ?_ | refine GX.b_eqls ?_ | refine GX.b_eqltf ?_ | refine GX.b_eqlft ?_ | refine GX.b_eqlb ?_) | (apply GX.k_binOp_geq; refine GX.b_geq ?_) | (apply GX.k_binOp_gtr; refine GX.b_gtr ?_) | (apply GX.k_binOp_leq; refine GX.b_leq ?_) | (apply GX.k_binOp_mul; first | refine GX.b_mul ?_ | refine GX.b_mulw ?_) | (apply GX.k_binOp_neq; first | refine GX.b_neq ?_ | refine GX.b_pm ?_ | refine GX.b_nm ?_ | refine GX.b_neqs ?_ | refine GX.b_neqtf ?_ | refine GX.b_neqft ?_ | refine GX.b_neqb ?_) | (apply GX.k_binOp_rem; refine GX.b_rem ?_) | (apply GX.k_binOp_sub; first | refine GX.b_dec ?_ | refine GX.b_ded ?_ | refine GX.b_sub ?_ | refine GX.b_subw ?_)) | refine GX.gt ?_ | refine GX.gf ?_ | refine GX.gbt ?_ | refine GX.gbf ?_ | refine GX.un ?_ | refine GX.un0 ?_) | apply GX.then_normal | apply GX.seq | apply GX.region | (apply GX.s_cond; first | refine GX.ct ?_ | refine GX.cf ?_ | refine GX.cdf ?_ | refine GX.cdt ?_ | refine GX.cbt ?_ | refine GX.cbf ?_) | apply GX.skip | apply GX.block | apply GX.inBlock_normal | apply GX.exit | apply GX.then_exit | apply GX.inBlock_exit | refine GX.ibo ?_ | apply GX.ret | apply GX.then_ret | apply GX.inBlock_ret)); (repeat revert v9_); exact hB_.out) : A := h1 ⟨h⟩
theorem wRO {A B : Prop} (h : B) (h1 : Hold B → A := by intro hB_; (repeat (first | (apply GX.s_list; first | apply GX.nil | (refine GX.o ?_; first | (apply GX.k_load; first | refine GX.lr ?_ | refine GX.lrA ?_ | refine GX.ln ?_ | refine GX.lb ?_ | refine GX.lh ?_ | (refine GX.ls ?_; intro v9_ v9_ v9_ v9_) | (refine GX.lA ?_; intro v9_) | (refine GX.l0 ?_; intro v9_) | refine GX.o1n ?_ | refine GX.o1b ?_ | refine GX.o1h ?_ | (refine GX.o1s ?_; intro v9_ v9_ v9_ v9_) | refine GX.omn ?_ | refine GX.omb ?_ | refine GX.omh ?_ | (refine GX.oms ?_; intro v9_ v9_ v9_ v9_) | refine GX.ofn ?_ | refine GX.ofb ?_ | refine GX.ofh ?_ | (refine GX.ofs ?_; intro v9_ v9_ v9_ v9_) | (refine GX.oA ?_; intro v9_)) | (apply GX.k_move; refine GX.m ?_) | (apply GX.k_indexAddr; first | refine GX.io1 ?_ | refine GX.ioh ?_ | refine GX.i1 ?_ | refine GX.ih ?_ | (refine GX.ix ?_; intro v9_ v9_)) | (apply GX.k_binOp_lss; refine GX.b_lss ?_) | (apply GX.k_binOp_add; first | refine GX.b_inc ?_ | refine GX.b_add ?_ | refine GX.b_addw ?_) | (apply GX.k_assign; refine GX.a ?_) | (apply GX.k_fieldAddr; first | refine GX.f0 ?_ | refine GX.fh ?_ | refine GX.fa ?_) | (apply GX.k_call; first | refine GX.c_len ?_ | refine GX.c_max ?_ | refine GX.c_min ?_ | (refine GX.ap ?_; intro v9_ v9_) | (refine GX.ap0 ?_; intro v9_ v9_)) | (apply GX.k_pick; first | refine GX.pt ?_ | refine GX.pf ?_ | refine GX.pk ?_) | (apply GX.k_store; first | refine GX.stW ?_ | refine GX.stB ?_ | refine GX.stR ?_ | refine GX.stRW ?_ | refine GX.so1 ?_ | refine GX.som ?_ | refine GX.sof ?_ | refine GX.sog ?_) | (apply GX.k_extract; refine GX.ex ?_) | (apply GX.k_box; first | (refine GX.bxF ?_; intro v9_) | (refine GX.bxR ?_; intro v9_)) | (apply GX.k_slice; first | (refine GX.ch ?_; intro v9_) | (refine GX.cl_ ?_; intro v9_) | (refine GX.cb_ ?_; intro v9_)) | (apply GX.k_unOp; first | refine GX.nt ?_ | refine GX.nf ?_ | refine GX.nd ?_ | refine GX.n_ ?_) | (apply GX.k_lookup; first | refine GX.lk ?_ | refine GX.lko ?_) | (apply GX.k_nilCheck; refine GX.nc ?_) | (apply GX.k_build; refine GX.bd ?_) | (apply GX.k_buildSlice; (refine GX.slo ?_; intro v9_)) | (apply GX.k_alloc; (refine GX.al ?_; intro v9_)) | (apply GX.k_makeSlice; (refine GX.mks ?_; intro v9_)) | (apply GX.k_makeFunc; refine GX.mkf ?_) | (apply GX.k_makeMap; (refine GX.mm ?_; intro v9_)) | (apply GX.k_mapUpdate; refine GX.mu ?_) | (apply GX.k_binOp_and; refine GX.b_and ?_) | (apply GX.k_binOp_eql; first | refine GX.b_eql ?_ | refine GX.b_pn ?_ | refine GX.b_nn ?_ | refine GX.b_snn ?_ | refine GX.b_sns ?_ | refine GX.b_eqls ?_ | refine GX.b_eqltf ?_ | refine GX.b_eqlft ?_ | refine GX.b_eqlb ?_) | (apply GX.k_binOp_geq; refine GX.b_geq ?_) | (apply GX.k_binOp_gtr; refine GX.b_gtr ?_) | (apply GX.k_binOp_leq; refine GX.b_leq ?_) | (apply GX.k_binOp_mul; first | refine GX.b_mul ?_ | refine GX.b_mulw ?_) | (apply GX.k_binOp_neq; first | refine GX.b_neq ?_ | refine GX.b_pm ?_ | refine GX.b_nm ?_ | refine GX.b_neqs ?_ | refine GX.b_neqtf ?_ | refine GX.b_neqft ?_ | refine GX.b_neqb ?_) | (apply GX.k_binOp_rem; refine GX.b_rem ?_) | (apply GX.k_binOp_sub; first | refine GX.b_dec ?_ | refine GX.b_ded ?_ | refine GX.b_sub ?_ | refine GX.b_subw ?_)) | refine GX.gt ?_ | refine GX.gf ?_ | refine GX.gbt ?_ | refine GX.gbf ?_ | refine GX.un ?_ | refine GX.un0 ?_) | apply GX.then_normal | apply GX.seq | apply GX.region | (apply GX.s_cond; first | refine GX.ct ?_ | refine GX.cf ?_ | refine GX.cdf ?_ | refine GX.cdt ?_ | refine GX.cbt ?_ | refine GX.cbf ?_) | apply GX.skip | apply GX.block | apply GX.inBlock_normal | apply GX.exit | apply GX.then_exit | apply GX.inBlock_exit | refine GX.ibo ?_ | apply GX.ret | apply GX.then_ret | apply GX.inBlock_ret)); (repeat revert v9_); exact hB_.out) : A := h1 ⟨h⟩
theorem wRA {A B : Prop} (h : B) (h1 : Hold B → A := by intro hB_; (repeat (first | (apply GX.s_list; first | apply GX.nil | (refine GX.o ?_; first | (apply GX.k_load; first | refine GX.lr ?_ | refine GX.lrA ?_ | refine GX.ln ?_ | refine GX.lb ?_ | refine GX.lh ?_ | (refine GX.ls ?_; intro v9_ v9_ v9_ v9_) | (refine GX.lA ?_; intro v9_) | (refine GX.l0 ?_; intro v9_) | refine GX.o1n ?_ | refine GX.o1b ?_ | refine GX.o1h ?_ | (refine GX.o1s ?_; intro v9_ v9_ v9_ v9_) | refine GX.omn ?_ | refine GX.omb ?_ | refine GX.omh ?_ | (refine GX.oms ?_; intro v9_ v9_ v9_ v9_) | refine GX.ofn ?_ | refine GX.ofb ?_ | refine GX.ofh ?_ | (refine GX.ofs ?_; intro v9_ v9_ v9_ v9_) | (refine GX.oA ?_; intro v9_)) | (apply GX.k_move; refine GX.m ?_) | (apply GX.k_indexAddr; first | refine GX.io1 ?_ | refine GX.ioh ?_ | refine GX.i1 ?_ | refine GX.ih ?_ | (refine GX.ix ?_; intro v9_ v9_)) | (apply GX.k_binOp_lss; refine GX.b_lss ?_) | (apply GX.k_binOp_add; first | refine GX.b_inc ?_ | refine GX.b_add ?_ | refine GX.b_addw ?_) | (apply GX.k_assign; refine GX.a ?_) | (apply GX.k_fieldAddr; first | refine GX.f0 ?_ | refine GX.fh ?_ | refine GX.fa ?_) | (apply GX.k_call; first | refine GX.c_len ?_ | refine GX.c_max ?_ | refine GX.c_min ?_ | (refine GX.ap ?_; intro v9_ v9_) | (refine GX.ap0 ?_; intro v9_ v9_)) | (apply GX.k_pick; first | refine GX.pt ?_ | refine GX.pf ?_ | refine GX.pk ?_) | (apply GX.k_store; first | refine GX.stW ?_ | refine GX.stB ?_ | refine GX.stR ?_ | refine GX.stRW ?_ | refine GX.so1 ?_ | refine GX.som ?_ | refine GX.sof ?_ | refine GX.sog ?_) | (apply GX.k_extract; refine GX.ex ?_) | (apply GX.k_box; (refine GX.bxR ?_; intro v9_)) | (apply GX.k_slice; first | (refine GX.ch ?_; intro v9_) | (refine GX.cl_ ?_; intro v9_) | (refine GX.cb_ ?_; intro v9_)) | (apply GX.k_unOp; first | refine GX.nt ?_ | refine GX.nf ?_ | refine GX.nd ?_ | refine GX.n_ ?_) | (apply GX.k_lookup; first | refine GX.lk ?_ | refine GX.lko ?_) | (apply GX.k_nilCheck; refine GX.nc ?_) | (apply GX.k_build; refine GX.bd ?_) | (apply GX.k_buildSlice; (refine GX.sl ?_; intro v9_)) | (apply GX.k_alloc; (refine GX.alR ?_; intro v9_)) | (apply GX.k_makeSlice; (refine GX.mks ?_; intro v9_)) | (apply GX.k_makeFunc; refine GX.mkf ?_) | (apply GX.k_makeMap; (refine GX.mm ?_; intro v9_)) | (apply GX.k_mapUpdate; refine GX.mu ?_) | (apply GX.k_binOp_and; refine GX.b_and ?_) | (apply GX.k_binOp_eql; first | refine GX.b_eql ?_ | refine GX.b_pn ?_ | refine GX.b_nn ?_ | refine GX.b_snn ?_ | refine GX.b_sns ?_ | refine GX.b_eqls ?_ | refine GX.b_eqltf ?_ | refine GX.b_eqlft ?_ | refine GX.b_eqlb ?_) | (apply GX.k_binOp_geq; refine GX.b_geq ?_) | (apply GX.k_binOp_gtr; refine GX.b_gtr ?_) | (apply GX.k_binOp_leq; refine GX.b_leq ?_) | (apply GX.k_binOp_mul; first | refine GX.b_mul ?_ | refine GX.b_mulw ?_) | (apply GX.k_binOp_neq; first | refine GX.b_neq ?_ | refine GX.b_pm ?_ | refine GX.b_nm ?_ | refine GX.b_neqs ?_ | refine GX.b_neqtf ?_ | refine GX.b_neqft ?_ | refine GX.b_neqb ?_) | (apply GX.k_binOp_rem; refine GX.b_rem ?_) | (apply GX.k_binOp_sub; first | refine GX.b_dec ?_ | refine GX.b_ded ?_ | refine GX.b_sub ?_ | refine GX.b_subw ?_)) | refine GX.gt ?_ | refine GX.gf ?_ | refine GX.gbt ?_ | refine GX.gbf ?_ | refine GX.un ?_ | refine GX.un0 ?_) | apply GX.then_normal | apply GX.seq | apply GX.region | (apply GX.s_cond; first | refine GX.ct ?_ | refine GX.cf ?_ | refine GX.cdf ?_ | refine GX.cdt ?_ | refine GX.cbt ?_ | refine GX.cbf ?_) | apply GX.skip | apply GX.block | apply GX.inBlock_normal | apply GX.exit | apply GX.then_exit | apply GX.inBlock_exit | refine GX.ibo ?_ | apply GX.ret | apply GX.then_ret | apply GX.inBlock_ret)); (repeat revert v9_); exact hB_.out) : A := h1 ⟨h⟩
theorem wRB {A B : Prop} (h : B) (h1 : Hold B → A := by intro hB_; (repeat (first | (apply GX.s_list; first | apply GX.nil | (refine GX.o ?_; first | (apply GX.k_load; first | refine GX.lr ?_ | refine GX.lrA ?_ | refine GX.ln ?_ | refine GX.lb ?_ | refine GX.lh ?_ | (refine GX.ls ?_; intro v9_ v9_ v9_ v9_) | (refine GX.lA ?_; intro v9_) | (refine GX.l0 ?_; intro v9_) | refine GX.o1n ?_ | refine GX.o1b ?_ | refine GX.o1h ?_ | (refine GX.o1s ?_; intro v9_ v9_ v9_ v9_) | refine GX.omn ?_ | refine GX.omb ?_ | refine GX.omh ?_ | (refine GX.oms ?_; intro v9_ v9_ v9_ v9_) | refine GX.ofn ?_ | refine GX.ofb ?_ | refine GX.ofh ?_ | (refine GX.ofs ?_; intro v9_ v9_ v9_ v9_) | (refine GX.oA ?_; intro v9_)) | (apply GX.k_move; refine GX.m ?_) | (apply GX.k_indexAddr; first | refine GX.io1 ?_ | refine GX.ioh ?_ | refine GX.i1 ?_ | refine GX.ih ?_ | (refine GX.ix ?_; intro v9_ v9_)) | (apply GX.k_binOp_lss; refine GX.b_lss ?_) | (apply GX.k_binOp_add; first | refine GX.b_inc ?_ | refine GX.b_add ?_ | refine GX.b_addw ?_) | (apply GX.k_assign; refine GX.a ?_) | (apply GX.k_fieldAddr; first | refine GX.f0 ?_ | refine GX.fh ?_ | refine GX.fa ?_) | (apply GX.k_call; first | refine GX.c_len ?_ | refine GX.c_max ?_ | refine GX.c_min ?_ | (refine GX.ap ?_; intro v9_ v9_) | (refine GX.ap0 ?_; intro v9_ v9_)) | (apply GX.k_pick; first | refine GX.pt ?_ | refine GX.pf ?_ | refine GX.pk ?_) | (apply GX.k_store; first | refine GX.stW ?_ | refine GX.stB ?_ | refine GX.stR ?_ | refine GX.stRW ?_ | refine GX.so1 ?_ | refine GX.som ?_ | refine GX.sof ?_ | refine GX.sog ?_) | (apply GX.k_extract; refine GX.ex ?_) | (apply GX.k_box; first | (refine GX.bxF ?_; intro v9_) | (refine GX.bxR ?_; intro v9_)) | (apply GX.k_slice; first | (refine GX.ch ?_; intro v9_) | (refine GX.cl_ ?_; intro v9_) | (refine GX.cb_ ?_; intro v9_)) | (apply GX.k_unOp; first | refine GX.nt ?_ | refine GX.nf ?_ | refine GX.nd ?_ | refine GX.n_ ?_) | (apply GX.k_lookup; first | refine GX.lk ?_ | refine GX.lko ?_) | (apply GX.k_nilCheck; refine GX.nc ?_) | (apply GX.k_build; refine GX.bd ?_) | (apply GX.k_buildSlice; (refine GX.sl ?_; intro v9_)) | (apply GX.k_alloc; (refine GX.al ?_; intro v9_)) | (apply GX.k_makeSlice; (refine GX.mks ?_; intro v9_)) | (apply GX.k_makeFunc; refine GX.mkf ?_) | (apply GX.k_makeMap; (refine GX.mm ?_; intro v9_)) | (apply GX.k_mapUpdate; refine GX.mu ?_) | (apply GX.k_binOp_and; refine GX.b_and ?_) | (apply GX.k_binOp_eql; first | refine GX.b_eql ?_ | refine GX.b_pn ?_ | refine GX.b_nn ?_ | refine GX.b_snn ?_ | refine GX.b_sns ?_ | refine GX.b_eqls ?_ | refine GX.b_eqltf ?_ | refine GX.b_eqlft ?_ | refine GX.b_eqlb ?_) | (apply GX.k_binOp_geq; refine GX.b_geq ?_) | (apply GX.k_binOp_gtr; refine GX.b_gtr ?_) | (apply GX.k_binOp_leq; refine GX.b_leq ?_) | (apply GX.k_binOp_mul; first | refine GX.b_mul ?_ | refine GX.b_mulw ?_) | (apply GX.k_binOp_neq; first | refine GX.b_neq ?_ | refine GX.b_pm ?_ | refine GX.b_nm ?_ | refine GX.b_neqs ?_ | refine GX.b_neqtf ?_ | refine GX.b_neqft ?_ | refine GX.b_neqb ?_) | (apply GX.k_binOp_rem; refine GX.b_rem ?_) | (apply GX.k_binOp_sub; first | refine GX.b_dec ?_ | refine GX.b_ded ?_ | refine GX.b_sub ?_ | refine GX.b_subw ?_)) | refine GX.gt ?_ | refine GX.gf ?_ | refine GX.gbt ?_ | refine GX.gbf ?_ | refine GX.un ?_ | refine GX.un0 ?_) | apply GX.then_normal | apply GX.seq | apply GX.region | (apply GX.s_cond; first | refine GX.ct ?_ | refine GX.cf ?_ | refine GX.cdf ?_ | refine GX.cdt ?_ | refine GX.cbt ?_ | refine GX.cbf ?_) | apply GX.skip | apply GX.inBlock_normal | apply GX.exit | apply GX.then_exit | apply GX.inBlock_exit | refine GX.ibo ?_ | apply GX.ret | apply GX.then_ret | apply GX.inBlock_ret)); (repeat revert v9_); exact hB_.out) : A := h1 ⟨h⟩
theorem wRN {A B : Prop} (h : B) (h1 : Hold B → A := by intro hB_; (repeat (first | (apply GX.s_list; first | apply GX.nil | (refine GX.o ?_; first | (apply GX.k_load; first | refine GX.lr ?_ | refine GX.lrA ?_ | refine GX.ln ?_ | refine GX.lb ?_ | refine GX.lh ?_ | (refine GX.ls ?_; intro v9_ v9_ v9_ v9_) | (refine GX.lA ?_; intro v9_) | (refine GX.l0 ?_; intro v9_) | refine GX.o1n ?_ | refine GX.o1b ?_ | refine GX.o1h ?_ | (refine GX.o1s ?_; intro v9_ v9_ v9_ v9_) | refine GX.omn ?_ | refine GX.omb ?_ | refine GX.omh ?_ | (refine GX.oms ?_; intro v9_ v9_ v9_ v9_) | refine GX.ofn ?_ | refine GX.ofb ?_ | refine GX.ofh ?_ | (refine GX.ofs ?_; intro v9_ v9_ v9_ v9_) | (refine GX.oA ?_; intro v9_)) | (apply GX.k_move; refine GX.m ?_) | (apply GX.k_indexAddr; first | refine GX.io1 ?_ | refine GX.ioh ?_ | refine GX.i1 ?_ | refine GX.ih ?_ | (refine GX.ix ?_; intro v9_ v9_)) | (apply GX.k_binOp_lss; refine GX.b_lss ?_) | (apply GX.k_binOp_add; first | refine GX.b_inc ?_ | refine GX.b_add ?_ | refine GX.b_addw ?_) | (apply GX.k_assign; refine GX.a ?_) | (apply GX.k_fieldAddr; first | refine GX.f0 ?_ | refine GX.fh ?_ | refine GX.fa ?_) | (apply GX.k_call; first | refine GX.c_len ?_ | refine GX.c_max ?_ | refine GX.c_min ?_ | (refine GX.ap ?_; intro v9_ v9_) | (refine GX.ap0 ?_; intro v9_ v9_)) | (apply GX.k_pick; first | refine GX.pt ?_ | refine GX.pf ?_ | refine GX.pk ?_) | (apply GX.k_store; first | refine GX.stW ?_ | refine GX.stB ?_ | refine GX.stR ?_ | refine GX.stRW ?_ | refine GX.so1 ?_ | refine GX.som ?_ | refine GX.sof ?_ | refine GX.sog ?_) | (apply GX.k_extract; refine GX.ex ?_) | (apply GX.k_box; first | (refine GX.bxF ?_; intro v9_) | (refine GX.bxR ?_; intro v9_)) | (apply GX.k_slice; first | (refine GX.ch ?_; intro v9_) | (refine GX.cl_ ?_; intro v9_) | (refine GX.cb_ ?_; intro v9_)) | (apply GX.k_unOp; first | refine GX.nt ?_ | refine GX.nf ?_ | refine GX.nd ?_ | refine GX.n_ ?_) | (apply GX.k_lookup; first | refine GX.lk ?_ | refine GX.lko ?_) | (apply GX.k_nilCheck; refine GX.nc ?_) | (apply GX.k_build; refine GX.bd ?_) | (apply GX.k_buildSlice; (refine GX.sl ?_; intro v9_)) | (apply GX.k_alloc; (refine GX.al ?_; intro v9_)) | (apply GX.k_makeSlice; (refine GX.mks ?_; intro v9_)) | (apply GX.k_makeFunc; refine GX.mkf ?_) | (apply GX.k_makeMap; (refine GX.mm ?_; intro v9_)) | (apply GX.k_mapUpdate; refine GX.mu ?_) | (apply GX.k_binOp_and; refine GX.b_and ?_) | (apply GX.k_binOp_eql; first | refine GX.b_eql ?_ | refine GX.b_pn ?_ | refine GX.b_nn ?_ | refine GX.b_snn ?_ | refine GX.b_sns ?_ | refine GX.b_eqls ?_ | refine GX.b_eqltf ?_ | refine GX.b_eqlft ?_ | refine GX.b_eqlb ?_) | (apply GX.k_binOp_geq; refine GX.b_geq ?_) | (apply GX.k_binOp_gtr; refine GX.b_gtr ?_) | (apply GX.k_binOp_leq; refine GX.b_leq ?_) | (apply GX.k_binOp_mul; first | refine GX.b_mul ?_ | refine GX.b_mulw ?_) | (apply GX.k_binOp_neq; first | refine GX.b_neq ?_ | refine GX.b_pm ?_ | refine GX.b_nm ?_ | refine GX.b_neqs ?_ | refine GX.b_neqtf ?_ | refine GX.b_neqft ?_ | refine GX.b_neqb ?_) | (apply GX.k_binOp_rem; refine GX.b_rem ?_) | (apply GX.k_binOp_sub; first | refine GX.b_dec ?_ | refine GX.b_ded ?_ | refine GX.b_sub ?_ | refine GX.b_subw ?_)) | refine GX.gt ?_ | refine GX.gf ?_ | refine GX.gbt ?_ | refine GX.gbf ?_ | refine GX.un ?_ | refine GX.un0 ?_) | apply GX.then_normal | apply GX.seq | (apply GX.s_cond; first | refine GX.ct ?_ | refine GX.cf ?_ | refine GX.cdf ?_ | refine GX.cdt ?_ | refine GX.cbt ?_ | refine GX.cbf ?_) | apply GX.skip | apply GX.block | apply GX.inBlock_normal | apply GX.exit | apply GX.then_exit | apply GX.inBlock_exit | refine GX.ibo ?_ | apply GX.ret | apply GX.then_ret | apply GX.inBlock_ret)); (repeat revert v9_); exact hB_.out) : A := h1 ⟨h⟩
theorem wT {A B : Prop} (h : B) (h1 : Hold B → A := by intro hB_; (repeat (first | (apply GX.s_take; first | (refine GX.tkp ?_; first | (apply GX.t_move; refine GX.tm ?_) | (apply GX.t_indexAddr; first | refine GX.ti1 ?_ | refine GX.tih ?_) | (apply GX.t_binOp_lss; refine GX.tb_lss ?_) | (apply GX.t_binOp_add; first | refine GX.tb_inc ?_ | refine GX.tb_add ?_ | refine GX.tb_addw ?_) | (apply GX.t_fieldAddr; first | refine GX.tf0 ?_ | refine GX.tfh ?_ | refine GX.tfa ?_) | (apply GX.t_pick; first | refine GX.tpt ?_ | refine GX.tpf ?_ | refine GX.tpk ?_) | (apply GX.t_unOp; first | refine GX.tnt ?_ | refine GX.tnf ?_ | refine GX.tnd ?_ | refine GX.tn_ ?_) | (apply GX.t_nilCheck; refine GX.tnc ?_) | (apply GX.t_build; refine GX.tbd ?_) | (apply GX.t_binOp_and; refine GX.tb_and ?_) | (apply GX.t_binOp_eql; first | refine GX.tb_eql ?_ | refine GX.tb_pn ?_ | refine GX.tb_nn ?_ | refine GX.tb_snn ?_ | refine GX.tb_sns ?_ | refine GX.tb_eqls ?_ | refine GX.tb_eqltf ?_ | refine GX.tb_eqlft ?_ | refine GX.tb_eqlb ?_) | (apply GX.t_binOp_geq; refine GX.tb_geq ?_) | (apply GX.t_binOp_gtr; refine GX.tb_gtr ?_) | (apply GX.t_binOp_leq; refine GX.tb_leq ?_) | (apply GX.t_binOp_mul; first | refine GX.tb_mul ?_ | refine GX.tb_mulw ?_) | (apply GX.t_binOp_neq; first | refine GX.tb_neq ?_ | refine GX.tb_pm ?_ | refine GX.tb_nm ?_ | refine GX.tb_neqs ?_ | refine GX.tb_neqtf ?_ | refine GX.tb_neqft ?_ | refine GX.tb_neqb ?_) | (apply GX.t_binOp_rem; refine GX.tb_rem ?_) | (apply GX.t_binOp_sub; first | refine GX.tb_dec ?_ | refine GX.tb_ded ?_ | refine GX.tb_sub ?_ | refine GX.tb_subw ?_)) | ((first | refine GX.tkr ?_ | refine GX.tkrE ?_); first | (apply GX.r_load; first | refine GX.rlr ?_ | refine GX.rlrA ?_ | refine GX.rln ?_ | refine GX.rlb ?_ | refine GX.rlh ?_ | (refine GX.rls ?_; intro v9_ v9_ v9_ v9_ v9_) | (refine GX.rlA ?_; intro v9_ v9_) | (refine GX.rl0 ?_; intro v9_ v9_) | refine GX.ro1n ?_ | refine GX.ro1b ?_ | refine GX.ro1h ?_ | (refine GX.ro1s ?_; intro v9_ v9_ v9_ v9_ v9_) | refine GX.romn ?_ | refine GX.romb ?_ | refine GX.romh ?_ | (refine GX.roms ?_; intro v9_ v9_ v9_ v9_ v9_) | refine GX.rofn ?_ | refine GX.rofb ?_ | refine GX.rofh ?_ | (refine GX.rofs ?_; intro v9_ v9_ v9_ v9_ v9_) | (refine GX.roA ?_; intro v9_ v9_)) | (apply GX.r_indexAddr; first | refine GX.rio1 ?_ | refine GX.rioh ?_ | (refine GX.rix ?_; intro v9_ v9_ v9_)) | (apply GX.r_assign; refine GX.ra ?_) | (apply GX.r_call; first | refine GX.rc_len ?_ | refine GX.rc_max ?_ | refine GX.rc_min ?_) | (apply GX.r_extract; refine GX.rex ?_) | (apply GX.r_slice; first | (refine GX.rch ?_; intro v9_ v9_) | (refine GX.rcl_ ?_; intro v9_ v9_) | (refine GX.rcb_ ?_; intro v9_ v9_)) | (apply GX.r_lookup; first | refine GX.rlk ?_ | refine GX.rlko ?_) | (apply GX.r_makeFunc; refine GX.rmkf ?_)) | (refine GX.tkx ?_; first | (refine GX.xix ?_; intro v9_ v9_ v9_)) | refine GX.pgt ?_ | refine GX.pgf ?_ | refine GX.pgbt ?_ | refine GX.pgbf ?_ | refine GX.tkn ?_ | refine GX.tknE ?_) | (apply GX.s_go; first | (refine GX.gow ?_; first | (apply GX.k_load; first | refine GX.lr ?_ | refine GX.lrA ?_ | refine GX.ln ?_ | refine GX.lb ?_ | refine GX.lh ?_ | (refine GX.ls ?_; intro v9_ v9_ v9_ v9_) | (refine GX.lA ?_; intro v9_) | (refine GX.l0 ?_; intro v9_) | refine GX.o1n ?_ | refine GX.o1b ?_ | refine GX.o1h ?_ | (refine GX.o1s ?_; intro v9_ v9_ v9_ v9_) | refine GX.omn ?_ | refine GX.omb ?_ | refine GX.omh ?_ | (refine GX.oms ?_; intro v9_ v9_ v9_ v9_) | refine GX.ofn ?_ | refine GX.ofb ?_ | refine GX.ofh ?_ | (refine GX.ofs ?_; intro v9_ v9_ v9_ v9_) | (refine GX.oA ?_; intro v9_)) | (apply GX.k_move; refine GX.m ?_) | (apply GX.k_indexAddr; first | refine GX.io1 ?_ | refine GX.ioh ?_ | refine GX.i1 ?_ | refine GX.ih ?_ | (refine GX.ix ?_; intro v9_ v9_)) | (apply GX.k_binOp_lss; refine GX.b_lss ?_) | (apply GX.k_binOp_add; first | refine GX.b_inc ?_ | refine GX.b_add ?_ | refine GX.b_addw ?_) | (apply GX.k_assign; refine GX.a ?_) | (apply GX.k_fieldAddr; first | refine GX.f0 ?_ | refine GX.fh ?_ | refine GX.fa ?_) | (apply GX.k_call; first | refine GX.c_len ?_ | refine GX.c_max ?_ | refine GX.c_min ?_ | (refine GX.ap ?_; intro v9_ v9_) | (refine GX.ap0 ?_; intro v9_ v9_)) | (apply GX.k_pick; first | refine GX.pt ?_ | refine GX.pf ?_ | refine GX.pk ?_) | (apply GX.k_store; first | refine GX.stW ?_ | refine GX.stB ?_ | refine GX.stR ?_ | refine GX.stRW ?_ | refine GX.so1 ?_ | refine GX.som ?_ | refine GX.sof ?_ | refine GX.sog ?_) | (apply GX.k_extract; refine GX.ex ?_) | (apply GX.k_box; first | (refine GX.bxF ?_; intro v9_) | (refine GX.bxR ?_; intro v9_)) | (apply GX.k_slice; first | (refine GX.ch ?_; intro v9_) | (refine GX.cl_ ?_; intro v9_) | (refine GX.cb_ ?_; intro v9_)) | (apply GX.k_unOp; first | refine GX.nt ?_ | refine GX.nf ?_ | refine GX.nd ?_ | refine GX.n_ ?_) | (apply GX.k_lookup; first | refine GX.lk ?_ | refine GX.lko ?_) | (apply GX.k_nilCheck; refine GX.nc ?_) | (apply GX.k_build; refine GX.bd ?_) | (apply GX.k_buildSlice; (refine GX.sl ?_; intro v9_)) | (apply GX.k_alloc; (refine GX.al ?_; intro v9_)) | (apply GX.k_makeSlice; (refine GX.mks ?_; intro v9_)) | (apply GX.k_makeFunc; refine GX.mkf ?_) | (apply GX.k_makeMap; (refine GX.mm ?_; intro v9_)) | (apply GX.k_mapUpdate; refine GX.mu ?_) | (apply GX.k_binOp_and; refine GX.b_and ?_) | (apply GX.k_binOp_eql; first | refine GX.b_eql ?_ | refine GX.b_pn ?_ | refine GX.b_nn ?_ | refine GX.b_snn ?_ | refine GX.b_sns ?_ | refine GX.b_eqls ?_ | refine GX.b_eqltf ?_ | refine GX.b_eqlft ?_ | refine GX.b_eqlb ?_) | (apply GX.k_binOp_geq; refine GX.b_geq ?_) | (apply GX.k_binOp_gtr; refine GX.b_gtr ?_) | (apply GX.k_binOp_leq; refine GX.b_leq ?_) | (apply GX.k_binOp_mul; first | refine GX.b_mul ?_ | refine GX.b_mulw ?_) | (apply GX.k_binOp_neq; first | refine GX.b_neq ?_ | refine GX.b_pm ?_ | refine GX.b_nm ?_ | refine GX.b_neqs ?_ | refine GX.b_neqtf ?_ | refine GX.b_neqft ?_ | refine GX.b_neqb ?_) | (apply GX.k_binOp_rem; refine GX.b_rem ?_) | (apply GX.k_binOp_sub; first | refine GX.b_dec ?_ | refine GX.b_ded ?_ | refine GX.b_sub ?_ | refine GX.b_subw ?_)) | refine GX.pgt ?_ | refine GX.pgf ?_ | refine GX.pgbt ?_ | refine GX.pgbf ?_ | refine GX.gon ?_) | (apply GX.s_went; first | refine GX.wentF ?_ | refine GX.went ?_ | refine GX.wentE ?_) | apply GX.done | apply GX.treeL | apply GX.treeB | apply GX.treeO | apply GX.endK | (apply GX.s_gok; refine GX.gok ?_; first | (apply GX.k_load; first | refine GX.lr ?_ | refine GX.lrA ?_ | refine GX.ln ?_ | refine GX.lb ?_ | refine GX.lh ?_ | (refine GX.ls ?_; intro v9_ v9_ v9_ v9_) | (refine GX.lA ?_; intro v9_) | (refine GX.l0 ?_; intro v9_) | refine GX.o1n ?_ | refine GX.o1b ?_ | refine GX.o1h ?_ | (refine GX.o1s ?_; intro v9_ v9_ v9_ v9_) | refine GX.omn ?_ | refine GX.omb ?_ | refine GX.omh ?_ | (refine GX.oms ?_; intro v9_ v9_ v9_ v9_) | refine GX.ofn ?_ | refine GX.ofb ?_ | refine GX.ofh ?_ | (refine GX.ofs ?_; intro v9_ v9_ v9_ v9_) | (refine GX.oA ?_; intro v9_)) | (apply GX.k_move; refine GX.m ?_) | (apply GX.k_indexAddr; first | refine GX.io1 ?_ | refine GX.ioh ?_ | refine GX.i1 ?_ | refine GX.ih ?_ | (refine GX.ix ?_; intro v9_ v9_)) | (apply GX.k_binOp_lss; refine GX.b_lss ?_) | (apply GX.k_binOp_add; first | refine GX.b_inc ?_ | refine GX.b_add ?_ | refine GX.b_addw ?_) | (apply GX.k_assign; refine GX.a ?_) | (apply GX.k_fieldAddr; first | refine GX.f0 ?_ | refine GX.fh ?_ | refine GX.fa ?_) | (apply GX.k_call; first | refine GX.c_len ?_ | refine GX.c_max ?_ | refine GX.c_min ?_ | (refine GX.ap ?_; intro v9_ v9_) | (refine GX.ap0 ?_; intro v9_ v9_)) | (apply GX.k_pick; first | refine GX.pt ?_ | refine GX.pf ?_ | refine GX.pk ?_) | (apply GX.k_store; first | refine GX.stW ?_ | refine GX.stB ?_ | refine GX.stR ?_ | refine GX.stRW ?_ | refine GX.so1 ?_ | refine GX.som ?_ | refine GX.sof ?_ | refine GX.sog ?_) | (apply GX.k_extract; refine GX.ex ?_) | (apply GX.k_box; first | (refine GX.bxF ?_; intro v9_) | (refine GX.bxR ?_; intro v9_)) | (apply GX.k_slice; first | (refine GX.ch ?_; intro v9_) | (refine GX.cl_ ?_; intro v9_) | (refine GX.cb_ ?_; intro v9_)) | (apply GX.k_unOp; first | refine GX.nt ?_ | refine GX.nf ?_ | refine GX.nd ?_ | refine GX.n_ ?_) | (apply GX.k_lookup; first | refine GX.lk ?_ | refine GX.lko ?_) | (apply GX.k_nilCheck; refine GX.nc ?_) | (apply GX.k_build; refine GX.bd ?_) | (apply GX.k_buildSlice; (refine GX.sl ?_; intro v9_)) | (apply GX.k_alloc; (refine GX.al ?_; intro v9_)) | (apply GX.k_makeSlice; (refine GX.mks ?_; intro v9_)) | (apply GX.k_makeFunc; refine GX.mkf ?_) | (apply GX.k_makeMap; (refine GX.mm ?_; intro v9_)) | (apply GX.k_mapUpdate; refine GX.mu ?_) | (apply GX.k_binOp_and; refine GX.b_and ?_) | (apply GX.k_binOp_eql; first | refine GX.b_eql ?_ | refine GX.b_pn ?_ | refine GX.b_nn ?_ | refine GX.b_snn ?_ | refine GX.b_sns ?_ | refine GX.b_eqls ?_ | refine GX.b_eqltf ?_ | refine GX.b_eqlft ?_ | refine GX.b_eqlb ?_) | (apply GX.k_binOp_geq; refine GX.b_geq ?_) | (apply GX.k_binOp_gtr; refine GX.b_gtr ?_) | (apply GX.k_binOp_leq; refine GX.b_leq ?_) | (apply GX.k_binOp_mul; first | refine GX.b_mul ?_ | refine GX.b_mulw ?_) | (apply GX.k_binOp_neq; first | refine GX.b_neq ?_ | refine GX.b_pm ?_ | refine GX.b_nm ?_ | refine GX.b_neqs ?_ | refine GX.b_neqtf ?_ | refine GX.b_neqft ?_ | refine GX.b_neqb ?_) | (apply GX.k_binOp_rem; refine GX.b_rem ?_) | (apply GX.k_binOp_sub; first | refine GX.b_dec ?_ | refine GX.b_ded ?_ | refine GX.b_sub ?_ | refine GX.b_subw ?_)))); (repeat revert v9_); exact hB_.out) : A := h1 ⟨h⟩
end Go.GX

/- slices.Values, Collect and Sorted over a part of a list of ints of one's own. -/
namespace Go.Proofs.YtomfpmbapdhbgaaGreat
open Go Go.RR Go.RX Go.GX Go.RowKit Go.Shelf

/-- What was read off a part of it, in a new slice. -/
theorem appendSeq_spec (bl g at_ m cap c : Nat) (xs : List Int) (hm : at_ + m = xs.length) (hl : xs.length ≤ 1000000) : Does Tryz.prog 112 [.slice none 0 0, .func (.func 80) #[] #[.pointer (some ⟨bl, 0, none⟩)]]
    [Pt Ty.hdr bl 0 (some ⟨g, at_, none⟩, m, c)] [GX.Own 3 Ty.int (some ⟨g, 0, none⟩) cap xs] (fun s : Option Addr × Nat => .slice s.1 (xs.drop at_).length s.2) (fun _ => []) (fun s => [GX.Own 3 Ty.int s.1 s.2 (xs.drop at_), GX.Own 3 Ty.int (some ⟨g, 0, none⟩) cap xs]) := by
  constructor
  intro w F b s
  obtain ⟨hF, hbl, cs, hcs, hrd⟩ : (Pt Ty.hdr bl 0 (some ⟨g, at_, none⟩, m, c)).says F w := s.fs _ (by simp)
  have hrd : cs = [.slice (some ⟨g, at_, none⟩) m c] := hrd
  subst hrd
  have hown : (GX.Own 3 Ty.int (some ⟨g, 0, none⟩) cap xs).says F w := s.rs _ (by simp)
  obtain ⟨us, tl, hr, he, _⟩ := own_open hown
  have hus := els_ints.1 he
  have hgl : g < w.heap.size := hr.lt
  have hd : (xs.drop at_).length = m := by rw [List.length_drop]; omega
  have hcell : ∀ j, j < (xs.drop at_).length → w.cell? ⟨g, at_ + j, none⟩ = some (.int .i64 ((xs.drop at_)[j]?.getD 0)) := fun j hj => by
    refine hr.cell_some ?_
    rw [hus, List.getElem?_append_left (by rw [List.length_map]; omega), List.getElem?_map, List.getElem?_drop, List.getElem?_eq_getElem (by omega)]
    rfl
  have hb0 : w.cell? ⟨bl, 0, none⟩ = some (.slice (some ⟨g, at_, none⟩) (xs.drop at_).length c) := by rw [hd]; exact hcs 0 _ rfl
  refine ((callsIn_wide (n := 3)).1 (appendSeq_in Fence.wide 3 trivial trivial rfl (Nat.le_refl _) bl g at_ c _ (xs.drop at_) (fun _ => rfl) (by omega) w hbl hgl hb0 hcell)).mono fun e w' h => ?_
  obtain ⟨v, rfl, hrow, _, hB⟩ := h
  have hu : Upd (feet [GX.Own 3 Ty.int (some ⟨g, 0, none⟩) cap xs]) w w' := ⟨hB.os, hB.tape, hB.output, hB.size, fun k hk _ => hB.block k hk⟩
  obtain ⟨ao, ca, rfl, hbase⟩ : ∃ ao ca, v = .slice ao (xs.drop at_).length ca ∧ ∀ k, (Value.slice ao (xs.drop at_).length ca).ownBlock = some k → w.heap.size ≤ k := by
    rcases hrow.2 with ⟨rfl, h0⟩ | ⟨g', cap', cur, rfl, h3, _⟩
    · exact ⟨none, 0, by rw [h0], fun k hk => by rw [h0] at hk; cases hk⟩
    · exact ⟨some ⟨g', 0, none⟩, cap', rfl, fun k hk => by cases hk; exact h3⟩
  have hnew : (GX.Own 3 Ty.int ao ca (xs.drop at_)).says F w' := by
    refine ⟨(xs.drop at_).map (.int .i64), ⟨hrow.1, ?_⟩, els_ints.2 rfl⟩
    rcases hrow.2 with hn | ⟨g', cap', cur, h2, h3, h4⟩
    · exact .inl hn
    · exact .inr ⟨g', cap', cur, h2, Nat.zero_le _, h4⟩
  have hon : ∀ k, (GX.Own 3 Ty.int ao ca (xs.drop at_)).on k → w.heap.size ≤ k := hbase
  have hold : ∀ k, (GX.Own 3 Ty.int (some ⟨g, 0, none⟩) cap xs).on k → k < w.heap.size := fun k hk => (GX.Own 3 Ty.int (some ⟨g, 0, none⟩) cap xs).inn hown hk
  refine ⟨(ao, ca), rfl, ?_⟩
  refine mkOk s hu (fun _ => False) (fun k h => h.elim) (fun k h => h.elim) no_p ?_ (fun _ _ _ _ h => h) ?_ ?_
  · intro r hr'
    rcases List.mem_cons.1 hr' with rfl | hr'
    · exact (GX.Own 3 Ty.int ao ca (xs.drop at_)).move hnew (fun _ _ h => .inl h) (Agree.refl _ _) (Agree.refl _ _)
    · obtain rfl : r = _ := by simpa using hr'
      exact (GX.Own 3 Ty.int (some ⟨g, 0, none⟩) cap xs).move hown (fun _ _ h => .inl h) ⟨hB.size, fun k hk _ => hB.block k hk⟩ ⟨hB.size, fun k hk _ => hB.block k hk⟩
  · refine List.pairwise_cons.2 ⟨fun r hr' k h1 h2 => ?_, by simp⟩
    obtain rfl : r = _ := by simpa using hr'
    have := hon k h1
    have := hold k h2
    omega
  · intro r hr' k hk hlt
    rcases List.mem_cons.1 hr' with rfl | hr'
    · have := hon k hk; omega
    · exact ⟨r, by simpa using hr', hk⟩
attribute [local irreducible] wpList Code.wp wpPlan Exit.then Exit.inBlock bodyPost NoPanic Went GX.Post GX.Again GX.Meet GX.RowR GX.Own GX.Owns GX.Box GX.Sl GX.Pt GX.Ag GX.MapR GX.Kept GX.Pin wpT GoK AtEnd Both
theorem valuesG_spec (a : Option Addr) (m c : Nat) : Does Tryz.prog 54 [.slice a m c] [] [] (fun bl : Nat => .func (.func 80) #[] #[.pointer (some ⟨bl, 0, none⟩)]) (fun bl => [Pt Ty.hdr bl 0 (a, m, c)]) (fun _ => []) := by
  refine enter Tryz.func54 rfl Tryz.ntmps54 rfl fun b => ?_
  refine GX.wRA ?_; intros
  refine GX.nmP 1 ?_; rintro b1 rfl
  refine frzH b1 ?_ rfl
  exact rt1 b1 rfl
theorem collect_spec (bl g at_ m cap c : Nat) (xs : List Int) (hm : at_ + m = xs.length) (hl : xs.length ≤ 1000000) : Does Tryz.prog 78 [.func (.func 80) #[] #[.pointer (some ⟨bl, 0, none⟩)]]
    [Pt Ty.hdr bl 0 (some ⟨g, at_, none⟩, m, c)] [GX.Own 3 Ty.int (some ⟨g, 0, none⟩) cap xs] (fun s : Option Addr × Nat => .slice s.1 (xs.drop at_).length s.2) (fun _ => []) (fun s => [GX.Own 3 Ty.int s.1 s.2 (xs.drop at_), GX.Own 3 Ty.int (some ⟨g, 0, none⟩) cap xs]) := by
  refine enter Tryz.func78 rfl Tryz.ntmps78 rfl fun b => ?_
  refine GX.wR ?_; intros
  refine GX.o (cl (appendSeq_spec bl g at_ m cap c xs hm hl) fun s => ?_)
  refine GX.wR ?_; intros
  exact rt1 s rfl
theorem sortedG_spec (bl g at_ m cap c : Nat) (xs : List Int) (hm : at_ + m = xs.length) (hl : xs.length ≤ 1000000) : Does Tryz.prog 53 [.func (.func 80) #[] #[.pointer (some ⟨bl, 0, none⟩)]]
    [Pt Ty.hdr bl 0 (some ⟨g, at_, none⟩, m, c)] [GX.Own 3 Ty.int (some ⟨g, 0, none⟩) cap xs] (fun s : Option Addr × Nat => .slice s.1 (sorted (xs.drop at_)).length s.2) (fun _ => []) (fun s => [GX.Own 3 Ty.int s.1 s.2 (sorted (xs.drop at_)), GX.Own 3 Ty.int (some ⟨g, 0, none⟩) cap xs]) := by
  refine enter Tryz.func53 rfl Tryz.ntmps53 rfl fun b => ?_
  refine GX.wR ?_; intros
  refine GX.o (cl (collect_spec bl g at_ m cap c xs hm hl) fun s => ?_)
  refine GX.wR ?_; intros
  refine GX.o (cl (sort_spec s.1 s.2 (xs.drop at_) (by rw [List.length_drop]; omega)) fun _ => ?_)
  refine GX.wR ?_; intros
  exact rt1 s (by rw [sorted_len])
end Go.Proofs.YtomfpmbapdhbgaaGreat

/- Parts of slices of one's own: cutting, and the built-in clear, for elements of one cell. No program in sight. -/
namespace Go.GX
open Go Go.RowKit Go.RR Go.RX
section
variable {P : Program} {n : Nat} {env : Env} {b : Base} {ps : List Pf} {hp : List Res} {Q : Exit → Act → World → Prop} {K : Act → World → Prop}
variable {ty : TypeId} {pos : String} {aft : Array Edge} {gd : Option (Nat × Bool)} {α : Type} {e : Ty α}

theorem els_take {F : Nat → Prop} {w : World} : ∀ {xs : List α} {cs : List Value} (j : Nat), Els e F w cs xs → Els e F w (cs.take (j * e.size)) (xs.take j)
  | [], cs, j, h => by
    have h : cs = [] := h
    subst h; simp; rfl
  | x :: xs, cs, 0, h => by simp; rfl
  | x :: xs, cs, j + 1, ⟨c1, c2, h1, h2, h3⟩ => by
    have hl := e.len h2
    refine ⟨c1, c2.take (j * e.size), ?_, h2, els_take j h3⟩
    rw [h1, Nat.add_mul, Nat.one_mul, Nat.add_comm, ← hl, List.take_length_add_append]
/-- Fewer of them. -/
theorem ownTake (ao : Option Addr) (j : Nat) {t : TypeId} {cap : Nat} {xs : List α} {rest : List Res} [hf : FOwn ao hp t e cap xs rest] (h : G n env b ps (Own t e ao cap (xs.take j) :: rest) K) : G n env b ps hp K := by
  refine alter (hp1 := [Own t e ao cap xs]) (hp2 := [Own t e ao cap (xs.take j)]) hf.p ?_ ?_ h
  · intro F w h1 _
    refine ⟨fun r hr => ?_, by simp⟩
    obtain rfl : r = _ := by simpa using hr
    obtain ⟨cs, g1, g2⟩ : (Own t e ao cap xs).says F w := h1 _ (by simp)
    have hlen := els_take j g2
    rcases g1.2 with ⟨h3, h4⟩ | ⟨g, cap', cur, h3, hb, hg, h5, h6, h7, h8⟩
    · simp at h3
      obtain ⟨rfl, hx, rfl⟩ := h3
      subst hx
      have : cs = [] := g2
      subst this
      simp; exact own_none
    · simp at h3
      obtain ⟨rfl, rfl⟩ := h3
      refine ⟨cs.take (j * e.size), ⟨hlen.len, .inr ⟨g, cap, cur, rfl, hb, hg, ?_, h6, h7, ?_⟩⟩, hlen⟩
      · rw [List.length_take]; omega
      · have h8 : cur.toList.take (xs.length * e.size) = cs := h8
        show cur.toList.take ((xs.take j).length * e.size) = cs.take (j * e.size)
        rw [← h8, List.take_take, List.length_take, Nat.mul_min_mul_right]
  · rintro k ⟨r, hr, hk⟩
    obtain rfl : r = _ := by simpa using hr
    refine ⟨Own t e ao cap xs, by simp, ?_⟩
    have hk : Value.ownBlock (.slice ao (xs.take j).length cap) = some k := hk
    show Value.ownBlock (.slice ao xs.length cap) = some k
    cases ao <;> exact hk
section cutting
variable {t et : TypeId} {x y : Operand} {k : IntKind} {d : Nat}
/-- 's[:j]' of a slice of one's own, as a value. -/
theorem oh {ao : Option Addr} {m cap j sz : Nat} [ht : USlice P t et] [hs : USize P et sz] (h : G n ((d, .slice ao j cap) :: env) b ps hp K) (hx : ev env x = some (.slice ao m cap) := by exact rfl) (hy : ev env y = some (.int k (j : Int)) := by exact rfl) (hj : j ≤ cap := by omega) (hao : ∀ a, ao = some a → a.spot = none := by intro a ha; cases ha; rfl) (hd : Nat.blt d n = true := by exact rfl) :
    GO P n env b ps hp ⟨some d, .slice t x none (some y) none, ty, pos, aft, gd⟩ K Q := by
  refine rd1 (fun a ha o ho w _ => ?_) hd h
  have hb1 := sliceBound_run (P := P) (k := k) (i := (j : Int)) (y := cap) (c := .sliceAcap) (w := w) ⟨by omega, by omega⟩
  have e0 : (if cap = 0 then ao else ao.map (·.add (0 * sz))) = ao := by
    split
    · rfl
    · cases ao with
      | none => rfl
      | some a =>
        have := hao a rfl
        obtain ⟨b, o, sp⟩ := a
        dsimp only at this; subst this
        simp [Addr.add_lit]
  simp [execOp, ho, ha.ev hx, ha.ev hy, Instr.sliceAt, Instr.slice, run_underlying ht.u, Instr.sliceBounds, hb1, hs.s]
  simpa using e0
/-- 's[j:]', likewise. -/
theorem ol {g o m cap j sz : Nat} [ht : USlice P t et] [hs : USize P et sz] (h : ∀ o2, (j < cap → o2 = o + j * sz) → G n ((d, .slice (some ⟨g, o2, none⟩) (m - j) (cap - j)) :: env) b ps hp K) (hx : ev env x = some (.slice (some ⟨g, o, none⟩) m cap) := by exact rfl) (hy : ev env y = some (.int k (j : Int)) := by exact rfl) (hj : j ≤ m := by omega) (hm : m ≤ cap := by omega) (hd : Nat.blt d n = true := by exact rfl) :
    GO P n env b ps hp ⟨some d, .slice t x (some y) none none, ty, pos, aft, gd⟩ K Q := by
  refine rd1 (v := .slice (some ⟨g, if cap = j then o else o + j * sz, none⟩) (m - j) (cap - j)) (fun a ha o' ho w _ => ?_) hd (h _ (fun hlt => by rw [if_neg (by omega)]))
  have hb1 := sliceBound_run (P := P) (k := k) (i := (j : Int)) (y := m) (c := .sliceB) (w := w) ⟨by omega, by omega⟩
  by_cases hc : cap = j
  · simp [execOp, ho, ha.ev hx, ha.ev hy, Instr.sliceAt, Instr.slice, run_underlying ht.u, Instr.sliceBounds, hb1, hs.s, hc]
  · simp [execOp, ho, ha.ev hx, ha.ev hy, Instr.sliceAt, Instr.slice, run_underlying ht.u, Instr.sliceBounds, hb1, hs.s, hc, Addr.add_lit]

theorem effC {w w' : World} {c : Call} {v : Value} (hs : ∀ a, Has n env a → (execOp a.eval ⟨none, .call c, ty, pos, aft, gd⟩).run P w = .ok (.value v) w') (h : E n env w' K) : OW P n env w ⟨none, .call c, ty, pos, aft, gd⟩ K Q := by
  constructor; intro a ha
  show Oper.upon P _ a K Q ((execOp a.eval _).run P w)
  rw [hs a ha]
  exact h.run _ ha
/-- 'clear(s[k:])': what lies ahead stays. -/
theorem clr {z : α} {zv : Value} {g o m c cap k0 : Nat} {xs : List α} {rest : List Res} [ht : USlice P t et] [hz : UTy P et e z zv] [hf : FOwn (some ⟨g, 0, none⟩) hp et e cap xs rest] (h : ∀ ys, ys.length = xs.length → ys.take k0 = xs.take k0 → G n env b ps (Own et e (some ⟨g, 0, none⟩) cap ys :: rest) K)
    (hx : ev env x = some (.slice (some ⟨g, o, none⟩) m c)) (hes : e.size = 1) (hzs : zv.cells = #[zv]) (h1 : zv.oneCell' = true) (ho : m = 0 ∨ (k0 ≤ o ∧ o + m ≤ xs.length)) : GO P n env b ps hp ⟨none, .call { callee := .builtin .clear, args := #[x], argTypes := #[t] }, ty, pos, aft, gd⟩ K Q := by
  refine Acts.use (hp1 := [Own et e (some ⟨g, 0, none⟩) cap xs]) (ι := { ys : List α // ys.length = xs.length ∧ ys.take k0 = xs.take k0 }) (val := fun _ => undef) (pf := fun _ => []) (hr := fun ys => [Own et e (some ⟨g, 0, none⟩) cap ys.1]) ?_ hf.p (fun ys => h ys.1 ys.2.1 ys.2.2)
  intro F w K Q b s hk
  rcases Nat.eq_zero_or_pos m with hm | hm
  · subst hm
    refine effC (v := .tuple #[]) (w' := w) (fun a ha => ?_) (hk ⟨xs, rfl, rfl⟩ w (mkOk1 s (Upd.refl _ _) (s.rs (Own et e (some ⟨g, 0, none⟩) cap xs) (by simp)) (fun k hk _ => hk)))
    simp [execOp, ha.ev hx, resolve, invoke, builtin, Builtin.clear_, run_underlying ht.u]
  · obtain ⟨ho1, ho2⟩ : k0 ≤ o ∧ o + m ≤ xs.length := by omega
    obtain ⟨cs, tl, g1, g2, g3, g4, g5⟩ := own_open (s.rs (Own et e (some ⟨g, 0, none⟩) cap xs) (by simp))
    have hcl := g2.len
    rw [hes, Nat.mul_one] at hcl
    obtain ⟨w', k1, k2, k3⟩ := run_storeAll (P := P) (bl := g) (o := o) (te := et) (List.replicate m zv) (cs ++ tl) w 0 g1 (by simp; omega) (fun u hu => by rw [List.eq_of_mem_replicate hu]; exact h1)
    have hzc : (Builtin.zeroCells zv.cells m).toList = List.replicate m zv := by
      rw [hzs]
      simp [Builtin.zeroCells]
      apply List.ext_getElem
      · simp
      · intro i h1 h2; simp [Nat.mod_one]
    have hrd : e.rd F w [zv] z := by have := hz.rd F w; rw [hzs] at this; exact this
    refine effC (v := .tuple #[]) (w' := w') (fun a ha => ?_) (hk ⟨xs.take o ++ (List.replicate m z ++ xs.drop (o + m)), by simp; omega, by rw [List.take_append_of_le_length (by simp; omega), List.take_take, Nat.min_eq_left ho1]⟩ w' (mkOk1 s (k3.mono fun k _ hk => by subst hk; rfl) (own_close (cs := cs.take o ++ (List.replicate m zv ++ cs.drop (o + m))) (tl := tl) ?_ ?_ ?_ (by simp; omega) g5) (fun k hk _ => hk)))
    · obtain ⟨m', rfl⟩ : ∃ m', m = m' + 1 := ⟨m - 1, by omega⟩
      simp [execOp, ha.ev hx, resolve, invoke, builtin, Builtin.clear_, run_underlying ht.u, hz.zero, hzc, k1]
    · have e1 : over (cs ++ tl) (o + 0) (List.replicate m zv) = cs.take o ++ (List.replicate m zv ++ cs.drop (o + m)) ++ tl := by
        unfold over
        rw [Nat.add_zero, List.length_replicate, List.take_append_of_le_length (by omega), List.drop_append_of_le_length (by omega)]
        simp
      rw [e1] at k2; exact k2
    · have hu' : Upd (feet [Own et e (some ⟨g, 0, none⟩) cap xs]) w w' := k3.mono fun k _ hk => ⟨Own et e (some ⟨g, 0, none⟩) cap xs, by simp, by subst hk; rfl⟩
      have a1 := els_take o g2
      rw [hes, Nat.mul_one] at a1
      have a3 : Els e F w (cs.drop (o + m)) (xs.drop (o + m)) := by
        have key : ∀ (j : Nat) (xs : List α) (cs : List Value), Els e F w cs xs → Els e F w (cs.drop j) (xs.drop j) := by
          intro j
          induction j with
          | zero => intro xs cs h; simpa using h
          | succ j ih =>
            intro xs cs h
            cases xs with
            | nil => have h : cs = [] := h
                     subst h; simp; rfl
            | cons x xs =>
              obtain ⟨c1, c2, q1, q2, q3⟩ := h
              have hl := e.len q2
              rw [q1, List.drop_succ_cons, show j + 1 = c1.length + j by omega, ← List.drop_drop, List.drop_left]
              exact ih xs c2 q3
        exact key _ _ _ g2
      have a2 : Els e F w (List.replicate m zv) (List.replicate m z) := by
        have := els_rep hrd m
        simpa using this
      exact (a1.append (a2.append a3)).move (fun _ _ h => h) (agF s hu')
    · rw [← g3]; simp; omega
end cutting

/-- A call of a function value; one thing more is one's own, and is not touched. -/
theorem clvR {d : Nat} {f : FuncId} {x : Operand} {xs : List Operand} {ts : Array TypeId} {vs fs cs : List Value} {r : Res} {hpC : List Res} [hf : UFunc P f] {ps1 : List Pf} {σ : Type} {val : σ → Value}
    (hc : Does P f (fs ++ (vs ++ cs)) ps1 hpC val (fun _ => []) (fun _ => hpC)) (h : ∀ s, G n ((d, val s) :: env) b ps (r :: hpC) K)
    (hx : ev env x = some (.func (.func f) fs.toArray cs.toArray) := by exact rfl) (hxs : evs env xs = some vs := by exact rfl)
    (hps : Suf ps1 ps := by repeat (first | (with_reducible apply Go.GX.Suf.refl) | apply Go.GX.Suf.tail)) (hd : Nat.blt d n = true := by exact rfl) :
    GO P n env b ps (r :: hpC) ⟨some d, .call { callee := .value x, args := xs.toArray, argTypes := ts }, ty, pos, aft, gd⟩ K Q :=
  callvG (rest := [r]) hc hx hxs hps.sub (List.perm_append_comm (l₁ := [r])) hd (fun s => perm (List.perm_append_comm (l₂ := [r])) (by rw [List.nil_append]; exact h s))
theorem clR {d : Nat} {f : FuncId} {xs : List Operand} {ts : Array TypeId} {vs : List Value} [hf : UFunc P f] {ps1 : List Pf} {σ : Type} {val : σ → Value} {hp' : σ → List Res}
    (hc : Does P f vs ps1 hp val (fun _ => []) hp') (h : ∀ s, G n ((d, val s) :: env) b ps (hp' s) K) (hxs : evs env xs = some vs := by exact rfl)
    (hps : Suf ps1 ps := by repeat (first | (with_reducible apply Go.GX.Suf.refl) | apply Go.GX.Suf.tail)) (hd : Nat.blt d n = true := by exact rfl) :
    GO P n env b ps hp ⟨some d, .call { callee := .value (.func f), args := xs.toArray, argTypes := ts }, ty, pos, aft, gd⟩ K Q :=
  call hc hxs hps.sub (rest := []) (by rw [List.append_nil]) hd (fun s => by rw [List.nil_append, List.append_nil]; exact h s)
end
end Go.GX

/- 'append(nil, make(..)...)', whose cells are then cut off: a slice of one's own with room. No program in sight. -/
namespace Go.GX
open Go Go.RowKit Go.RR Go.RX
section
variable {P : Program} {n : Nat} {env : Env} {b : Base} {ps : List Pf} {hp : List Res} {Q : Exit → Act → World → Prop} {K : Act → World → Prop}
theorem apz {d : Nat} {ty : TypeId} {pos : String} {aft : Array Edge} {gd : Option (Nat × Bool)} {t tn et : TypeId} {x y : Operand} {α : Type} {e : Ty α} {zv : Value} {size bytes c : Nat} {i : Int} [ht : USlice P t et] [hn : UInt P tn .i64] [hi : UElem P et zv size bytes]
    (h : ∀ bl cap, c ≤ cap → G n ((d, .slice (some ⟨bl, 0, none⟩) c cap) :: env) b ps (Own et e (some ⟨bl, 0, none⟩) cap [] :: hp) K)
    (hx : ev env x = some (.slice none 0 0) := by exact rfl) (hy : ev env y = some (.int .i64 i) := by exact rfl) (hc : i = (c : Int) := by first | rfl | omega) (h0 : 0 < c := by omega) (hb : c * bytes ≤ 140737488355328 := by omega) (h63 : c ≤ 9223372036854775807 := by omega) (hsz : e.size = size := by exact rfl) (hzs : zv.cells.size = size := by exact rfl) (hpos : Nat.blt 0 size = true := by exact rfl) (hd : Nat.blt d n = true := by exact rfl) :
    GO P n env b ps hp ⟨some d, .call { callee := .builtin .append, args := #[x, y], argTypes := #[t, tn] }, ty, pos, aft, gd⟩ K Q := by
  subst hsz; subst hc
  refine Acts.use (hp1 := []) (rest := hp) (ι := { q : Nat × Nat // c ≤ q.2 }) (val := fun q => .slice (some ⟨q.1.1, 0, none⟩) c q.1.2) (pf := fun _ => []) (hr := fun q => [Own et e (some ⟨q.1.1, 0, none⟩) q.1.2 []]) ?_ (List.Perm.refl _) (fun q => h q.1.1 q.1.2 q.2)
  intro F w K Q b s hk
  obtain ⟨ii, i0, i1, i2, i3⟩ := info_parts hi.i
  have hpos' : 0 < e.size := by simpa [Nat.blt_eq] using hpos
  have hold : (Builtin.firstCells ii.size 0 (.slice none 0 0)).run P w.drew = .ok (#[] : Array Value) w.drew := run_firstCells_none w.drew ii.size 0 0 0
  have hr := Lib.run_append_grow_zeros (P := P) w t tn ty et ii zv .i64 .i64 ht.u hn.u i0 i1 none 0 0 [] hold c h0 (by omega) (by omega) (by omega) (by rw [i3]; omega) (by rw [i3]; exact growslice_fits (by omega) (by simpa using hb))
  simp only [Nat.zero_add] at hr
  have hge := grownCap_ge w c 0 et
  have hcm : grownCap w c 0 et ≤ maxLen := grownCap_le_maxLen w _ _ et (by simp only [maxLen]; omega)
  refine RX.eff (w' := w.drew.alloc (.cells ((#[] : Array Value) ++ Builtin.zeroCells zv.cells c ++ Builtin.zeroCells zv.cells (grownCap w c 0 et - c)) et)) (fun a ha => ?_) hd (hk ⟨(w.heap.size, grownCap w c 0 et), hge⟩ _ (mkOkN s ⟨rfl, rfl, rfl, by simp, fun k hk _ => heap_alloc_old w.drew _ hk⟩ ⟨[], ⟨by simp, .inr ⟨w.heap.size, grownCap w c 0 et, _, rfl, Nat.zero_le _, heap_alloc_new w.drew _, Nat.zero_le _, hcm, ?_, by simp⟩⟩, rfl⟩ (fun k hk => ?_)))
  · simp [execOp, ha.ev hx, ha.ev hy, resolve, invoke, builtin, hr]
  · simp only [Array.size_append, List.size_toArray, size_zeroCells, hzs, List.length_nil, Nat.zero_add]
    rw [← Nat.add_mul]
    congr 1; omega
  · have hk : (some w.heap.size : Option Nat) = some k := hk
    cases hk; exact Nat.le_refl _
end
end Go.GX
