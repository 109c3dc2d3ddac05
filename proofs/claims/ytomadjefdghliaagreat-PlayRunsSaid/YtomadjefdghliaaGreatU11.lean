import Derived.Test.YtomadjefdghliaaGreatU10
namespace Go.GX
open Go Go.RowKit Go.RR Go.RX
structure Hold (p : Prop) : Prop where
 out : p
theorem wR {A B : Prop} (h : B) (h1 : Hold B → A := by intro hB_; (repeat (first | (apply GX.s_list; first | apply GX.nil | (refine GX.o ?_; first | (apply GX.k_load; first | refine GX.lr ?_ | refine GX.lrA ?_ | refine GX.ln ?_ | refine GX.lb ?_ | refine GX.lh ?_ | (refine GX.ls ?_; intro v9_ v9_ v9_ v9_) | (refine GX.lA ?_; intro v9_) | (refine GX.l0 ?_; intro v9_) | refine GX.o1n ?_ | refine GX.o1b ?_ | refine GX.o1h ?_ | (refine GX.o1s ?_; intro v9_ v9_ v9_ v9_) | refine GX.omn ?_ | refine GX.omb ?_ | refine GX.omh ?_ | (refine GX.oms ?_; intro v9_ v9_ v9_ v9_) | refine GX.ofn ?_ | refine GX.ofb ?_ | refine GX.ofh ?_ | (refine GX.ofs ?_; intro v9_ v9_ v9_ v9_) | (refine GX.oA ?_; intro v9_)) | (apply GX.k_move; refine GX.m ?_) | (apply GX.k_indexAddr; first | refine GX.io1 ?_ | refine GX.ioh ?_ | refine GX.i1 ?_ | refine GX.ih ?_ | (refine GX.ix ?_; intro v9_ v9_)) | (apply GX.k_binOp_lss; refine GX.b_lss ?_) | (apply GX.k_binOp_add; first | refine GX.b_inc ?_ | refine GX.b_add ?_ | refine GX.b_addw ?_) | (apply GX.k_assign; refine GX.a ?_) | (apply GX.k_fieldAddr; first | refine GX.f0 ?_ | refine GX.fh ?_ | refine GX.fa ?_) | (apply GX.k_call; first | refine GX.c_len ?_ | refine GX.c_max ?_ | refine GX.c_min ?_ | (refine GX.ap ?_; intro v9_ v9_) | (refine GX.ap0 ?_; intro v9_ v9_)) | (apply GX.k_pick; first | refine GX.pt ?_ | refine GX.pf ?_ | refine GX.pk ?_) | (apply GX.k_store; first | refine GX.stW ?_ | refine GX.stB ?_ | refine GX.stR ?_ | refine GX.so1 ?_ | refine GX.som ?_ | refine GX.sof ?_ | refine GX.sog ?_) | (apply GX.k_extract; refine GX.ex ?_) | (apply GX.k_box; first | (refine GX.bxF ?_; intro v9_) | (refine GX.bxR ?_; intro v9_)) | (apply GX.k_slice; first | (refine GX.cl_ ?_; intro v9_)) | (apply GX.k_unOp; first | refine GX.nt ?_ | refine GX.nf ?_ | refine GX.nd ?_ | refine GX.n_ ?_) | (apply GX.k_nilCheck; refine GX.nc ?_) | (apply GX.k_build; refine GX.bd ?_) | (apply GX.k_buildSlice; (refine GX.sl ?_; intro v9_)) | (apply GX.k_alloc; (refine GX.al ?_; intro v9_)) | (apply GX.k_makeSlice; (refine GX.mks ?_; intro v9_)) | (apply GX.k_makeFunc; refine GX.mkf ?_) | (apply GX.k_makeMap; (refine GX.mm ?_; intro v9_)) | (apply GX.k_mapUpdate; refine GX.mu ?_) | (apply GX.k_binOp_eql; first | refine GX.b_eql ?_ | refine GX.b_pn ?_ | refine GX.b_nn ?_ | refine GX.b_snn ?_ | refine GX.b_sns ?_ | refine GX.b_eqls ?_ | refine GX.b_eqltf ?_ | refine GX.b_eqlft ?_ | refine GX.b_eqlb ?_) | (apply GX.k_binOp_geq; refine GX.b_geq ?_) | (apply GX.k_binOp_gtr; refine GX.b_gtr ?_) | (apply GX.k_binOp_leq; refine GX.b_leq ?_) | (apply GX.k_binOp_mul; first | refine GX.b_mulw ?_) | (apply GX.k_binOp_neq; first | refine GX.b_neq ?_ | refine GX.b_pm ?_ | refine GX.b_neqb ?_) | (apply GX.k_binOp_sub; first | refine GX.b_dec ?_ | refine GX.b_sub ?_ | refine GX.b_subw ?_)) | refine GX.gt ?_ | refine GX.gf ?_ | refine GX.gbt ?_ | refine GX.gbf ?_ | refine GX.un ?_ | refine GX.un0 ?_) | apply GX.then_normal | apply GX.seq | apply GX.region | (apply GX.s_cond; first | refine GX.ct ?_ | refine GX.cf ?_ | refine GX.cdf ?_ | refine GX.cdt ?_ | refine GX.cbt ?_ | refine GX.cbf ?_) | apply GX.skip | apply GX.block | apply GX.inBlock_normal | apply GX.exit | apply GX.then_exit | apply GX.inBlock_exit | refine GX.ibo ?_ | apply GX.ret | apply GX.then_ret | apply GX.inBlock_ret)); (repeat revert v9_); exact hB_.out) : A := h1 ⟨h⟩
theorem wRO {A B : Prop} (h : B) (h1 : Hold B → A := by intro hB_; (repeat (first | (apply GX.s_list; first | apply GX.nil | (refine GX.o ?_; first | (apply GX.k_load; first | refine GX.lr ?_ | refine GX.lrA ?_ | refine GX.ln ?_ | refine GX.lb ?_ | refine GX.lh ?_ | (refine GX.ls ?_; intro v9_ v9_ v9_ v9_) | (refine GX.lA ?_; intro v9_) | (refine GX.l0 ?_; intro v9_) | refine GX.o1n ?_ | refine GX.o1b ?_ | refine GX.o1h ?_ | (refine GX.o1s ?_; intro v9_ v9_ v9_ v9_) | refine GX.omn ?_ | refine GX.omb ?_ | refine GX.omh ?_ | (refine GX.oms ?_; intro v9_ v9_ v9_ v9_) | refine GX.ofn ?_ | refine GX.ofb ?_ | refine GX.ofh ?_ | (refine GX.ofs ?_; intro v9_ v9_ v9_ v9_) | (refine GX.oA ?_; intro v9_)) | (apply GX.k_move; refine GX.m ?_) | (apply GX.k_indexAddr; first | refine GX.io1 ?_ | refine GX.ioh ?_ | refine GX.i1 ?_ | refine GX.ih ?_ | (refine GX.ix ?_; intro v9_ v9_)) | (apply GX.k_binOp_lss; refine GX.b_lss ?_) | (apply GX.k_binOp_add; first | refine GX.b_inc ?_ | refine GX.b_add ?_ | refine GX.b_addw ?_) | (apply GX.k_assign; refine GX.a ?_) | (apply GX.k_fieldAddr; first | refine GX.f0 ?_ | refine GX.fh ?_ | refine GX.fa ?_) | (apply GX.k_call; first | refine GX.c_len ?_ | refine GX.c_max ?_ | refine GX.c_min ?_ | (refine GX.ap ?_; intro v9_ v9_) | (refine GX.ap0 ?_; intro v9_ v9_)) | (apply GX.k_pick; first | refine GX.pt ?_ | refine GX.pf ?_ | refine GX.pk ?_) | (apply GX.k_store; first | refine GX.stW ?_ | refine GX.stB ?_ | refine GX.stR ?_ | refine GX.so1 ?_ | refine GX.som ?_ | refine GX.sof ?_ | refine GX.sog ?_) | (apply GX.k_extract; refine GX.ex ?_) | (apply GX.k_box; first | (refine GX.bxF ?_; intro v9_) | (refine GX.bxR ?_; intro v9_)) | (apply GX.k_slice; first | (refine GX.cl_ ?_; intro v9_)) | (apply GX.k_unOp; first | refine GX.nt ?_ | refine GX.nf ?_ | refine GX.nd ?_ | refine GX.n_ ?_) | (apply GX.k_nilCheck; refine GX.nc ?_) | (apply GX.k_build; refine GX.bd ?_) | (apply GX.k_buildSlice; (refine GX.slo ?_; intro v9_)) | (apply GX.k_alloc; (refine GX.al ?_; intro v9_)) | (apply GX.k_makeSlice; (refine GX.mks ?_; intro v9_)) | (apply GX.k_makeFunc; refine GX.mkf ?_) | (apply GX.k_makeMap; (refine GX.mm ?_; intro v9_)) | (apply GX.k_mapUpdate; refine GX.mu ?_) | (apply GX.k_binOp_eql; first | refine GX.b_eql ?_ | refine GX.b_pn ?_ | refine GX.b_nn ?_ | refine GX.b_snn ?_ | refine GX.b_sns ?_ | refine GX.b_eqls ?_ | refine GX.b_eqltf ?_ | refine GX.b_eqlft ?_ | refine GX.b_eqlb ?_) | (apply GX.k_binOp_geq; refine GX.b_geq ?_) | (apply GX.k_binOp_gtr; refine GX.b_gtr ?_) | (apply GX.k_binOp_leq; refine GX.b_leq ?_) | (apply GX.k_binOp_mul; first | refine GX.b_mulw ?_) | (apply GX.k_binOp_neq; first | refine GX.b_neq ?_ | refine GX.b_pm ?_ | refine GX.b_neqb ?_) | (apply GX.k_binOp_sub; first | refine GX.b_dec ?_ | refine GX.b_sub ?_ | refine GX.b_subw ?_)) | refine GX.gt ?_ | refine GX.gf ?_ | refine GX.gbt ?_ | refine GX.gbf ?_ | refine GX.un ?_ | refine GX.un0 ?_) | apply GX.then_normal | apply GX.seq | apply GX.region | (apply GX.s_cond; first | refine GX.ct ?_ | refine GX.cf ?_ | refine GX.cdf ?_ | refine GX.cdt ?_ | refine GX.cbt ?_ | refine GX.cbf ?_) | apply GX.skip | apply GX.block | apply GX.inBlock_normal | apply GX.exit | apply GX.then_exit | apply GX.inBlock_exit | refine GX.ibo ?_ | apply GX.ret | apply GX.then_ret | apply GX.inBlock_ret)); (repeat revert v9_); exact hB_.out) : A := h1 ⟨h⟩
theorem wRB {A B : Prop} (h : B) (h1 : Hold B → A := by intro hB_; (repeat (first | (apply GX.s_list; first | apply GX.nil | (refine GX.o ?_; first | (apply GX.k_load; first | refine GX.lr ?_ | refine GX.lrA ?_ | refine GX.ln ?_ | refine GX.lb ?_ | refine GX.lh ?_ | (refine GX.ls ?_; intro v9_ v9_ v9_ v9_) | (refine GX.lA ?_; intro v9_) | (refine GX.l0 ?_; intro v9_) | refine GX.o1n ?_ | refine GX.o1b ?_ | refine GX.o1h ?_ | (refine GX.o1s ?_; intro v9_ v9_ v9_ v9_) | refine GX.omn ?_ | refine GX.omb ?_ | refine GX.omh ?_ | (refine GX.oms ?_; intro v9_ v9_ v9_ v9_) | refine GX.ofn ?_ | refine GX.ofb ?_ | refine GX.ofh ?_ | (refine GX.ofs ?_; intro v9_ v9_ v9_ v9_) | (refine GX.oA ?_; intro v9_)) | (apply GX.k_move; refine GX.m ?_) | (apply GX.k_indexAddr; first | refine GX.io1 ?_ | refine GX.ioh ?_ | refine GX.i1 ?_ | refine GX.ih ?_ | (refine GX.ix ?_; intro v9_ v9_)) | (apply GX.k_binOp_lss; refine GX.b_lss ?_) | (apply GX.k_binOp_add; first | refine GX.b_inc ?_ | refine GX.b_add ?_ | refine GX.b_addw ?_) | (apply GX.k_assign; refine GX.a ?_) | (apply GX.k_fieldAddr; first | refine GX.f0 ?_ | refine GX.fh ?_ | refine GX.fa ?_) | (apply GX.k_call; first | refine GX.c_len ?_ | refine GX.c_max ?_ | refine GX.c_min ?_ | (refine GX.ap ?_; intro v9_ v9_) | (refine GX.ap0 ?_; intro v9_ v9_)) | (apply GX.k_pick; first | refine GX.pt ?_ | refine GX.pf ?_ | refine GX.pk ?_) | (apply GX.k_store; first | refine GX.stW ?_ | refine GX.stB ?_ | refine GX.stR ?_ | refine GX.so1 ?_ | refine GX.som ?_ | refine GX.sof ?_ | refine GX.sog ?_) | (apply GX.k_extract; refine GX.ex ?_) | (apply GX.k_box; first | (refine GX.bxF ?_; intro v9_) | (refine GX.bxR ?_; intro v9_)) | (apply GX.k_slice; first | (refine GX.cl_ ?_; intro v9_)) | (apply GX.k_unOp; first | refine GX.nt ?_ | refine GX.nf ?_ | refine GX.nd ?_ | refine GX.n_ ?_) | (apply GX.k_nilCheck; refine GX.nc ?_) | (apply GX.k_build; refine GX.bd ?_) | (apply GX.k_buildSlice; (refine GX.sl ?_; intro v9_)) | (apply GX.k_alloc; (refine GX.al ?_; intro v9_)) | (apply GX.k_makeSlice; (refine GX.mks ?_; intro v9_)) | (apply GX.k_makeFunc; refine GX.mkf ?_) | (apply GX.k_makeMap; (refine GX.mm ?_; intro v9_)) | (apply GX.k_mapUpdate; refine GX.mu ?_) | (apply GX.k_binOp_eql; first | refine GX.b_eql ?_ | refine GX.b_pn ?_ | refine GX.b_nn ?_ | refine GX.b_snn ?_ | refine GX.b_sns ?_ | refine GX.b_eqls ?_ | refine GX.b_eqltf ?_ | refine GX.b_eqlft ?_ | refine GX.b_eqlb ?_) | (apply GX.k_binOp_geq; refine GX.b_geq ?_) | (apply GX.k_binOp_gtr; refine GX.b_gtr ?_) | (apply GX.k_binOp_leq; refine GX.b_leq ?_) | (apply GX.k_binOp_mul; first | refine GX.b_mulw ?_) | (apply GX.k_binOp_neq; first | refine GX.b_neq ?_ | refine GX.b_pm ?_ | refine GX.b_neqb ?_) | (apply GX.k_binOp_sub; first | refine GX.b_dec ?_ | refine GX.b_sub ?_ | refine GX.b_subw ?_)) | refine GX.gt ?_ | refine GX.gf ?_ | refine GX.gbt ?_ | refine GX.gbf ?_ | refine GX.un ?_ | refine GX.un0 ?_) | apply GX.then_normal | apply GX.seq | apply GX.region | (apply GX.s_cond; first | refine GX.ct ?_ | refine GX.cf ?_ | refine GX.cdf ?_ | refine GX.cdt ?_ | refine GX.cbt ?_ | refine GX.cbf ?_) | apply GX.skip | apply GX.inBlock_normal | apply GX.exit | apply GX.then_exit | apply GX.inBlock_exit | refine GX.ibo ?_ | apply GX.ret | apply GX.then_ret | apply GX.inBlock_ret)); (repeat revert v9_); exact hB_.out) : A := h1 ⟨h⟩
theorem wRN {A B : Prop} (h : B) (h1 : Hold B → A := by intro hB_; (repeat (first | (apply GX.s_list; first | apply GX.nil | (refine GX.o ?_; first | (apply GX.k_load; first | refine GX.lr ?_ | refine GX.lrA ?_ | refine GX.ln ?_ | refine GX.lb ?_ | refine GX.lh ?_ | (refine GX.ls ?_; intro v9_ v9_ v9_ v9_) | (refine GX.lA ?_; intro v9_) | (refine GX.l0 ?_; intro v9_) | refine GX.o1n ?_ | refine GX.o1b ?_ | refine GX.o1h ?_ | (refine GX.o1s ?_; intro v9_ v9_ v9_ v9_) | refine GX.omn ?_ | refine GX.omb ?_ | refine GX.omh ?_ | (refine GX.oms ?_; intro v9_ v9_ v9_ v9_) | refine GX.ofn ?_ | refine GX.ofb ?_ | refine GX.ofh ?_ | (refine GX.ofs ?_; intro v9_ v9_ v9_ v9_) | (refine GX.oA ?_; intro v9_)) | (apply GX.k_move; refine GX.m ?_) | (apply GX.k_indexAddr; first | refine GX.io1 ?_ | refine GX.ioh ?_ | refine GX.i1 ?_ | refine GX.ih ?_ | (refine GX.ix ?_; intro v9_ v9_)) | (apply GX.k_binOp_lss; refine GX.b_lss ?_) | (apply GX.k_binOp_add; first | refine GX.b_inc ?_ | refine GX.b_add ?_ | refine GX.b_addw ?_) | (apply GX.k_assign; refine GX.a ?_) | (apply GX.k_fieldAddr; first | refine GX.f0 ?_ | refine GX.fh ?_ | refine GX.fa ?_) | (apply GX.k_call; first | refine GX.c_len ?_ | refine GX.c_max ?_ | refine GX.c_min ?_ | (refine GX.ap ?_; intro v9_ v9_) | (refine GX.ap0 ?_; intro v9_ v9_)) | (apply GX.k_pick; first | refine GX.pt ?_ | refine GX.pf ?_ | refine GX.pk ?_) | (apply GX.k_store; first | refine GX.stW ?_ | refine GX.stB ?_ | refine GX.stR ?_ | refine GX.so1 ?_ | refine GX.som ?_ | refine GX.sof ?_ | refine GX.sog ?_) | (apply GX.k_extract; refine GX.ex ?_) | (apply GX.k_box; first | (refine GX.bxF ?_; intro v9_) | (refine GX.bxR ?_; intro v9_)) | (apply GX.k_slice; first | (refine GX.cl_ ?_; intro v9_)) | (apply GX.k_unOp; first | refine GX.nt ?_ | refine GX.nf ?_ | refine GX.nd ?_ | refine GX.n_ ?_) | (apply GX.k_nilCheck; refine GX.nc ?_) | (apply GX.k_build; refine GX.bd ?_) | (apply GX.k_buildSlice; (refine GX.sl ?_; intro v9_)) | (apply GX.k_alloc; (refine GX.al ?_; intro v9_)) | (apply GX.k_makeSlice; (refine GX.mks ?_; intro v9_)) | (apply GX.k_makeFunc; refine GX.mkf ?_) | (apply GX.k_makeMap; (refine GX.mm ?_; intro v9_)) | (apply GX.k_mapUpdate; refine GX.mu ?_) | (apply GX.k_binOp_eql; first | refine GX.b_eql ?_ | refine GX.b_pn ?_ | refine GX.b_nn ?_ | refine GX.b_snn ?_ | refine GX.b_sns ?_ | refine GX.b_eqls ?_ | refine GX.b_eqltf ?_ | refine GX.b_eqlft ?_ | refine GX.b_eqlb ?_) | (apply GX.k_binOp_geq; refine GX.b_geq ?_) | (apply GX.k_binOp_gtr; refine GX.b_gtr ?_) | (apply GX.k_binOp_leq; refine GX.b_leq ?_) | (apply GX.k_binOp_mul; first | refine GX.b_mulw ?_) | (apply GX.k_binOp_neq; first | refine GX.b_neq ?_ | refine GX.b_pm ?_ | refine GX.b_neqb ?_) | (apply GX.k_binOp_sub; first | refine GX.b_dec ?_ | refine GX.b_sub ?_ | refine GX.b_subw ?_)) | refine GX.gt ?_ | refine GX.gf ?_ | refine GX.gbt ?_ | refine GX.gbf ?_ | refine GX.un ?_ | refine GX.un0 ?_) | apply GX.then_normal | apply GX.seq | (apply GX.s_cond; first | refine GX.ct ?_ | refine GX.cf ?_ | refine GX.cdf ?_ | refine GX.cdt ?_ | refine GX.cbt ?_ | refine GX.cbf ?_) | apply GX.skip | apply GX.block | apply GX.inBlock_normal | apply GX.exit | apply GX.then_exit | apply GX.inBlock_exit | refine GX.ibo ?_ | apply GX.ret | apply GX.then_ret | apply GX.inBlock_ret)); (repeat revert v9_); exact hB_.out) : A := h1 ⟨h⟩
theorem wT {A B : Prop} (h : B) (h1 : Hold B → A := by intro hB_; (repeat (first | (apply GX.s_take; first | (refine GX.tkp ?_; first | (apply GX.t_move; refine GX.tm ?_) | (apply GX.t_indexAddr; first | refine GX.ti1 ?_ | refine GX.tih ?_) | (apply GX.t_binOp_lss; refine GX.tb_lss ?_) | (apply GX.t_binOp_add; first | refine GX.tb_add ?_) | (apply GX.t_fieldAddr; first | refine GX.tf0 ?_ | refine GX.tfh ?_ | refine GX.tfa ?_) | (apply GX.t_pick; first | refine GX.tpt ?_ | refine GX.tpf ?_) | (apply GX.t_unOp; first | refine GX.tnt ?_ | refine GX.tnf ?_ | refine GX.tnd ?_) | (apply GX.t_nilCheck; refine GX.tnc ?_) | (apply GX.t_build; refine GX.tbd ?_) | (apply GX.t_binOp_eql; first | refine GX.tb_eql ?_ | refine GX.tb_eqlb ?_) | (apply GX.t_binOp_geq; refine GX.tb_geq ?_) | (apply GX.t_binOp_leq; refine GX.tb_leq ?_) | (apply GX.t_binOp_neq; first | refine GX.tb_neq ?_) | (apply GX.t_binOp_sub; first | refine GX.tb_dec ?_ | refine GX.tb_sub ?_)) | ((first | refine GX.tkr ?_ | refine GX.tkrE ?_); first | (apply GX.r_load; first | refine GX.rlr ?_ | refine GX.rln ?_ | refine GX.rlb ?_ | (refine GX.rls ?_; intro v9_ v9_ v9_ v9_ v9_) | (refine GX.rlA ?_; intro v9_ v9_) | (refine GX.rl0 ?_; intro v9_ v9_) | refine GX.ro1n ?_ | refine GX.romn ?_ | refine GX.rofn ?_ | refine GX.rofh ?_) | (apply GX.r_assign; refine GX.ra ?_) | (apply GX.r_call; first | refine GX.rc_len ?_ | refine GX.rc_max ?_ | refine GX.rc_min ?_) | (apply GX.r_extract; refine GX.rex ?_) | (apply GX.r_slice; first | (refine GX.rch ?_; intro v9_ v9_)) | (apply GX.r_makeFunc; refine GX.rmkf ?_)) | (refine GX.tkx ?_; first | (refine GX.xix ?_; intro v9_ v9_ v9_)) | refine GX.pgt ?_ | refine GX.pgf ?_ | refine GX.pgbt ?_ | refine GX.pgbf ?_ | refine GX.tkn ?_) | (apply GX.s_go; first | (refine GX.gow ?_; first | (apply GX.k_load; first | refine GX.lr ?_ | refine GX.lrA ?_ | refine GX.ln ?_ | refine GX.lb ?_ | refine GX.lh ?_ | (refine GX.ls ?_; intro v9_ v9_ v9_ v9_) | (refine GX.lA ?_; intro v9_) | (refine GX.l0 ?_; intro v9_) | refine GX.o1n ?_ | refine GX.o1b ?_ | refine GX.o1h ?_ | (refine GX.o1s ?_; intro v9_ v9_ v9_ v9_) | refine GX.omn ?_ | refine GX.omb ?_ | refine GX.omh ?_ | (refine GX.oms ?_; intro v9_ v9_ v9_ v9_) | refine GX.ofn ?_ | refine GX.ofb ?_ | refine GX.ofh ?_ | (refine GX.ofs ?_; intro v9_ v9_ v9_ v9_) | (refine GX.oA ?_; intro v9_)) | (apply GX.k_move; refine GX.m ?_) | (apply GX.k_indexAddr; first | refine GX.io1 ?_ | refine GX.ioh ?_ | refine GX.i1 ?_ | refine GX.ih ?_ | (refine GX.ix ?_; intro v9_ v9_)) | (apply GX.k_binOp_lss; refine GX.b_lss ?_) | (apply GX.k_binOp_add; first | refine GX.b_inc ?_ | refine GX.b_add ?_ | refine GX.b_addw ?_) | (apply GX.k_assign; refine GX.a ?_) | (apply GX.k_fieldAddr; first | refine GX.f0 ?_ | refine GX.fh ?_ | refine GX.fa ?_) | (apply GX.k_call; first | refine GX.c_len ?_ | refine GX.c_max ?_ | refine GX.c_min ?_ | (refine GX.ap ?_; intro v9_ v9_) | (refine GX.ap0 ?_; intro v9_ v9_)) | (apply GX.k_pick; first | refine GX.pt ?_ | refine GX.pf ?_ | refine GX.pk ?_) | (apply GX.k_store; first | refine GX.stW ?_ | refine GX.stB ?_ | refine GX.stR ?_ | refine GX.so1 ?_ | refine GX.som ?_ | refine GX.sof ?_ | refine GX.sog ?_) | (apply GX.k_extract; refine GX.ex ?_) | (apply GX.k_box; first | (refine GX.bxF ?_; intro v9_) | (refine GX.bxR ?_; intro v9_)) | (apply GX.k_slice; first | (refine GX.cl_ ?_; intro v9_)) | (apply GX.k_unOp; first | refine GX.nt ?_ | refine GX.nf ?_ | refine GX.nd ?_ | refine GX.n_ ?_) | (apply GX.k_nilCheck; refine GX.nc ?_) | (apply GX.k_build; refine GX.bd ?_) | (apply GX.k_buildSlice; (refine GX.sl ?_; intro v9_)) | (apply GX.k_alloc; (refine GX.al ?_; intro v9_)) | (apply GX.k_makeSlice; (refine GX.mks ?_; intro v9_)) | (apply GX.k_makeFunc; refine GX.mkf ?_) | (apply GX.k_makeMap; (refine GX.mm ?_; intro v9_)) | (apply GX.k_mapUpdate; refine GX.mu ?_) | (apply GX.k_binOp_eql; first | refine GX.b_eql ?_ | refine GX.b_pn ?_ | refine GX.b_nn ?_ | refine GX.b_snn ?_ | refine GX.b_sns ?_ | refine GX.b_eqls ?_ | refine GX.b_eqltf ?_ | refine GX.b_eqlft ?_ | refine GX.b_eqlb ?_) | (apply GX.k_binOp_geq; refine GX.b_geq ?_) | (apply GX.k_binOp_gtr; refine GX.b_gtr ?_) | (apply GX.k_binOp_leq; refine GX.b_leq ?_) | (apply GX.k_binOp_mul; first | refine GX.b_mulw ?_) | (apply GX.k_binOp_neq; first | refine GX.b_neq ?_ | refine GX.b_pm ?_ | refine GX.b_neqb ?_) | (apply GX.k_binOp_sub; first | refine GX.b_dec ?_ | refine GX.b_sub ?_ | refine GX.b_subw ?_)) | refine GX.pgt ?_ | refine GX.pgf ?_ | refine GX.pgbt ?_ | refine GX.pgbf ?_ | refine GX.gon ?_) | (apply GX.s_went; first | refine GX.wentF ?_ | refine GX.went ?_ | refine GX.wentE ?_) | apply GX.done | apply GX.treeL | apply GX.treeB | apply GX.treeO | apply GX.endK | (apply GX.s_gok; refine GX.gok ?_; first | (apply GX.k_load; first | refine GX.lr ?_ | refine GX.lrA ?_ | refine GX.ln ?_ | refine GX.lb ?_ | refine GX.lh ?_ | (refine GX.ls ?_; intro v9_ v9_ v9_ v9_) | (refine GX.lA ?_; intro v9_) | (refine GX.l0 ?_; intro v9_) | refine GX.o1n ?_ | refine GX.o1b ?_ | refine GX.o1h ?_ | (refine GX.o1s ?_; intro v9_ v9_ v9_ v9_) | refine GX.omn ?_ | refine GX.omb ?_ | refine GX.omh ?_ | (refine GX.oms ?_; intro v9_ v9_ v9_ v9_) | refine GX.ofn ?_ | refine GX.ofb ?_ | refine GX.ofh ?_ | (refine GX.ofs ?_; intro v9_ v9_ v9_ v9_) | (refine GX.oA ?_; intro v9_)) | (apply GX.k_move; refine GX.m ?_) | (apply GX.k_indexAddr; first | refine GX.io1 ?_ | refine GX.ioh ?_ | refine GX.i1 ?_ | refine GX.ih ?_ | (refine GX.ix ?_; intro v9_ v9_)) | (apply GX.k_binOp_lss; refine GX.b_lss ?_) | (apply GX.k_binOp_add; first | refine GX.b_inc ?_ | refine GX.b_add ?_ | refine GX.b_addw ?_) | (apply GX.k_assign; refine GX.a ?_) | (apply GX.k_fieldAddr; first | refine GX.f0 ?_ | refine GX.fh ?_ | refine GX.fa ?_) | (apply GX.k_call; first | refine GX.c_len ?_ | refine GX.c_max ?_ | refine GX.c_min ?_ | (refine GX.ap ?_; intro v9_ v9_) | (refine GX.ap0 ?_; intro v9_ v9_)) | (apply GX.k_pick; first | refine GX.pt ?_ | refine GX.pf ?_ | refine GX.pk ?_) | (apply GX.k_store; first | refine GX.stW ?_ | refine GX.stB ?_ | refine GX.stR ?_ | refine GX.so1 ?_ | refine GX.som ?_ | refine GX.sof ?_ | refine GX.sog ?_) | (apply GX.k_extract; refine GX.ex ?_) | (apply GX.k_box; first | (refine GX.bxF ?_; intro v9_) | (refine GX.bxR ?_; intro v9_)) | (apply GX.k_slice; first | (refine GX.cl_ ?_; intro v9_)) | (apply GX.k_unOp; first | refine GX.nt ?_ | refine GX.nf ?_ | refine GX.nd ?_ | refine GX.n_ ?_) | (apply GX.k_nilCheck; refine GX.nc ?_) | (apply GX.k_build; refine GX.bd ?_) | (apply GX.k_buildSlice; (refine GX.sl ?_; intro v9_)) | (apply GX.k_alloc; (refine GX.al ?_; intro v9_)) | (apply GX.k_makeSlice; (refine GX.mks ?_; intro v9_)) | (apply GX.k_makeFunc; refine GX.mkf ?_) | (apply GX.k_makeMap; (refine GX.mm ?_; intro v9_)) | (apply GX.k_mapUpdate; refine GX.mu ?_) | (apply GX.k_binOp_eql; first | refine GX.b_eql ?_ | refine GX.b_pn ?_ | refine GX.b_nn ?_ | refine GX.b_snn ?_ | refine GX.b_sns ?_ | refine GX.b_eqls ?_ | refine GX.b_eqltf ?_ | refine GX.b_eqlft ?_ | refine GX.b_eqlb ?_) | (apply GX.k_binOp_geq; refine GX.b_geq ?_) | (apply GX.k_binOp_gtr; refine GX.b_gtr ?_) | (apply GX.k_binOp_leq; refine GX.b_leq ?_) | (apply GX.k_binOp_mul; first | refine GX.b_mulw ?_) | (apply GX.k_binOp_neq; first | refine GX.b_neq ?_ | refine GX.b_pm ?_ | refine GX.b_neqb ?_) | (apply GX.k_binOp_sub; first | refine GX.b_dec ?_ | refine GX.b_sub ?_ | refine GX.b_subw ?_)))); (repeat revert v9_); exact hB_.out) : A := h1 ⟨h⟩
end Go.GX
namespace Go.Proofs.YtomadjefdghliaaGreat
open Go Go.RR Go.RX Go.GX Go.Api
attribute [local irreducible] wpList Code.wp wpPlan Exit.then Exit.inBlock bodyPost NoPanic Went GX.Post GX.Again GX.Meet GX.RowR GX.Own GX.Owns GX.Box GX.Sl GX.Pt GX.Ag GX.MapR GX.Kept GX.Pin wpT GoK AtEnd Both
structure Thing where
 region : Int
 cells : Option Addr × Nat × Nat
def tyThing : Ty Thing := Ty.co (Ty.pair Ty.int (Ty.pair Ty.hdr Ty.unit)) (fun y => (y.region, y.cells, ()))
instance : Sub tyThing 0 Ty.int Thing.region (fun z y => { y with region := z }) := Sub.co (Sub.fst (Sub.whole _)) (fun _ => rfl) (fun _ _ => rfl)
instance : Sub tyThing 1 Ty.hdr Thing.cells (fun z y => { y with cells := z }) := Sub.co (Sub.snd (Sub.fst (Sub.whole _))) (fun _ => rfl) (fun _ _ => rfl)
instance : UTy Tryz.prog 148 tyThing ⟨0, none, 0, 0⟩ (.agg #[.int .i64 0, .slice none 0 0]) := ⟨Tryz.zeroValue148, fun F w => co_rd (pair_rd (c1 := [_]) rfl num_rd (pair_rd (c1 := [_]) rfl hdr_rd unit_rd))⟩
instance {ps : List Pf} {v w : Value} {x : Int} {y : Option Addr × Nat × Nat} [OneV v] [OneV w] [h1 : Rds ps v Ty.int x] [h2 : Rds ps w Ty.hdr y] : Rds ps (.agg #[v, w]) tyThing ⟨x, y⟩ := ⟨.of fun F u h => co_rd (pair_rd (c1 := [_]) rfl (rdo (h1.r.as F u h)) (pair_rd (c1 := [_]) rfl (rdo (h2.r.as F u h)) unit_rd))⟩
abbrev Th := Int × Option Addr × Nat × List Int
def thg (q : Th) : Thing := ⟨q.1, hd q.2⟩
structure TabC where
 aR : Option Addr
 cR : Nat
 R : List Region
 aL : Option Addr
 cL : Nat
 L : List Th
 gone : Int
 peak : Int
 many : Int
 most : Int
def has (R : List Region) (r : Int) : Bool := decide (1 ≤ r) && (match R[(r - 1).toNat]? with | some x => x.live | none => false)
theorem has_neg {R : List Region} {r : Int} (h : r < 1) : has R r = false := by
 have : ¬ 1 ≤ r := by omega
 simp [has, this]
theorem has_big {R : List Region} {r : Int} (h : (R.length : Int) < r) : has R r = false := by
 have : R[(r - 1).toNat]? = none := by rw [List.getElem?_eq_none]; omega
 rw [has, this]; simp
theorem has_in {R : List Region} {k : Nat} {x : Region} (h : R[k]? = some x) : has R ((k : Int) + 1) = x.live := by
 have : ((k : Int) + 1 - 1).toNat = k := by omega
 simp [has, this, h]; omega
theorem has_get {R : List Region} {r : Int} (h : has R r = true) : ∃ (k : Nat) (x : Region), r = (k : Int) + 1 ∧ R[k]? = some x ∧ x.live = true := by
 unfold has at h
 simp only [Bool.and_eq_true, decide_eq_true_eq] at h
 obtain ⟨h1, h2⟩ := h
 cases hx : R[(r - 1).toNat]? with
 | none => rw [hx] at h2; simp at h2
 | some x => rw [hx] at h2; exact ⟨_, x, by omega, hx, h2⟩
theorem has_spec (p : Nat) (c : TabC) (r : Int) : Does Tryz.prog 112 [.pointer (some ⟨p, 0, none⟩), .int .i64 r] [] [RowR p 86 [.slice c.aR c.R.length c.cR, .slice c.aL c.L.length c.cL, .int .i64 c.gone, .int .i64 c.peak, .int .i64 c.many, .int .i64 c.most], GX.Own 90 tyRegion c.aR c.cR c.R, GX.Own 148 tyThing c.aL c.cL (c.L.map thg), Owns 3 Ty.int (c.L.map (fun x : Th => x.2))] (fun _ : Unit => .bool (has c.R r)) (fun _ => []) (fun _ => [RowR p 86 [.slice c.aR c.R.length c.cR, .slice c.aL c.L.length c.cL, .int .i64 c.gone, .int .i64 c.peak, .int .i64 c.many, .int .i64 c.most], GX.Own 90 tyRegion c.aR c.cR c.R, GX.Own 148 tyThing c.aL c.cL (c.L.map thg), Owns 3 Ty.int (c.L.map (fun x : Th => x.2))]) := by
 refine enter Tryz.func112 rfl Tryz.ntmps112 rfl fun b => ?_
 by_cases h1 : r < 1
 ·refine GX.wR ?_; intros
  refine rt1 () (by rw [has_neg h1])
 by_cases h2 : (c.R.length : Int) < r
 ·refine GX.wR ?_; intros
  refine rt1 () (by rw [has_big h2])
 obtain ⟨j, rfl⟩ : ∃ j : Nat, r = (j : Int) + 1 := ⟨(r - 1).toNat, by omega⟩
 obtain ⟨y, hy⟩ : ∃ y, c.R[j]? = some y := ⟨_, List.getElem?_eq_getElem (by omega)⟩
 obtain ⟨aR, cR, R, aL, cL, L, gone, peak, many, most⟩ := c
 dsimp only at *
 refine GX.opn aR fun _ _ ha => ?_
 obtain ⟨rfl, _⟩ | ⟨q, rfl⟩ := ha
 ·simp at hy
 refine GX.wR ?_; intros
 refine rt1 () (by rw [has_in hy])
theorem make_spec (p : Nat) (c : TabC) (hl : c.R.length ≤ 1000000000) (hg : 0 ≤ c.gone ∧ c.gone ≤ 1000000000) : Does Tryz.prog 21 [.pointer (some ⟨p, 0, none⟩)] [] [RowR p 86 [.slice c.aR c.R.length c.cR, .slice c.aL c.L.length c.cL, .int .i64 c.gone, .int .i64 c.peak, .int .i64 c.many, .int .i64 c.most], GX.Own 90 tyRegion c.aR c.cR c.R, GX.Own 148 tyThing c.aL c.cL (c.L.map thg), Owns 3 Ty.int (c.L.map (fun x : Th => x.2))] (fun _ : Option Addr × Nat => .int .i64 ((c.R.length + 1 : Nat) : Int)) (fun _ => [])
  (fun s => [RowR p 86 [.slice s.1 (TabC.mk s.1 s.2 (c.R ++ [⟨true, 0⟩]) c.aL c.cL c.L c.gone (max c.peak (((c.R.length + 1 : Nat) : Int) - c.gone)) c.many c.most).R.length s.2, .slice c.aL c.L.length c.cL, .int .i64 c.gone, .int .i64 (max c.peak (((c.R.length + 1 : Nat) : Int) - c.gone)), .int .i64 c.many, .int .i64 c.most], GX.Own 90 tyRegion s.1 s.2 (TabC.mk s.1 s.2 (c.R ++ [⟨true, 0⟩]) c.aL c.cL c.L c.gone (max c.peak (((c.R.length + 1 : Nat) : Int) - c.gone)) c.many c.most).R, GX.Own 148 tyThing c.aL c.cL (c.L.map thg), Owns 3 Ty.int (c.L.map (fun x : Th => x.2))]) := by
 obtain ⟨aR, cR, R, aL, cL, L, gone, peak, many, most⟩ := c
 dsimp only at *
 refine enter Tryz.func21 rfl Tryz.ntmps21 rfl fun b => ?_
 have hlen : (R ++ [(⟨true, 0⟩ : Region)]).length = R.length + 1 := by simp
 refine GX.wR ?_; intros
 refine GX.drawn1 (RowR p 86 _) (fun j => !(List.contains [18] j)) [(0, true), (1, true), (2, true), (3, true), (4, true), (5, true), (6, true), (7, true), (8, true), (9, true), (10, true), (11, true), (12, true), (13, true), (14, true), (15, true), (16, true), (17, true), (18, false)] rfl (by kernel_rfl) (by kernel_rfl) GX.sA ?_; intro wd F hW hR
 refine GX.wT ?_; intros
 refine GX.unpin (RowR p 86 _) ?_
 refine GX.wT ?_; intros
 refine GX.wR ?_; intros
 rename_i ao cap
 rw [hlen]
 exact rt1 (ao, cap) rfl
theorem tnew_spec : Does Tryz.prog 19 [] [] [] (fun p : Nat => .pointer (some ⟨p, 0, none⟩)) (fun _ => []) (fun p => [RowR p 86 [.slice none (TabC.mk none 0 [] none 0 [] 0 0 0 0).R.length 0, .slice none (TabC.mk none 0 [] none 0 [] 0 0 0 0).L.length 0, .int .i64 0, .int .i64 0, .int .i64 0, .int .i64 0], GX.Own 90 tyRegion none 0 (TabC.mk none 0 [] none 0 [] 0 0 0 0).R, GX.Own 148 tyThing none 0 ((TabC.mk none 0 [] none 0 [] 0 0 0 0).L.map thg), Owns 3 Ty.int ((TabC.mk none 0 [] none 0 [] 0 0 0 0).L.map (fun x : Th => x.2))]) := by
 refine enter Tryz.func19 rfl Tryz.ntmps19 rfl fun b => ?_
 refine GX.wR ?_; intros
 rename_i p
 refine ownNil 90 tyRegion ?_
 refine ownNil 148 tyThing ?_
 refine osN 3 Ty.int 0 ?_
 exact rt1 p rfl
theorem remove_no (p : Nat) (c : TabC) (r : Int) (h : has c.R r = false) : Does Tryz.prog 67 [.pointer (some ⟨p, 0, none⟩), .int .i64 r] [] [RowR p 86 [.slice c.aR c.R.length c.cR, .slice c.aL c.L.length c.cL, .int .i64 c.gone, .int .i64 c.peak, .int .i64 c.many, .int .i64 c.most], GX.Own 90 tyRegion c.aR c.cR c.R, GX.Own 148 tyThing c.aL c.cL (c.L.map thg), Owns 3 Ty.int (c.L.map (fun x : Th => x.2))] (fun _ : Unit => .bool false) (fun _ => []) (fun _ => [RowR p 86 [.slice c.aR c.R.length c.cR, .slice c.aL c.L.length c.cL, .int .i64 c.gone, .int .i64 c.peak, .int .i64 c.many, .int .i64 c.most], GX.Own 90 tyRegion c.aR c.cR c.R, GX.Own 148 tyThing c.aL c.cL (c.L.map thg), Owns 3 Ty.int (c.L.map (fun x : Th => x.2))]) := by
 refine enter Tryz.func67 rfl Tryz.ntmps67 rfl fun b => ?_
 refine GX.wR ?_; intros
 refine GX.o (cl (has_spec p c r) fun _ => ?_)
 rw [h]
 refine GX.wR ?_; intros
 exact rt1 () rfl
theorem remove_yes (p : Nat) (c : TabC) (k : Nat) (x : Region) (hk : c.R[k]? = some x) (hx : x.live = true) (hg : 0 ≤ c.gone ∧ c.gone ≤ 1000000000) (hm : 0 ≤ c.many ∧ c.many ≤ 1000000000) (hm2 : 0 ≤ x.many ∧ x.many ≤ 1000000000) (hkl : k ≤ 1000000000) :
  Does Tryz.prog 67 [.pointer (some ⟨p, 0, none⟩), .int .i64 ((k : Int) + 1)] [] [RowR p 86 [.slice c.aR c.R.length c.cR, .slice c.aL c.L.length c.cL, .int .i64 c.gone, .int .i64 c.peak, .int .i64 c.many, .int .i64 c.most], GX.Own 90 tyRegion c.aR c.cR c.R, GX.Own 148 tyThing c.aL c.cL (c.L.map thg), Owns 3 Ty.int (c.L.map (fun x : Th => x.2))] (fun _ : Unit => .bool true) (fun _ => []) (fun _ => [RowR p 86 [.slice c.aR (TabC.mk c.aR c.cR (c.R.set k ⟨false, x.many⟩) c.aL c.cL c.L (c.gone + 1) c.peak (c.many - x.many) c.most).R.length c.cR, .slice c.aL c.L.length c.cL, .int .i64 (c.gone + 1), .int .i64 c.peak, .int .i64 (c.many - x.many), .int .i64 c.most], GX.Own 90 tyRegion c.aR c.cR (TabC.mk c.aR c.cR (c.R.set k ⟨false, x.many⟩) c.aL c.cL c.L (c.gone + 1) c.peak (c.many - x.many) c.most).R, GX.Own 148 tyThing c.aL c.cL (c.L.map thg), Owns 3 Ty.int (c.L.map (fun x : Th => x.2))]) := by
 have hh := has_in hk
 rw [hx] at hh
 refine enter Tryz.func67 rfl Tryz.ntmps67 rfl fun b => ?_
 refine GX.wR ?_; intros
 refine GX.o (cl (has_spec p c _) fun _ => ?_)
 rw [hh]
 obtain ⟨aR, cR, R, aL, cL, L, gone, peak, many, most⟩ := c
 dsimp only at *
 refine GX.opn aR fun _ _ ha => ?_
 obtain ⟨rfl, _⟩ | ⟨q, rfl⟩ := ha
 ·simp at hk
 refine GX.wR ?_; intros
 have hxm : ({ live := false, many := x.many } : Region).many = x.many := rfl
 have hkl2 : k < R.length := (List.getElem?_eq_some_iff.1 hk).1
 have hk2 : (R.set k { x with live := false })[k]? = some { x with live := false } := by
  rw [List.getElem?_set_self]; exact (List.getElem?_eq_some_iff.1 hk).1
 refine GX.drawn2 (RowR p 86 _) (GX.Own 90 tyRegion _ _ _) (fun j => !(List.contains [16] j)) [(0, true), (1, true), (2, true), (3, true), (4, true), (5, true), (6, true), (7, true), (8, true), (9, true), (10, true), (11, true), (12, true), (13, true), (14, true), (15, true), (16, false)] rfl (by kernel_rfl) (by kernel_rfl) GX.sA ?_; intro wd F hW hR
 refine GX.wT ?_; intros
 refine GX.unpin (RowR p 86 _) ?_
 refine GX.unpin (GX.Own 90 tyRegion _ _ _) ?_
 refine GX.wT ?_; intros
 refine GX.wR ?_; intros
 rw [List.length_set]
 exact rt1 () rfl
theorem count_spec (p : Nat) (c : TabC) : Does Tryz.prog 27 [.pointer (some ⟨p, 0, none⟩)] [] [RowR p 86 [.slice c.aR c.R.length c.cR, .slice c.aL c.L.length c.cL, .int .i64 c.gone, .int .i64 c.peak, .int .i64 c.many, .int .i64 c.most], GX.Own 90 tyRegion c.aR c.cR c.R, GX.Own 148 tyThing c.aL c.cL (c.L.map thg), Owns 3 Ty.int (c.L.map (fun x : Th => x.2))] (fun _ : Unit => .tuple #[.int .i64 (c.R.length : Int), .int .i64 c.gone, .int .i64 c.peak]) (fun _ => []) (fun _ => [RowR p 86 [.slice c.aR c.R.length c.cR, .slice c.aL c.L.length c.cL, .int .i64 c.gone, .int .i64 c.peak, .int .i64 c.many, .int .i64 c.most], GX.Own 90 tyRegion c.aR c.cR c.R, GX.Own 148 tyThing c.aL c.cL (c.L.map thg), Owns 3 Ty.int (c.L.map (fun x : Th => x.2))]) := by
 refine enter Tryz.func27 rfl Tryz.ntmps27 rfl fun b => ?_
 refine GX.wR ?_; intros
 refine GX.drawn1 (RowR p 86 _) (fun j => !(List.contains [] j)) [(0, true), (1, true), (2, true), (3, true), (4, true), (5, true), (6, true), (7, true), (8, true), (9, true), (10, true), (11, true), (12, true), (13, true), (14, true), (15, true)] rfl (by kernel_rfl) (by kernel_rfl) GX.sA ?_; intro wd F hW hR
 refine GX.wT ?_; intros
 refine GX.unpin (RowR p 86 _) ?_
 refine GX.wT ?_; intros
 refine GX.wR ?_; intros
 exact rt3 () rfl
theorem things_spec (p : Nat) (c : TabC) : Does Tryz.prog 28 [.pointer (some ⟨p, 0, none⟩)] [] [RowR p 86 [.slice c.aR c.R.length c.cR, .slice c.aL c.L.length c.cL, .int .i64 c.gone, .int .i64 c.peak, .int .i64 c.many, .int .i64 c.most], GX.Own 90 tyRegion c.aR c.cR c.R, GX.Own 148 tyThing c.aL c.cL (c.L.map thg), Owns 3 Ty.int (c.L.map (fun x : Th => x.2))] (fun _ : Unit => .tuple #[.int .i64 c.many, .int .i64 c.most]) (fun _ => []) (fun _ => [RowR p 86 [.slice c.aR c.R.length c.cR, .slice c.aL c.L.length c.cL, .int .i64 c.gone, .int .i64 c.peak, .int .i64 c.many, .int .i64 c.most], GX.Own 90 tyRegion c.aR c.cR c.R, GX.Own 148 tyThing c.aL c.cL (c.L.map thg), Owns 3 Ty.int (c.L.map (fun x : Th => x.2))]) := by
 refine enter Tryz.func28 rfl Tryz.ntmps28 rfl fun b => ?_
 refine GX.wR ?_; intros
 refine GX.drawn1 (RowR p 86 _) (fun j => !(List.contains [] j)) [(0, true), (1, true), (2, true), (3, true), (4, true), (5, true), (6, true), (7, true), (8, true), (9, true)] rfl (by kernel_rfl) (by kernel_rfl) GX.sA ?_; intro wd F hW hR
 refine GX.wT ?_; intros
 refine GX.unpin (RowR p 86 _) ?_
 refine GX.wT ?_; intros
 refine GX.wR ?_; intros
 exact rt2 () rfl
theorem add_no (p : Nat) (c : TabC) (r n : Int) (h : has c.R r = false) : Does Tryz.prog 139 [.pointer (some ⟨p, 0, none⟩), .int .i64 r, .int .i64 n] [] [RowR p 86 [.slice c.aR c.R.length c.cR, .slice c.aL c.L.length c.cL, .int .i64 c.gone, .int .i64 c.peak, .int .i64 c.many, .int .i64 c.most], GX.Own 90 tyRegion c.aR c.cR c.R, GX.Own 148 tyThing c.aL c.cL (c.L.map thg), Owns 3 Ty.int (c.L.map (fun x : Th => x.2))] (fun _ : Unit => .tuple #[.int .i64 0, .bool false]) (fun _ => []) (fun _ => [RowR p 86 [.slice c.aR c.R.length c.cR, .slice c.aL c.L.length c.cL, .int .i64 c.gone, .int .i64 c.peak, .int .i64 c.many, .int .i64 c.most], GX.Own 90 tyRegion c.aR c.cR c.R, GX.Own 148 tyThing c.aL c.cL (c.L.map thg), Owns 3 Ty.int (c.L.map (fun x : Th => x.2))]) := by
 refine enter Tryz.func139 rfl Tryz.ntmps139 rfl fun b => ?_
 refine GX.wR ?_; intros
 refine GX.o (cl (has_spec p c r) fun _ => ?_)
 rw [h]
 refine GX.wR ?_; intros
 exact rt2 () rfl
def cells (n : Int) : Nat := (min (max n 0) 50).toNat
theorem add_yes (p : Nat) (c : TabC) (k : Nat) (x : Region) (n : Int) (hk : c.R[k]? = some x) (hx : x.live = true) (hm : 0 ≤ c.many ∧ c.many ≤ 1000000000) (hm2 : 0 ≤ x.many ∧ x.many ≤ 1000000000) (hkl : k ≤ 1000000000) (hl : c.L.length ≤ 1000000000) :
  Does Tryz.prog 139 [.pointer (some ⟨p, 0, none⟩), .int .i64 ((k : Int) + 1), .int .i64 n] [] [RowR p 86 [.slice c.aR c.R.length c.cR, .slice c.aL c.L.length c.cL, .int .i64 c.gone, .int .i64 c.peak, .int .i64 c.many, .int .i64 c.most], GX.Own 90 tyRegion c.aR c.cR c.R, GX.Own 148 tyThing c.aL c.cL (c.L.map thg), Owns 3 Ty.int (c.L.map (fun x : Th => x.2))] (fun _ : Nat × Option Addr × Nat => .tuple #[.int .i64 ((c.L.length + 1 : Nat) : Int), .bool true]) (fun _ => [])
   (fun s => [RowR p 86 [.slice c.aR (TabC.mk c.aR c.cR (c.R.set k ⟨x.live, x.many + 1⟩) s.2.1 s.2.2 (c.L ++ [((k : Int) + 1, some ⟨s.1, 0, none⟩, cells n, List.replicate (cells n) 0)]) c.gone c.peak (c.many + 1) (max c.most (c.many + 1))).R.length c.cR, .slice s.2.1 (TabC.mk c.aR c.cR (c.R.set k ⟨x.live, x.many + 1⟩) s.2.1 s.2.2 (c.L ++ [((k : Int) + 1, some ⟨s.1, 0, none⟩, cells n, List.replicate (cells n) 0)]) c.gone c.peak (c.many + 1) (max c.most (c.many + 1))).L.length s.2.2, .int .i64 c.gone, .int .i64 c.peak, .int .i64 (c.many + 1), .int .i64 (max c.most (c.many + 1))], GX.Own 90 tyRegion c.aR c.cR (TabC.mk c.aR c.cR (c.R.set k ⟨x.live, x.many + 1⟩) s.2.1 s.2.2 (c.L ++ [((k : Int) + 1, some ⟨s.1, 0, none⟩, cells n, List.replicate (cells n) 0)]) c.gone c.peak (c.many + 1) (max c.most (c.many + 1))).R, GX.Own 148 tyThing s.2.1 s.2.2 ((TabC.mk c.aR c.cR (c.R.set k ⟨x.live, x.many + 1⟩) s.2.1 s.2.2 (c.L ++ [((k : Int) + 1, some ⟨s.1, 0, none⟩, cells n, List.replicate (cells n) 0)]) c.gone c.peak (c.many + 1) (max c.most (c.many + 1))).L.map thg), Owns 3 Ty.int ((TabC.mk c.aR c.cR (c.R.set k ⟨x.live, x.many + 1⟩) s.2.1 s.2.2 (c.L ++ [((k : Int) + 1, some ⟨s.1, 0, none⟩, cells n, List.replicate (cells n) 0)]) c.gone c.peak (c.many + 1) (max c.most (c.many + 1))).L.map (fun x : Th => x.2))]) := by
 have hh := has_in hk
 rw [hx] at hh
 refine enter Tryz.func139 rfl Tryz.ntmps139 rfl fun b => ?_
 refine GX.wR ?_; intros
 refine GX.o (cl (has_spec p c _) fun _ => ?_)
 rw [hh]
 obtain ⟨aR, cR, R, aL, cL, L, gone, peak, many, most⟩ := c
 dsimp only at *
 obtain ⟨m, hm'⟩ : ∃ m, m = cells n := ⟨_, rfl⟩
 have hmi : min (max n 0) 50 = (m : Int) := by rw [hm']; unfold cells; omega
 have hm50 : m ≤ 50 := by omega
 have hlm : (L.map thg).length = L.length := by simp
 rw [← hm']
 refine GX.wR ?_; intros
 refine GX.drawn1 (RowR p 86 _) (fun j => !(List.contains [12, 15] j)) [(0, true), (1, true), (2, true), (3, true), (4, true), (5, true), (6, true), (7, true), (8, true), (9, false), (10, true), (11, false), (12, false), (13, true), (14, true), (15, false)] rfl (by kernel_rfl) (by kernel_rfl) GX.sA ?_; intro wd F hW hR
 refine GX.wT ?_; intros
 rw [hmi]
 refine GX.wT ?_; intros
 refine GX.unpin (RowR p 86 _) ?_
 refine GX.wT ?_; intros
 rename_i g _ aL2 cL2
 have e1 : L.map thg ++ [(⟨(k : Int) + 1, some ⟨g, 0, none⟩, m, m⟩ : Thing)] = (L ++ [(((k : Int) + 1, (some ⟨g, 0, none⟩ : Option Addr), m, List.replicate m (0 : Int)) : Th)]).map thg := by simp [thg, hd]
 have e2 : L.map (fun x : Th => x.2) ++ [((some ⟨g, 0, none⟩ : Option Addr), m, List.replicate m (0 : Int))] = (L ++ [(((k : Int) + 1, (some ⟨g, 0, none⟩ : Option Addr), m, List.replicate m (0 : Int)) : Th)]).map (fun x : Th => x.2) := by simp
 rw [e1]
 refine osA (t := 3) (e := Ty.int) (ao := some ⟨g, 0, none⟩) ?_
 rw [e2]
 obtain ⟨L', hL'⟩ : ∃ L', L' = (L ++ [(((k : Int) + 1, (some ⟨g, 0, none⟩ : Option Addr), m, List.replicate m (0 : Int)) : Th)]) := ⟨_, rfl⟩
 have hL1 : L'.length = L.length + 1 := by rw [hL']; simp
 rw [← hL', List.length_map, hL1]
 refine GX.opn aR fun _ _ ha => ?_
 obtain ⟨rfl, _⟩ | ⟨q, rfl⟩ := ha
 ·simp at hk
 refine GX.wR ?_; intros
 refine GX.drawn1 (RowR p 86 _) (fun j => !(List.contains [12] j)) [(0, true), (1, true), (2, true), (3, true), (4, true), (5, true), (6, true), (7, true), (8, true), (9, true), (10, true), (11, true), (12, false)] rfl (by kernel_rfl) (by kernel_rfl) GX.sA ?_; intro wd F hW hR
 refine GX.wT ?_; intros
 refine GX.unpin (RowR p 86 _) ?_
 refine GX.wT ?_; intros
 refine GX.wR ?_; intros
 exact rt2 (g, aL2, cL2) rfl (h2 := by dsimp only; rw [← hL', hL1, List.length_set]; exact GX.sA)
theorem cells_null (p : Nat) (c : TabC) (ref : Int) (h : ref < 1 ∨ (c.L.length : Int) < ref) : Does Tryz.prog 138 [.pointer (some ⟨p, 0, none⟩), .int .i64 ref] [] [RowR p 86 [.slice c.aR c.R.length c.cR, .slice c.aL c.L.length c.cL, .int .i64 c.gone, .int .i64 c.peak, .int .i64 c.many, .int .i64 c.most], GX.Own 90 tyRegion c.aR c.cR c.R, GX.Own 148 tyThing c.aL c.cL (c.L.map thg), Owns 3 Ty.int (c.L.map (fun x : Th => x.2))] (fun _ : Unit => .tuple #[.slice none 0 0, .int .i64 1]) (fun _ => []) (fun _ => [RowR p 86 [.slice c.aR c.R.length c.cR, .slice c.aL c.L.length c.cL, .int .i64 c.gone, .int .i64 c.peak, .int .i64 c.many, .int .i64 c.most], GX.Own 90 tyRegion c.aR c.cR c.R, GX.Own 148 tyThing c.aL c.cL (c.L.map thg), Owns 3 Ty.int (c.L.map (fun x : Th => x.2))]) := by
 refine enter Tryz.func138 rfl Tryz.ntmps138 rfl fun b => ?_
 by_cases h1 : ref < 1
 ·refine GX.wR ?_; intros
  exact rt2 () rfl
 ·refine GX.wR ?_; intros
  exact rt2 () rfl
theorem cells_gone (p : Nat) (c : TabC) (k : Nat) (q : Th) (hk : c.L[k]? = some q) (h : has c.R q.1 = false) (hl : c.L.length ≤ 1000000000) : Does Tryz.prog 138 [.pointer (some ⟨p, 0, none⟩), .int .i64 ((k : Int) + 1)] [] [RowR p 86 [.slice c.aR c.R.length c.cR, .slice c.aL c.L.length c.cL, .int .i64 c.gone, .int .i64 c.peak, .int .i64 c.many, .int .i64 c.most], GX.Own 90 tyRegion c.aR c.cR c.R, GX.Own 148 tyThing c.aL c.cL (c.L.map thg), Owns 3 Ty.int (c.L.map (fun x : Th => x.2))] (fun _ : Unit => .tuple #[.slice none 0 0, .int .i64 (-1)]) (fun _ => []) (fun _ => [RowR p 86 [.slice c.aR c.R.length c.cR, .slice c.aL c.L.length c.cL, .int .i64 c.gone, .int .i64 c.peak, .int .i64 c.many, .int .i64 c.most], GX.Own 90 tyRegion c.aR c.cR c.R, GX.Own 148 tyThing c.aL c.cL (c.L.map thg), Owns 3 Ty.int (c.L.map (fun x : Th => x.2))]) := by
 have hkl : k < c.L.length := (List.getElem?_eq_some_iff.1 hk).1
 refine enter Tryz.func138 rfl Tryz.ntmps138 rfl fun b => ?_
 obtain ⟨aR, cR, R, aL, cL, L, gone, peak, many, most⟩ := c
 dsimp only at *
 refine GX.opn aL fun _ _ ha => ?_
 obtain ⟨hn, _⟩ | ⟨g, rfl⟩ := ha
 ·have : L = [] := by simpa using hn
  subst this; simp at hk
 have hk2 : (L.map thg)[k]? = some (thg q) := by rw [List.getElem?_map, hk]; rfl
 refine GX.wR ?_; intros
 refine GX.o (cl (has_spec p ⟨aR, cR, R, some ⟨g, 0, none⟩, cL, L, gone, peak, many, most⟩ _) fun _ => ?_)
 rw [show (thg q).region = q.1 from rfl, h]
 refine GX.wR ?_; intros
 exact rt2 () rfl
theorem cells_there (p : Nat) (c : TabC) (k : Nat) (q : Th) (hk : c.L[k]? = some q) (h : has c.R q.1 = true) (hl : c.L.length ≤ 1000000000) : Does Tryz.prog 138 [.pointer (some ⟨p, 0, none⟩), .int .i64 ((k : Int) + 1)] [] [RowR p 86 [.slice c.aR c.R.length c.cR, .slice c.aL c.L.length c.cL, .int .i64 c.gone, .int .i64 c.peak, .int .i64 c.many, .int .i64 c.most], GX.Own 90 tyRegion c.aR c.cR c.R, GX.Own 148 tyThing c.aL c.cL (c.L.map thg), Owns 3 Ty.int (c.L.map (fun x : Th => x.2))] (fun _ : Unit => .tuple #[.slice q.2.1 q.2.2.2.length q.2.2.1, .int .i64 0]) (fun _ => []) (fun _ => [RowR p 86 [.slice c.aR c.R.length c.cR, .slice c.aL c.L.length c.cL, .int .i64 c.gone, .int .i64 c.peak, .int .i64 c.many, .int .i64 c.most], GX.Own 90 tyRegion c.aR c.cR c.R, GX.Own 148 tyThing c.aL c.cL (c.L.map thg), Owns 3 Ty.int (c.L.map (fun x : Th => x.2))]) := by
 have hkl : k < c.L.length := (List.getElem?_eq_some_iff.1 hk).1
 refine enter Tryz.func138 rfl Tryz.ntmps138 rfl fun b => ?_
 obtain ⟨aR, cR, R, aL, cL, L, gone, peak, many, most⟩ := c
 dsimp only at *
 refine GX.opn aL fun _ _ ha => ?_
 obtain ⟨hn, _⟩ | ⟨g, rfl⟩ := ha
 ·have : L = [] := by simpa using hn
  subst this; simp at hk
 have hk2 : (L.map thg)[k]? = some (thg q) := by rw [List.getElem?_map, hk]; rfl
 refine GX.wR ?_; intros
 refine GX.o (cl (has_spec p ⟨aR, cR, R, some ⟨g, 0, none⟩, cL, L, gone, peak, many, most⟩ _) fun _ => ?_)
 rw [show (thg q).region = q.1 from rfl, h]
 refine GX.wR ?_; intros
 exact rt2 () rfl
end Go.Proofs.YtomadjefdghliaaGreat
