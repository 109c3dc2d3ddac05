import Derived.Test.YtomadjefdghliaaV1
import Derived.Test.YtomadjefdghliaaV2
import Derived.Test.YtomadjefdghliaaV3
import Derived.Test.YtomadjefdghliaaV4
import Derived.Test.YtomadjefdghliaaV5
import Derived.Test.YtomadjefdghliaaV6
import Derived.Test.YtomadjefdghliaaV7
import Derived.Test.YtomadjefdghliaaV8
import Derived.Test.YtomadjefdghliaaV9
import Derived.Test.YtomadjefdghliaaV10
import Derived.Test.YtomadjefdghliaaV11
import Derived.Test.YtomadjefdghliaaV12
import Derived.Test.YtomadjefdghliaaV13
import Derived.Test.YtomadjefdghliaaV14
import Derived.Test.YtomadjefdghliaaV15
import Derived.Test.YtomadjefdghliaaV16
import Derived.Test.YtomadjefdghliaaV17
import Derived.Test.YtomadjefdghliaaV18
import Derived.Test.YtomadjefdghliaaV19
import Derived.Test.YtomadjefdghliaaV20
import Derived.Test.YtomadjefdghliaaV21
import Derived.Test.YtomadjefdghliaaV22
import Derived.Test.YtomadjefdghliaaV23
import Derived.Test.YtomadjefdghliaaV24
import Derived.Test.YtomadjefdghliaaV25
import Derived.Test.YtomadjefdghliaaV26
import Derived.Test.YtomadjefdghliaaV27
import Derived.Test.YtomadjefdghliaaV28
import Derived.Test.YtomadjefdghliaaV29
import Derived.Test.YtomadjefdghliaaV30
/- PlayLoops: for all integers n and m the law returns true. No condition. -/
namespace Go.Proofs.Ytomadjefdghliaa
open Go Go.RR Go.RX Go.GX Go.Api Go.RtM Go.ChangeShapes Go.WideShapes Go.ChangeAt Go.RowKit
attribute [local irreducible] wpList Code.wp wpPlan Exit.then Exit.inBlock bodyPost NoPanic Went GX.Post GX.Again GX.Meet GX.RowR GX.Own GX.Owns GX.Box GX.Sl GX.Pt GX.Ag GX.MapR GX.Kept GX.Pin wpT GoK AtEnd Both

theorem frzE {n : Nat} {env : Env} {b : Base} {ps : List Pf} {hp : List Res} {K : Act → World → Prop} {α : Type} {e : Ty α} (ao : Option Addr) {t : TypeId} {cap : Nat} {xs : List α} (ys : List α) {rest : List Res} [hf : FOwn ao hp t e cap xs rest] (h : G n env b (Sl e ao cap ys :: ps) rest K) (he : xs = ys := by exact rfl) : G n env b ps hp K := by
  subst he
  exact frz ao h
theorem l_tiny {n m : Nat} (hm : m ≤ 20) : Tiny (lT n m) := by
  refine ⟨⟨by show 1 ≤ 80; omega, by show 0 ≤ 20; omega, by show 1 ≤ 20; omega⟩, fun L hL => ?_, fun u hu => ?_⟩
  · have hL : L ∈ [(⟨false, [-2]⟩ : Layout)] := hL
    obtain rfl := List.mem_singleton.1 hL
    show 1 ≤ 20; omega
  · have hu : u ∈ [lU n m] := hu
    obtain rfl := List.mem_singleton.1 hu
    refine ⟨⟨by show 5 ≤ 150; omega, by show (lI n m).length ≤ 400; rw [li_len]; omega, by show 0 ≤ 80; omega, by show 1 ≤ 80; omega⟩, fun i hi => ?_⟩
    rcases li_mem hi with hi | rfl | hi
    · simp only [lA, List.mem_cons, List.not_mem_nil, or_false] at hi
      rcases hi with rfl | rfl | rfl | rfl | rfl | rfl <;> simp
    · simp [lNew]
    · simp only [lB, List.mem_cons, List.not_mem_nil, or_false] at hi
      rcases hi with rfl | rfl | rfl | rfl | rfl <;> simp
theorem playLoops_does (a : Int) (ha : -9223372036854775808 ≤ a ∧ a ≤ 9223372036854775807) (d : Int) (hd : -9223372036854775808 ≤ d ∧ d ≤ 9223372036854775807) : Does Try.prog 3 [.int .i64 a, .int .i64 d] [] [] (fun _ : Unit => .bool true) (fun _ => []) (fun _ => []) := by
  refine enter Try.func3 rfl Try.ntmps3 rfl fun b => ?_
  by_cases h1 : a < 0
  · refine GX.wR ?_; intros
    exact rt1 () rfl
  by_cases h2 : 60 < a
  · refine GX.wR ?_; intros
    exact rt1 () rfl
  by_cases h3 : d < 0
  · refine GX.wR ?_; intros
    exact rt1 () rfl
  by_cases h4 : 20 < d
  · refine GX.wR ?_; intros
    exact rt1 () rfl
  obtain ⟨n, rfl⟩ := Int.eq_ofNat_of_zero_le (show 0 ≤ a by omega)
  obtain ⟨m, rfl⟩ := Int.eq_ofNat_of_zero_le (show 0 ≤ d by omega)
  have hn : n ≤ 60 := by omega
  have hm : m ≤ 20 := by omega
  have hR := l_right n m hm
  have hT := l_tiny (n := n) hm
  have hp : playP (lT n m) [] 3000 = _ := (show playP (lT n m) [] 3000 = ranP (lT n m) [] [] 3000 by unfold playP; rw [if_pos hR, l_glob]).trans (l_said hn hm)
  repeat (first | (apply GX.s_list; first | apply GX.nil | (refine GX.o ?_; first | (apply GX.k_load; first | refine GX.lr ?_ | refine GX.lrA ?_ | refine GX.ln ?_ | refine GX.lb ?_ | refine GX.lh ?_ | (refine GX.ls ?_; intro ao cap _ _) | (refine GX.lA ?_; intro cs) | (refine GX.l0 ?_; intro cs) | refine GX.o1n ?_ | refine GX.o1b ?_ | refine GX.o1h ?_ | (refine GX.o1s ?_; intro ao cap _ _) | refine GX.omn ?_ | refine GX.omb ?_ | refine GX.omh ?_ | (refine GX.oms ?_; intro ao cap _ _) | refine GX.ofn ?_ | refine GX.ofb ?_ | refine GX.ofh ?_ | (refine GX.ofs ?_; intro ao cap _ _) | (refine GX.oA ?_; intro cs)) | (apply GX.k_move; refine GX.m ?_) | (apply GX.k_binOp_lss; refine GX.b_lss ?_) | (apply GX.k_binOp_add; first | refine GX.b_inc ?_ | refine GX.b_add ?_ | refine GX.b_addw ?_) | (apply GX.k_assign; refine GX.a ?_) | (apply GX.k_fieldAddr; first | refine GX.f0 ?_ | refine GX.fh ?_ | refine GX.fa ?_) | (apply GX.k_call; first | refine GX.c_min ?_ | (refine GX.ap ?_; intro _ _) | (refine GX.ap0 ?_; intro _ _)) | (apply GX.k_pick; first | refine GX.pt ?_ | refine GX.pf ?_ | refine GX.pk ?_) | (apply GX.k_store; first | refine GX.stW ?_ | refine GX.stB ?_ | refine GX.stR ?_ | refine GX.stRW ?_ | refine GX.so1 ?_ | refine GX.som ?_ | refine GX.sof ?_ | refine GX.sog ?_) | (apply GX.k_build; refine GX.bd ?_) | (apply GX.k_buildSlice; (refine GX.sl ?_; intro _)) | (apply GX.k_alloc; (refine GX.alR ?_; intro _)) | (apply GX.k_binOp_eql; first | refine GX.b_eql ?_ | refine GX.b_pn ?_ | refine GX.b_nn ?_ | refine GX.b_snn ?_ | refine GX.b_sns ?_ | refine GX.b_eqls ?_ | refine GX.b_eqltf ?_ | refine GX.b_eqlft ?_ | refine GX.b_eqlb ?_) | (apply GX.k_binOp_gtr; refine GX.b_gtr ?_) | (apply GX.k_binOp_mul; first | refine GX.b_mul ?_ | refine GX.b_mulw ?_) | (apply GX.k_binOp_sub; first | refine GX.b_dec ?_ | refine GX.b_ded ?_ | refine GX.b_sub ?_ | refine GX.b_subw ?_)) | refine GX.gt ?_ | refine GX.gf ?_ | refine GX.gbt ?_ | refine GX.gbf ?_ | refine GX.un ?_ | refine GX.un0 ?_) | apply GX.then_normal | apply GX.seq | (apply GX.s_cond; first | refine GX.ct ?_ | refine GX.cf ?_ | refine GX.cdf ?_ | refine GX.cdt ?_ | refine GX.cbt ?_ | refine GX.cbf ?_) | apply GX.skip | apply GX.block | apply GX.inBlock_normal | apply GX.exit | apply GX.then_exit | apply GX.inBlock_exit | refine GX.ibo ?_ | apply GX.ret | apply GX.then_ret | apply GX.inBlock_ret)
  apply GX.region
  repeat (first | (apply GX.s_list; first | apply GX.nil | (refine GX.o ?_; first | (apply GX.k_load; first | refine GX.lr ?_ | refine GX.lrA ?_ | refine GX.ln ?_ | refine GX.lb ?_ | refine GX.lh ?_ | (refine GX.ls ?_; intro ao cap _ _) | (refine GX.lA ?_; intro cs) | (refine GX.l0 ?_; intro cs) | refine GX.o1n ?_ | refine GX.o1b ?_ | refine GX.o1h ?_ | (refine GX.o1s ?_; intro ao cap _ _) | refine GX.omn ?_ | refine GX.omb ?_ | refine GX.omh ?_ | (refine GX.oms ?_; intro ao cap _ _) | refine GX.ofn ?_ | refine GX.ofb ?_ | refine GX.ofh ?_ | (refine GX.ofs ?_; intro ao cap _ _) | (refine GX.oA ?_; intro cs)) | (apply GX.k_move; refine GX.m ?_) | (apply GX.k_binOp_lss; refine GX.b_lss ?_) | (apply GX.k_binOp_add; first | refine GX.b_inc ?_ | refine GX.b_add ?_ | refine GX.b_addw ?_) | (apply GX.k_assign; refine GX.a ?_) | (apply GX.k_fieldAddr; first | refine GX.f0 ?_ | refine GX.fh ?_ | refine GX.fa ?_) | (apply GX.k_call; first | refine GX.c_min ?_ | (refine GX.ap ?_; intro _ _) | (refine GX.ap0 ?_; intro _ _)) | (apply GX.k_pick; first | refine GX.pt ?_ | refine GX.pf ?_ | refine GX.pk ?_) | (apply GX.k_store; first | refine GX.stW ?_ | refine GX.stB ?_ | refine GX.stR ?_ | refine GX.stRW ?_ | refine GX.so1 ?_ | refine GX.som ?_ | refine GX.sof ?_ | refine GX.sog ?_) | (apply GX.k_build; refine GX.bd ?_) | (apply GX.k_buildSlice; (refine GX.sl ?_; intro _)) | (apply GX.k_alloc; (refine GX.alR ?_; intro _)) | (apply GX.k_binOp_eql; first | refine GX.b_eql ?_ | refine GX.b_pn ?_ | refine GX.b_nn ?_ | refine GX.b_snn ?_ | refine GX.b_sns ?_ | refine GX.b_eqls ?_ | refine GX.b_eqltf ?_ | refine GX.b_eqlft ?_ | refine GX.b_eqlb ?_) | (apply GX.k_binOp_gtr; refine GX.b_gtr ?_) | (apply GX.k_binOp_mul; first | refine GX.b_mul ?_ | refine GX.b_mulw ?_) | (apply GX.k_binOp_sub; first | refine GX.b_dec ?_ | refine GX.b_ded ?_ | refine GX.b_sub ?_ | refine GX.b_subw ?_)) | refine GX.gt ?_ | refine GX.gf ?_ | refine GX.gbt ?_ | refine GX.gbf ?_ | refine GX.un ?_ | refine GX.un0 ?_) | apply GX.then_normal | apply GX.seq | (apply GX.s_cond; first | refine GX.ct ?_ | refine GX.cf ?_ | refine GX.cdf ?_ | refine GX.cdt ?_ | refine GX.cbt ?_ | refine GX.cbf ?_) | apply GX.skip | apply GX.block | apply GX.inBlock_normal | apply GX.exit | apply GX.then_exit | apply GX.inBlock_exit | refine GX.ibo ?_ | apply GX.ret | apply GX.then_ret | apply GX.inBlock_ret)
  apply GX.region
  repeat (first | (apply GX.s_list; first | apply GX.nil | (refine GX.o ?_; first | (apply GX.k_load; first | refine GX.lr ?_ | refine GX.lrA ?_ | refine GX.ln ?_ | refine GX.lb ?_ | refine GX.lh ?_ | (refine GX.ls ?_; intro ao cap _ _) | (refine GX.lA ?_; intro cs) | (refine GX.l0 ?_; intro cs) | refine GX.o1n ?_ | refine GX.o1b ?_ | refine GX.o1h ?_ | (refine GX.o1s ?_; intro ao cap _ _) | refine GX.omn ?_ | refine GX.omb ?_ | refine GX.omh ?_ | (refine GX.oms ?_; intro ao cap _ _) | refine GX.ofn ?_ | refine GX.ofb ?_ | refine GX.ofh ?_ | (refine GX.ofs ?_; intro ao cap _ _) | (refine GX.oA ?_; intro cs)) | (apply GX.k_move; refine GX.m ?_) | (apply GX.k_binOp_lss; refine GX.b_lss ?_) | (apply GX.k_binOp_add; first | refine GX.b_inc ?_ | refine GX.b_add ?_ | refine GX.b_addw ?_) | (apply GX.k_assign; refine GX.a ?_) | (apply GX.k_fieldAddr; first | refine GX.f0 ?_ | refine GX.fh ?_ | refine GX.fa ?_) | (apply GX.k_call; first | refine GX.c_min ?_ | (refine GX.ap ?_; intro _ _) | (refine GX.ap0 ?_; intro _ _)) | (apply GX.k_pick; first | refine GX.pt ?_ | refine GX.pf ?_ | refine GX.pk ?_) | (apply GX.k_store; first | refine GX.stW ?_ | refine GX.stB ?_ | refine GX.stR ?_ | refine GX.stRW ?_ | refine GX.so1 ?_ | refine GX.som ?_ | refine GX.sof ?_ | refine GX.sog ?_) | (apply GX.k_build; refine GX.bd ?_) | (apply GX.k_buildSlice; (refine GX.sl ?_; intro _)) | (apply GX.k_alloc; (refine GX.alR ?_; intro _)) | (apply GX.k_binOp_eql; first | refine GX.b_eql ?_ | refine GX.b_pn ?_ | refine GX.b_nn ?_ | refine GX.b_snn ?_ | refine GX.b_sns ?_ | refine GX.b_eqls ?_ | refine GX.b_eqltf ?_ | refine GX.b_eqlft ?_ | refine GX.b_eqlb ?_) | (apply GX.k_binOp_gtr; refine GX.b_gtr ?_) | (apply GX.k_binOp_mul; first | refine GX.b_mul ?_ | refine GX.b_mulw ?_) | (apply GX.k_binOp_sub; first | refine GX.b_dec ?_ | refine GX.b_ded ?_ | refine GX.b_sub ?_ | refine GX.b_subw ?_)) | refine GX.gt ?_ | refine GX.gf ?_ | refine GX.gbt ?_ | refine GX.gbf ?_ | refine GX.un ?_ | refine GX.un0 ?_) | apply GX.then_normal | apply GX.seq | (apply GX.s_cond; first | refine GX.ct ?_ | refine GX.cf ?_ | refine GX.cdf ?_ | refine GX.cdt ?_ | refine GX.cbt ?_ | refine GX.cbf ?_) | apply GX.skip | apply GX.block | apply GX.inBlock_normal | apply GX.exit | apply GX.then_exit | apply GX.inBlock_exit | refine GX.ibo ?_ | apply GX.ret | apply GX.then_ret | apply GX.inBlock_ret)
  apply GX.region
  repeat (first | (apply GX.s_list; first | apply GX.nil | (refine GX.o ?_; first | (apply GX.k_load; first | refine GX.lr ?_ | refine GX.lrA ?_ | refine GX.ln ?_ | refine GX.lb ?_ | refine GX.lh ?_ | (refine GX.ls ?_; intro ao cap _ _) | (refine GX.lA ?_; intro cs) | (refine GX.l0 ?_; intro cs) | refine GX.o1n ?_ | refine GX.o1b ?_ | refine GX.o1h ?_ | (refine GX.o1s ?_; intro ao cap _ _) | refine GX.omn ?_ | refine GX.omb ?_ | refine GX.omh ?_ | (refine GX.oms ?_; intro ao cap _ _) | refine GX.ofn ?_ | refine GX.ofb ?_ | refine GX.ofh ?_ | (refine GX.ofs ?_; intro ao cap _ _) | (refine GX.oA ?_; intro cs)) | (apply GX.k_move; refine GX.m ?_) | (apply GX.k_binOp_lss; refine GX.b_lss ?_) | (apply GX.k_binOp_add; first | refine GX.b_inc ?_ | refine GX.b_add ?_ | refine GX.b_addw ?_) | (apply GX.k_assign; refine GX.a ?_) | (apply GX.k_fieldAddr; first | refine GX.f0 ?_ | refine GX.fh ?_ | refine GX.fa ?_) | (apply GX.k_call; first | refine GX.c_min ?_ | (refine GX.ap ?_; intro _ _) | (refine GX.ap0 ?_; intro _ _)) | (apply GX.k_pick; first | refine GX.pt ?_ | refine GX.pf ?_ | refine GX.pk ?_) | (apply GX.k_store; first | refine GX.stW ?_ | refine GX.stB ?_ | refine GX.stR ?_ | refine GX.stRW ?_ | refine GX.so1 ?_ | refine GX.som ?_ | refine GX.sof ?_ | refine GX.sog ?_) | (apply GX.k_build; refine GX.bd ?_) | (apply GX.k_buildSlice; (refine GX.sl ?_; intro _)) | (apply GX.k_alloc; (refine GX.alR ?_; intro _)) | (apply GX.k_binOp_eql; first | refine GX.b_eql ?_ | refine GX.b_pn ?_ | refine GX.b_nn ?_ | refine GX.b_snn ?_ | refine GX.b_sns ?_ | refine GX.b_eqls ?_ | refine GX.b_eqltf ?_ | refine GX.b_eqlft ?_ | refine GX.b_eqlb ?_) | (apply GX.k_binOp_gtr; refine GX.b_gtr ?_) | (apply GX.k_binOp_mul; first | refine GX.b_mul ?_ | refine GX.b_mulw ?_) | (apply GX.k_binOp_sub; first | refine GX.b_dec ?_ | refine GX.b_ded ?_ | refine GX.b_sub ?_ | refine GX.b_subw ?_)) | refine GX.gt ?_ | refine GX.gf ?_ | refine GX.gbt ?_ | refine GX.gbf ?_ | refine GX.un ?_ | refine GX.un0 ?_) | apply GX.then_normal | apply GX.seq | (apply GX.s_cond; first | refine GX.ct ?_ | refine GX.cf ?_ | refine GX.cdf ?_ | refine GX.cdt ?_ | refine GX.cbt ?_ | refine GX.cbf ?_) | apply GX.skip | apply GX.block | apply GX.inBlock_normal | apply GX.exit | apply GX.then_exit | apply GX.inBlock_exit | refine GX.ibo ?_ | apply GX.ret | apply GX.then_ret | apply GX.inBlock_ret)
  apply GX.region
  repeat (first | (apply GX.s_list; first | apply GX.nil | (refine GX.o ?_; first | (apply GX.k_load; first | refine GX.lr ?_ | refine GX.lrA ?_ | refine GX.ln ?_ | refine GX.lb ?_ | refine GX.lh ?_ | (refine GX.ls ?_; intro ao cap _ _) | (refine GX.lA ?_; intro cs) | (refine GX.l0 ?_; intro cs) | refine GX.o1n ?_ | refine GX.o1b ?_ | refine GX.o1h ?_ | (refine GX.o1s ?_; intro ao cap _ _) | refine GX.omn ?_ | refine GX.omb ?_ | refine GX.omh ?_ | (refine GX.oms ?_; intro ao cap _ _) | refine GX.ofn ?_ | refine GX.ofb ?_ | refine GX.ofh ?_ | (refine GX.ofs ?_; intro ao cap _ _) | (refine GX.oA ?_; intro cs)) | (apply GX.k_move; refine GX.m ?_) | (apply GX.k_binOp_lss; refine GX.b_lss ?_) | (apply GX.k_binOp_add; first | refine GX.b_inc ?_ | refine GX.b_add ?_ | refine GX.b_addw ?_) | (apply GX.k_assign; refine GX.a ?_) | (apply GX.k_fieldAddr; first | refine GX.f0 ?_ | refine GX.fh ?_ | refine GX.fa ?_) | (apply GX.k_call; first | refine GX.c_min ?_ | (refine GX.ap ?_; intro _ _) | (refine GX.ap0 ?_; intro _ _)) | (apply GX.k_pick; first | refine GX.pt ?_ | refine GX.pf ?_ | refine GX.pk ?_) | (apply GX.k_store; first | refine GX.stW ?_ | refine GX.stB ?_ | refine GX.stR ?_ | refine GX.stRW ?_ | refine GX.so1 ?_ | refine GX.som ?_ | refine GX.sof ?_ | refine GX.sog ?_) | (apply GX.k_build; refine GX.bd ?_) | (apply GX.k_buildSlice; (refine GX.sl ?_; intro _)) | (apply GX.k_alloc; (refine GX.alR ?_; intro _)) | (apply GX.k_binOp_eql; first | refine GX.b_eql ?_ | refine GX.b_pn ?_ | refine GX.b_nn ?_ | refine GX.b_snn ?_ | refine GX.b_sns ?_ | refine GX.b_eqls ?_ | refine GX.b_eqltf ?_ | refine GX.b_eqlft ?_ | refine GX.b_eqlb ?_) | (apply GX.k_binOp_gtr; refine GX.b_gtr ?_) | (apply GX.k_binOp_mul; first | refine GX.b_mul ?_ | refine GX.b_mulw ?_) | (apply GX.k_binOp_sub; first | refine GX.b_dec ?_ | refine GX.b_ded ?_ | refine GX.b_sub ?_ | refine GX.b_subw ?_)) | refine GX.gt ?_ | refine GX.gf ?_ | refine GX.gbt ?_ | refine GX.gbf ?_ | refine GX.un ?_ | refine GX.un0 ?_) | apply GX.then_normal | apply GX.seq | (apply GX.s_cond; first | refine GX.ct ?_ | refine GX.cf ?_ | refine GX.cdf ?_ | refine GX.cdt ?_ | refine GX.cbt ?_ | refine GX.cbf ?_) | apply GX.skip | apply GX.block | apply GX.inBlock_normal | apply GX.exit | apply GX.then_exit | apply GX.inBlock_exit | refine GX.ibo ?_ | apply GX.ret | apply GX.then_ret | apply GX.inBlock_ret)
  apply GX.region
  repeat (first | (apply GX.s_list; first | apply GX.nil | (refine GX.o ?_; first | (apply GX.k_load; first | refine GX.lr ?_ | refine GX.lrA ?_ | refine GX.ln ?_ | refine GX.lb ?_ | refine GX.lh ?_ | (refine GX.ls ?_; intro ao cap _ _) | (refine GX.lA ?_; intro cs) | (refine GX.l0 ?_; intro cs) | refine GX.o1n ?_ | refine GX.o1b ?_ | refine GX.o1h ?_ | (refine GX.o1s ?_; intro ao cap _ _) | refine GX.omn ?_ | refine GX.omb ?_ | refine GX.omh ?_ | (refine GX.oms ?_; intro ao cap _ _) | refine GX.ofn ?_ | refine GX.ofb ?_ | refine GX.ofh ?_ | (refine GX.ofs ?_; intro ao cap _ _) | (refine GX.oA ?_; intro cs)) | (apply GX.k_move; refine GX.m ?_) | (apply GX.k_binOp_lss; refine GX.b_lss ?_) | (apply GX.k_binOp_add; first | refine GX.b_inc ?_ | refine GX.b_add ?_ | refine GX.b_addw ?_) | (apply GX.k_assign; refine GX.a ?_) | (apply GX.k_fieldAddr; first | refine GX.f0 ?_ | refine GX.fh ?_ | refine GX.fa ?_) | (apply GX.k_call; first | refine GX.c_min ?_ | (refine GX.ap ?_; intro _ _) | (refine GX.ap0 ?_; intro _ _)) | (apply GX.k_pick; first | refine GX.pt ?_ | refine GX.pf ?_ | refine GX.pk ?_) | (apply GX.k_store; first | refine GX.stW ?_ | refine GX.stB ?_ | refine GX.stR ?_ | refine GX.stRW ?_ | refine GX.so1 ?_ | refine GX.som ?_ | refine GX.sof ?_ | refine GX.sog ?_) | (apply GX.k_build; refine GX.bd ?_) | (apply GX.k_buildSlice; (refine GX.sl ?_; intro _)) | (apply GX.k_alloc; (refine GX.alR ?_; intro _)) | (apply GX.k_binOp_eql; first | refine GX.b_eql ?_ | refine GX.b_pn ?_ | refine GX.b_nn ?_ | refine GX.b_snn ?_ | refine GX.b_sns ?_ | refine GX.b_eqls ?_ | refine GX.b_eqltf ?_ | refine GX.b_eqlft ?_ | refine GX.b_eqlb ?_) | (apply GX.k_binOp_gtr; refine GX.b_gtr ?_) | (apply GX.k_binOp_mul; first | refine GX.b_mul ?_ | refine GX.b_mulw ?_) | (apply GX.k_binOp_sub; first | refine GX.b_dec ?_ | refine GX.b_ded ?_ | refine GX.b_sub ?_ | refine GX.b_subw ?_)) | refine GX.gt ?_ | refine GX.gf ?_ | refine GX.gbt ?_ | refine GX.gbf ?_ | refine GX.un ?_ | refine GX.un0 ?_) | apply GX.then_normal | apply GX.seq | (apply GX.s_cond; first | refine GX.ct ?_ | refine GX.cf ?_ | refine GX.cdf ?_ | refine GX.cdt ?_ | refine GX.cbt ?_ | refine GX.cbf ?_) | apply GX.skip | apply GX.block | apply GX.inBlock_normal | apply GX.exit | apply GX.then_exit | apply GX.inBlock_exit | refine GX.ibo ?_ | apply GX.ret | apply GX.then_ret | apply GX.inBlock_ret)
  apply GX.region
  refine GX.wRO ?_; intros
  refine GX.nmB 43 ?_; rintro b43 rfl
  refine frz (some ⟨b43, 0, none⟩) ?_
  refine GX.wRO ?_; intros
  refine GX.nmP 5 ?_; rintro b5 rfl
  refine GX.nmP 7 ?_; rintro b7 rfl
  refine GX.nmB 26 ?_; rintro bC rfl
  refine GX.nmB 32 ?_; rintro bV rfl
  refine GX.nmB 33 ?_; rintro bO rfl
  refine GX.nmB 45 ?_; rintro b45 rfl
  refine GX.loop (σ := Nat × Option Addr × Nat) (fun s => [(0, .int .i64 (n : Int)), (1, .int .i64 (m : Int)), (5, .pointer (some ⟨b5, 0, none⟩)), (7, .pointer (some ⟨b7, 0, none⟩)), (8, .int .i64 (s.1 : Int))]) (fun _ => [])
    (fun s => [GX.Own 33 tyIns s.2.1 s.2.2 (lA n m ++ List.replicate s.1 lNew), RowR b7 31 [.int .i64 0, .slice (some ⟨bV, 0, none⟩) 5 5, .int .i64 (-3), .slice none 0 0, .slice (some ⟨bO, 0, none⟩) 1 1, .slice s.2.1 (lA n m ++ List.replicate s.1 lNew).length s.2.2], RowR b5 28 [.slice (some ⟨bC, 0, none⟩) 1 1, .slice none 0 0, .slice none 0 0, .int .i64 0]])
    (fun s => s.1 ≤ m) (fun s => m - s.1) (0, some ⟨b45, 0, none⟩, 6) ⟨rfl, rfl, rfl, rfl, rfl, trivial⟩ (Nat.zero_le _) (fun s hs => ?_)
  obtain ⟨i, aI, cI⟩ := s
  dsimp only at hs ⊢
  have hl1 : (lA n m ++ List.replicate i lNew).length = 6 + i := by rw [List.length_append, List.length_replicate]; rfl
  have hA : (lA n m).length = 6 := rfl
  have hrl : (List.replicate i lNew).length = i := List.length_replicate
  by_cases hlt : i < m
  · have hl2 : (lA n m ++ List.replicate i lNew ++ [lNew]).length = 7 + i := by rw [List.length_append, hl1]; show 6 + i + 1 = _; omega
    have hap : lA n m ++ List.replicate i lNew ++ [lNew] = lA n m ++ List.replicate (i + 1) lNew := by rw [List.replicate_succ', List.append_assoc]
    refine GX.wRA ?_; intros
    refine GX.nmS 56 ?_; rintro a56 c56 rfl rfl
    rw [show (⟨11, 4, 0, 0, 0, []⟩ : Ins) = lNew from rfl, hap]
    exact again (i + 1, a56, c56) ⟨rfl, rfl, rfl, rfl, rfl, trivial⟩ (by dsimp only; omega) (by dsimp only; omega)
  · obtain rfl : i = m := by omega
    refine GX.wRA ?_; intros
    refine GX.nmS 69 ?_; rintro a69 c69 rfl rfl
    refine frzE a69 (lI n i) ?_
    rw [show (lA n i ++ List.replicate i lNew ++ [⟨22, 0, 0, 0, 0, [0]⟩, ⟨16, 0, 0, 0, 9 + (i : Int), []⟩, ⟨18, -1, 0, 0, 0, []⟩, ⟨4, 0, 0, 1, 15, []⟩, ⟨16, 0, 0, 0, 3, []⟩]) = lI n i from rfl]
    refine GX.wRA ?_; intros
    refine slNil Ty.int ?_
    refine GX.agZ (e := tyRTg) 74 (lT n i) ?_
    refine GX.o (cl (run_spec _ (lT n i) hT.small hT.tame none 0 [] 3000 (by omega)) fun s => ?_)
    obtain ⟨y, hy⟩ : ∃ y, y = playP (lT n i) [] 3000 := ⟨_, rfl⟩
    rw [← hy]
    rw [hp] at hy
    have hmul : n * (i + 7) ≤ 60 * 27 := Nat.mul_le_mul hn (by omega)
    have hmc : ((n * (i + 7) : Nat) : Int) = (n : Int) * ((i : Int) + 7) := by rw [Int.natCast_mul]; rfl
    have hmul2 : i * min n 1 ≤ 20 * 1 := Nat.mul_le_mul (by omega) (by omega)
    have hmc2 : ((i * min n 1 : Nat) : Int) = (i : Int) * ((min n 1 : Nat) : Int) := Int.natCast_mul _ _
    have hmn : ((min n 1 : Nat) : Int) = min (n : Int) 1 := by omega
    rw [hmn] at hmc2
    have q1 : y.beh.end_ = 1 := by rw [hy]
    have q2 : y.beh.steps = 6 + (n : Int) * ((i : Int) + 7) := by rw [hy]; show ((6 + n * (i + 7) : Nat) : Int) = _; omega
    have q3 : y.made = (n : Int) + 1 := by rw [hy]
    have q4 : y.gone = (n : Int) + 1 := by rw [hy]
    have q5 : y.peak = 1 + min (n : Int) 1 := by rw [hy, ← hmn]
    have q6 : y.most = (i : Int) * min (n : Int) 1 := by rw [hy, ← hmn]
    have q7 : y.slack = 1 - min (n : Int) 1 := by rw [hy, ← hmn]
    clear hy
    refine GX.wR ?_; intros
    refine GX.o (cl known30_spec fun _ => ?_)
    refine GX.wR ?_; intros
    exact rt1 () rfl
theorem playLoops_own : ownKnob Try.prog.godebug = none := by kernel_rfl
theorem playLoops_laidOut : laidOutB Try.prog = true := by kernel_rfl
set_option maxRecDepth 100000 in
theorem playLoops_lifted (os : Os) (started : os.Started) (H : Type) (enc : TypeId × Value → H) :
    ReturnsInHanded {} Try.checked os 3 .any (Rows.playLoopsSpec.pre6 enc Try.prog Try.f3 Rows.playLoopsRow.domain false) (Rows.playLoopsSpec.post enc Try.prog Try.f3 false true false false) := by
  refine returnsInHanded_of_change (C := Try.checked) playLoops_own started (by kernel_rfl) Try.func3
    (ChangeSpec.witness6 (enc := enc) (C := Try.checked) false ⟨#[], #[.int .i64 0, .int .i64 0], []⟩ 8 (by kernel_rfl) (by kernel_rfl) (by kernel_rfl) (by kernel_rfl)) ?_
  intro W base args ds gs before hval0 hW hcnd _
  have hval : ∀ (j : Nat) t v, Try.f3.params[j]? = some t → args[j]? = some v → Value.okWide Try.prog W .any base t v := hval0
  have hW' := hW
  obtain ⟨p, q, hA0, hV, rfl, hfz, hnd⟩ := hW
  have hA : DataW.TrodAll enc Try.prog W 0 (fun _ => true) true Try.f3.params.toList args.toList ds p := hA0
  rw [Try.params3] at hA hval
  obtain ⟨v0, vs0, d0, ds0, p0, q0, hargs, rfl, rfl, h0, r0⟩ := trodAll_cons hA
  obtain ⟨v1, vs1, d1, ds1, p1, q1, rfl, rfl, rfl, h1, r1⟩ := trodAll_cons r0
  obtain ⟨rfl, rfl, rfl⟩ := trodAll_nil r1
  obtain rfl : args = #[v0, v1] := by cases args; simp_all
  obtain ⟨rfl, rfl⟩ := trodVars_none hV
  have hlt := hW'.lt
  have hl0 : ∀ x ∈ p0, x.block < W.heap.size := fun x hx => hlt x (by simp [hx])
  obtain ⟨a0, rfl, e0, g0, w0⟩ := open_int Try.underlying3 (hval 0 3 v0 rfl rfl) h0
  have b0 : -9223372036854775808 ≤ a0 ∧ a0 ≤ 9223372036854775807 := wf_i64 w0
  have hl1 : ∀ x ∈ p1, x.block < W.heap.size := fun x hx => hlt x (by simp [hx])
  obtain ⟨a1, rfl, e1, g1, w1⟩ := open_int Try.underlying3 (hval 1 3 v1 rfl rfl) h1
  have b1 : -9223372036854775808 ≤ a1 ∧ a1 ≤ 9223372036854775807 := wf_i64 w1
  refine ((playLoops_does a0 b0 a1 b1).calls W all_nil).mono fun e W' ⟨he, hu⟩ => ?_
  subst he
  have hb := hu.below
  exact ⟨_, rfl, _, _, _, [], _, [], hW', trodAll_cons_mk (shut_bool Try.underlying4 _) trodAll_mk0, (trodAll_cons_mk (hb.trod playLoops_laidOut (by kernel_rfl) (of_decide_eq_true (by kernel_rfl)) h0 hl0) (trodAll_cons_mk (hb.trod playLoops_laidOut (by kernel_rfl) (of_decide_eq_true (by kernel_rfl)) h1 hl1) trodAll_mk0)), rfl, hb.frame _, fun h => by cases h⟩
theorem playLoops_holds : Rows.PlayLoopsSaid :=
  OpenClaim.holds_of_wide 3 Try.f3 rfl rfl rfl rfl rfl rfl rfl ⟨rfl, rfl, rfl, rfl, rfl⟩ rfl rfl rfl rfl rfl (by kernel_rfl) Try.func3 (by kernel_rfl)
    (of_decide_eq_true (by kernel_rfl)) (by unfold Func.isWrapper; first | (rw [if_pos (by decide +kernel)]; kernel_rfl) | (rw [if_neg (by decide +kernel)]; exact ⟨rfl, rfl⟩))
    (fun os started H enc _ => playLoops_lifted os started H enc)
end Go.Proofs.Ytomadjefdghliaa
