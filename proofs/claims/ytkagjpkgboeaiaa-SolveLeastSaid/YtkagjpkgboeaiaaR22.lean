import Derived.Test.YtkagjpkgboeaiaaR12
import Derived.Test.YtkagjpkgboeaiaaR21
/- The walk over Ints of the reference of chapter 15. -/
namespace Go.Proofs.Ytkagjpkgboeaiaa
open Go Go.RR Go.RX Go.GX
attribute [local irreducible] wpList Code.wp wpPlan Exit.then Exit.inBlock bodyPost NoPanic Went GX.Post GX.Again GX.Meet GX.RowR GX.Own GX.Owns GX.Box GX.Sl GX.Pt GX.Ag GX.MapR GX.Kept GX.Pin

theorem take_eq_succ {α : Type} {xs ys : List α} {i : Nat} {x : α} (h : xs.take i = ys.take i) (hx : xs[i]? = some x) (hy : ys[i]? = some x) : xs.take (i + 1) = ys.take (i + 1) := by
  rw [List.take_add_one, List.take_add_one, h, hx, hy]

theorem ints_same (ao1 ao2 : Option Addr) (cap1 cap2 : Nat) (xs ys : List Int) : Does Try.prog 42 [.slice ao1 xs.length cap1, .slice ao2 ys.length cap2] [Sl Ty.int ao1 cap1 xs, Sl Ty.int ao2 cap2 ys] []
    (fun _ : Unit => .bool (decide (xs = ys))) (fun _ => []) (fun _ => []) := by
  refine enter Try.func42 rfl Try.ntmps42 rfl fun b => ?_
  refine sln ao1 fun h1 h2 _ => ?_
  by_cases hl : xs.length = ys.length
  · repeat (first | (apply GX.s_list; first | apply GX.nil | (refine GX.o ?_; first | (apply GX.k_load; first | refine GX.lr ?_ | refine GX.lrA ?_ | refine GX.ln ?_ | refine GX.lb ?_ | refine GX.lh ?_ | (refine GX.ls ?_; intro ao cap _ _) | (refine GX.lA ?_; intro cs) | (refine GX.l0 ?_; intro cs) | refine GX.o1n ?_ | refine GX.o1b ?_ | refine GX.o1h ?_ | (refine GX.o1s ?_; intro ao cap _ _) | refine GX.omn ?_ | refine GX.omb ?_ | refine GX.omh ?_ | (refine GX.oms ?_; intro ao cap _ _) | refine GX.ofn ?_ | refine GX.ofb ?_ | refine GX.ofh ?_ | (refine GX.ofs ?_; intro ao cap _ _) | (refine GX.oA ?_; intro cs)) | (apply GX.k_move; refine GX.m ?_) | (apply GX.k_indexAddr; first | refine GX.io1 ?_ | refine GX.ioh ?_ | refine GX.i1 ?_ | refine GX.ih ?_ | (refine GX.ix ?_; intro bl o)) | (apply GX.k_binOp_lss; refine GX.b_lss ?_) | (apply GX.k_binOp_add; first | refine GX.b_inc ?_ | refine GX.b_add ?_ | refine GX.b_addw ?_) | (apply GX.k_assign; refine GX.a ?_) | (apply GX.k_call; refine GX.c_len ?_) | (apply GX.k_binOp_neq; first | refine GX.b_neq ?_ | refine GX.b_pm ?_ | refine GX.b_nm ?_ | refine GX.b_neqs ?_ | refine GX.b_neqtf ?_ | refine GX.b_neqft ?_ | refine GX.b_neqb ?_)) | refine GX.gt ?_ | refine GX.gf ?_ | refine GX.gbt ?_ | refine GX.gbf ?_ | refine GX.un ?_ | refine GX.un0 ?_) | apply GX.then_normal | apply GX.seq | apply GX.region | (apply GX.s_cond; first | refine GX.ct ?_ | refine GX.cf ?_ | refine GX.cdf ?_ | refine GX.cdt ?_ | refine GX.cbt ?_ | refine GX.cbf ?_) | apply GX.skip | apply GX.block | apply GX.inBlock_normal | apply GX.exit | apply GX.then_exit | apply GX.inBlock_exit | refine GX.ibo ?_ | apply GX.ret | apply GX.then_ret | apply GX.inBlock_ret)
    refine GX.loop (σ := Nat) (fun i => [(0, .slice ao1 xs.length cap1), (1, .slice ao2 ys.length cap2), (5, .int .i64 (i : Int))]) (fun _ => []) (fun _ => [])
      (fun i => i ≤ xs.length ∧ xs.take i = ys.take i) (fun i => xs.length - i) 0 ⟨rfl, rfl, rfl, trivial⟩ ⟨by omega, by simp⟩ (fun i hi => ?_)
    obtain ⟨hi, ht⟩ := hi
    by_cases hlt : i < xs.length
    · obtain ⟨x, hx⟩ := get_lt hlt
      obtain ⟨y, hy⟩ := get_lt (show i < ys.length by omega)
      by_cases hxy : x = y
      · repeat (first | (apply GX.s_list; first | apply GX.nil | (refine GX.o ?_; first | (apply GX.k_load; first | refine GX.lr ?_ | refine GX.lrA ?_ | refine GX.ln ?_ | refine GX.lb ?_ | refine GX.lh ?_ | (refine GX.ls ?_; intro ao cap _ _) | (refine GX.lA ?_; intro cs) | (refine GX.l0 ?_; intro cs) | refine GX.o1n ?_ | refine GX.o1b ?_ | refine GX.o1h ?_ | (refine GX.o1s ?_; intro ao cap _ _) | refine GX.omn ?_ | refine GX.omb ?_ | refine GX.omh ?_ | (refine GX.oms ?_; intro ao cap _ _) | refine GX.ofn ?_ | refine GX.ofb ?_ | refine GX.ofh ?_ | (refine GX.ofs ?_; intro ao cap _ _) | (refine GX.oA ?_; intro cs)) | (apply GX.k_move; refine GX.m ?_) | (apply GX.k_indexAddr; first | refine GX.io1 ?_ | refine GX.ioh ?_ | refine GX.i1 ?_ | refine GX.ih ?_ | (refine GX.ix ?_; intro bl o)) | (apply GX.k_binOp_lss; refine GX.b_lss ?_) | (apply GX.k_binOp_add; first | refine GX.b_inc ?_ | refine GX.b_add ?_ | refine GX.b_addw ?_) | (apply GX.k_assign; refine GX.a ?_) | (apply GX.k_call; refine GX.c_len ?_) | (apply GX.k_binOp_neq; first | refine GX.b_neq ?_ | refine GX.b_pm ?_ | refine GX.b_nm ?_ | refine GX.b_neqs ?_ | refine GX.b_neqtf ?_ | refine GX.b_neqft ?_ | refine GX.b_neqb ?_)) | refine GX.gt ?_ | refine GX.gf ?_ | refine GX.gbt ?_ | refine GX.gbf ?_ | refine GX.un ?_ | refine GX.un0 ?_) | apply GX.then_normal | apply GX.seq | apply GX.region | (apply GX.s_cond; first | refine GX.ct ?_ | refine GX.cf ?_ | refine GX.cdf ?_ | refine GX.cdt ?_ | refine GX.cbt ?_ | refine GX.cbf ?_) | apply GX.skip | apply GX.block | apply GX.inBlock_normal | apply GX.exit | apply GX.then_exit | apply GX.inBlock_exit | refine GX.ibo ?_ | apply GX.ret | apply GX.then_ret | apply GX.inBlock_ret)
        refine GX.drawn0  (fun j => !(List.contains [] j)) [(0, true), (1, true), (2, true), (3, true), (4, true), (5, true), (6, true), (7, true), (8, true)] rfl (by kernel_rfl) (by kernel_rfl) (by first | ((repeat (first | apply Go.GX.SelR.nil | apply Go.GX.SelR.cons | (with_reducible apply Go.GX.TakeR.head) | apply Go.GX.TakeR.tail)); done) | (repeat (first | apply Go.GX.SelR.nil | apply Go.GX.SelR.cons | apply Go.GX.TakeR.head | apply Go.GX.TakeR.tail))) ?_; intro wd F hW hR
        repeat (first | (apply GX.s_take; first | (refine GX.tkp ?_; first | (apply GX.t_move; refine GX.tm ?_) | (apply GX.t_indexAddr; first | refine GX.ti1 ?_ | refine GX.tih ?_) | (apply GX.t_binOp_neq; first | refine GX.tb_neq ?_ | refine GX.tb_pm ?_ | refine GX.tb_nm ?_ | refine GX.tb_neqs ?_ | refine GX.tb_neqtf ?_ | refine GX.tb_neqft ?_ | refine GX.tb_neqb ?_)) | ((first | refine GX.tkr ?_ | refine GX.tkrE ?_); first | (apply GX.r_load; first | refine GX.rlr ?_ | refine GX.rlrA ?_ | refine GX.rln ?_ | refine GX.rlb ?_ | refine GX.rlh ?_ | (refine GX.rls ?_; intro ao cap _ _ _) | (refine GX.rlA ?_; intro cs _) | (refine GX.rl0 ?_; intro cs _) | refine GX.ro1n ?_ | refine GX.ro1b ?_ | refine GX.ro1h ?_ | (refine GX.ro1s ?_; intro ao cap _ _ _) | refine GX.romn ?_ | refine GX.romb ?_ | refine GX.romh ?_ | (refine GX.roms ?_; intro ao cap _ _ _) | refine GX.rofn ?_ | refine GX.rofb ?_ | refine GX.rofh ?_ | (refine GX.rofs ?_; intro ao cap _ _ _) | (refine GX.roA ?_; intro cs _)) | (apply GX.r_indexAddr; first | refine GX.rio1 ?_ | refine GX.rioh ?_ | (refine GX.rix ?_; intro bl o _))) | (refine GX.tkx ?_; first | (refine GX.xix ?_; intro _ _ _)) | refine GX.pgt ?_ | refine GX.pgf ?_ | refine GX.pgbt ?_ | refine GX.pgbf ?_ | refine GX.tkn ?_ | refine GX.tknE ?_) | (apply GX.s_go; first | (refine GX.gow ?_; first | (apply GX.k_load; first | refine GX.lr ?_ | refine GX.lrA ?_ | refine GX.ln ?_ | refine GX.lb ?_ | refine GX.lh ?_ | (refine GX.ls ?_; intro ao cap _ _) | (refine GX.lA ?_; intro cs) | (refine GX.l0 ?_; intro cs) | refine GX.o1n ?_ | refine GX.o1b ?_ | refine GX.o1h ?_ | (refine GX.o1s ?_; intro ao cap _ _) | refine GX.omn ?_ | refine GX.omb ?_ | refine GX.omh ?_ | (refine GX.oms ?_; intro ao cap _ _) | refine GX.ofn ?_ | refine GX.ofb ?_ | refine GX.ofh ?_ | (refine GX.ofs ?_; intro ao cap _ _) | (refine GX.oA ?_; intro cs)) | (apply GX.k_move; refine GX.m ?_) | (apply GX.k_indexAddr; first | refine GX.io1 ?_ | refine GX.ioh ?_ | refine GX.i1 ?_ | refine GX.ih ?_ | (refine GX.ix ?_; intro bl o)) | (apply GX.k_binOp_neq; first | refine GX.b_neq ?_ | refine GX.b_pm ?_ | refine GX.b_nm ?_ | refine GX.b_neqs ?_ | refine GX.b_neqtf ?_ | refine GX.b_neqft ?_ | refine GX.b_neqb ?_)) | refine GX.pgt ?_ | refine GX.pgf ?_ | refine GX.pgbt ?_ | refine GX.pgbf ?_ | refine GX.gon ?_) | (apply GX.s_went; first | refine GX.wentF ?_ | refine GX.went ?_ | refine GX.wentE ?_) | apply GX.done)
        repeat (first | (apply GX.s_list; first | apply GX.nil | (refine GX.o ?_; first | (apply GX.k_load; first | refine GX.lr ?_ | refine GX.lrA ?_ | refine GX.ln ?_ | refine GX.lb ?_ | refine GX.lh ?_ | (refine GX.ls ?_; intro ao cap _ _) | (refine GX.lA ?_; intro cs) | (refine GX.l0 ?_; intro cs) | refine GX.o1n ?_ | refine GX.o1b ?_ | refine GX.o1h ?_ | (refine GX.o1s ?_; intro ao cap _ _) | refine GX.omn ?_ | refine GX.omb ?_ | refine GX.omh ?_ | (refine GX.oms ?_; intro ao cap _ _) | refine GX.ofn ?_ | refine GX.ofb ?_ | refine GX.ofh ?_ | (refine GX.ofs ?_; intro ao cap _ _) | (refine GX.oA ?_; intro cs)) | (apply GX.k_move; refine GX.m ?_) | (apply GX.k_indexAddr; first | refine GX.io1 ?_ | refine GX.ioh ?_ | refine GX.i1 ?_ | refine GX.ih ?_ | (refine GX.ix ?_; intro bl o)) | (apply GX.k_binOp_lss; refine GX.b_lss ?_) | (apply GX.k_binOp_add; first | refine GX.b_inc ?_ | refine GX.b_add ?_ | refine GX.b_addw ?_) | (apply GX.k_assign; refine GX.a ?_) | (apply GX.k_call; refine GX.c_len ?_) | (apply GX.k_binOp_neq; first | refine GX.b_neq ?_ | refine GX.b_pm ?_ | refine GX.b_nm ?_ | refine GX.b_neqs ?_ | refine GX.b_neqtf ?_ | refine GX.b_neqft ?_ | refine GX.b_neqb ?_)) | refine GX.gt ?_ | refine GX.gf ?_ | refine GX.gbt ?_ | refine GX.gbf ?_ | refine GX.un ?_ | refine GX.un0 ?_) | apply GX.then_normal | apply GX.seq | apply GX.region | (apply GX.s_cond; first | refine GX.ct ?_ | refine GX.cf ?_ | refine GX.cdf ?_ | refine GX.cdt ?_ | refine GX.cbt ?_ | refine GX.cbf ?_) | apply GX.skip | apply GX.block | apply GX.inBlock_normal | apply GX.exit | apply GX.then_exit | apply GX.inBlock_exit | refine GX.ibo ?_ | apply GX.ret | apply GX.then_ret | apply GX.inBlock_ret)
        subst hxy
        exact again (i + 1) ⟨rfl, rfl, rfl, trivial⟩ ⟨by omega, take_eq_succ ht hx hy⟩ (by omega)
      · repeat (first | (apply GX.s_list; first | apply GX.nil | (refine GX.o ?_; first | (apply GX.k_load; first | refine GX.lr ?_ | refine GX.lrA ?_ | refine GX.ln ?_ | refine GX.lb ?_ | refine GX.lh ?_ | (refine GX.ls ?_; intro ao cap _ _) | (refine GX.lA ?_; intro cs) | (refine GX.l0 ?_; intro cs) | refine GX.o1n ?_ | refine GX.o1b ?_ | refine GX.o1h ?_ | (refine GX.o1s ?_; intro ao cap _ _) | refine GX.omn ?_ | refine GX.omb ?_ | refine GX.omh ?_ | (refine GX.oms ?_; intro ao cap _ _) | refine GX.ofn ?_ | refine GX.ofb ?_ | refine GX.ofh ?_ | (refine GX.ofs ?_; intro ao cap _ _) | (refine GX.oA ?_; intro cs)) | (apply GX.k_move; refine GX.m ?_) | (apply GX.k_indexAddr; first | refine GX.io1 ?_ | refine GX.ioh ?_ | refine GX.i1 ?_ | refine GX.ih ?_ | (refine GX.ix ?_; intro bl o)) | (apply GX.k_binOp_lss; refine GX.b_lss ?_) | (apply GX.k_binOp_add; first | refine GX.b_inc ?_ | refine GX.b_add ?_ | refine GX.b_addw ?_) | (apply GX.k_assign; refine GX.a ?_) | (apply GX.k_call; refine GX.c_len ?_) | (apply GX.k_binOp_neq; first | refine GX.b_neq ?_ | refine GX.b_pm ?_ | refine GX.b_nm ?_ | refine GX.b_neqs ?_ | refine GX.b_neqtf ?_ | refine GX.b_neqft ?_ | refine GX.b_neqb ?_)) | refine GX.gt ?_ | refine GX.gf ?_ | refine GX.gbt ?_ | refine GX.gbf ?_ | refine GX.un ?_ | refine GX.un0 ?_) | apply GX.then_normal | apply GX.seq | apply GX.region | (apply GX.s_cond; first | refine GX.ct ?_ | refine GX.cf ?_ | refine GX.cdf ?_ | refine GX.cdt ?_ | refine GX.cbt ?_ | refine GX.cbf ?_) | apply GX.skip | apply GX.block | apply GX.inBlock_normal | apply GX.exit | apply GX.then_exit | apply GX.inBlock_exit | refine GX.ibo ?_ | apply GX.ret | apply GX.then_ret | apply GX.inBlock_ret)
        refine GX.drawn0  (fun j => !(List.contains [] j)) [(0, true), (1, true), (2, true), (3, true), (4, true), (5, true), (6, true), (7, true), (8, true)] rfl (by kernel_rfl) (by kernel_rfl) (by first | ((repeat (first | apply Go.GX.SelR.nil | apply Go.GX.SelR.cons | (with_reducible apply Go.GX.TakeR.head) | apply Go.GX.TakeR.tail)); done) | (repeat (first | apply Go.GX.SelR.nil | apply Go.GX.SelR.cons | apply Go.GX.TakeR.head | apply Go.GX.TakeR.tail))) ?_; intro wd F hW hR
        repeat (first | (apply GX.s_take; first | (refine GX.tkp ?_; first | (apply GX.t_move; refine GX.tm ?_) | (apply GX.t_indexAddr; first | refine GX.ti1 ?_ | refine GX.tih ?_) | (apply GX.t_binOp_neq; first | refine GX.tb_neq ?_ | refine GX.tb_pm ?_ | refine GX.tb_nm ?_ | refine GX.tb_neqs ?_ | refine GX.tb_neqtf ?_ | refine GX.tb_neqft ?_ | refine GX.tb_neqb ?_)) | ((first | refine GX.tkr ?_ | refine GX.tkrE ?_); first | (apply GX.r_load; first | refine GX.rlr ?_ | refine GX.rlrA ?_ | refine GX.rln ?_ | refine GX.rlb ?_ | refine GX.rlh ?_ | (refine GX.rls ?_; intro ao cap _ _ _) | (refine GX.rlA ?_; intro cs _) | (refine GX.rl0 ?_; intro cs _) | refine GX.ro1n ?_ | refine GX.ro1b ?_ | refine GX.ro1h ?_ | (refine GX.ro1s ?_; intro ao cap _ _ _) | refine GX.romn ?_ | refine GX.romb ?_ | refine GX.romh ?_ | (refine GX.roms ?_; intro ao cap _ _ _) | refine GX.rofn ?_ | refine GX.rofb ?_ | refine GX.rofh ?_ | (refine GX.rofs ?_; intro ao cap _ _ _) | (refine GX.roA ?_; intro cs _)) | (apply GX.r_indexAddr; first | refine GX.rio1 ?_ | refine GX.rioh ?_ | (refine GX.rix ?_; intro bl o _))) | (refine GX.tkx ?_; first | (refine GX.xix ?_; intro _ _ _)) | refine GX.pgt ?_ | refine GX.pgf ?_ | refine GX.pgbt ?_ | refine GX.pgbf ?_ | refine GX.tkn ?_ | refine GX.tknE ?_) | (apply GX.s_go; first | (refine GX.gow ?_; first | (apply GX.k_load; first | refine GX.lr ?_ | refine GX.lrA ?_ | refine GX.ln ?_ | refine GX.lb ?_ | refine GX.lh ?_ | (refine GX.ls ?_; intro ao cap _ _) | (refine GX.lA ?_; intro cs) | (refine GX.l0 ?_; intro cs) | refine GX.o1n ?_ | refine GX.o1b ?_ | refine GX.o1h ?_ | (refine GX.o1s ?_; intro ao cap _ _) | refine GX.omn ?_ | refine GX.omb ?_ | refine GX.omh ?_ | (refine GX.oms ?_; intro ao cap _ _) | refine GX.ofn ?_ | refine GX.ofb ?_ | refine GX.ofh ?_ | (refine GX.ofs ?_; intro ao cap _ _) | (refine GX.oA ?_; intro cs)) | (apply GX.k_move; refine GX.m ?_) | (apply GX.k_indexAddr; first | refine GX.io1 ?_ | refine GX.ioh ?_ | refine GX.i1 ?_ | refine GX.ih ?_ | (refine GX.ix ?_; intro bl o)) | (apply GX.k_binOp_neq; first | refine GX.b_neq ?_ | refine GX.b_pm ?_ | refine GX.b_nm ?_ | refine GX.b_neqs ?_ | refine GX.b_neqtf ?_ | refine GX.b_neqft ?_ | refine GX.b_neqb ?_)) | refine GX.pgt ?_ | refine GX.pgf ?_ | refine GX.pgbt ?_ | refine GX.pgbf ?_ | refine GX.gon ?_) | (apply GX.s_went; first | refine GX.wentF ?_ | refine GX.went ?_ | refine GX.wentE ?_) | apply GX.done)
        repeat (first | (apply GX.s_list; first | apply GX.nil | (refine GX.o ?_; first | (apply GX.k_load; first | refine GX.lr ?_ | refine GX.lrA ?_ | refine GX.ln ?_ | refine GX.lb ?_ | refine GX.lh ?_ | (refine GX.ls ?_; intro ao cap _ _) | (refine GX.lA ?_; intro cs) | (refine GX.l0 ?_; intro cs) | refine GX.o1n ?_ | refine GX.o1b ?_ | refine GX.o1h ?_ | (refine GX.o1s ?_; intro ao cap _ _) | refine GX.omn ?_ | refine GX.omb ?_ | refine GX.omh ?_ | (refine GX.oms ?_; intro ao cap _ _) | refine GX.ofn ?_ | refine GX.ofb ?_ | refine GX.ofh ?_ | (refine GX.ofs ?_; intro ao cap _ _) | (refine GX.oA ?_; intro cs)) | (apply GX.k_move; refine GX.m ?_) | (apply GX.k_indexAddr; first | refine GX.io1 ?_ | refine GX.ioh ?_ | refine GX.i1 ?_ | refine GX.ih ?_ | (refine GX.ix ?_; intro bl o)) | (apply GX.k_binOp_lss; refine GX.b_lss ?_) | (apply GX.k_binOp_add; first | refine GX.b_inc ?_ | refine GX.b_add ?_ | refine GX.b_addw ?_) | (apply GX.k_assign; refine GX.a ?_) | (apply GX.k_call; refine GX.c_len ?_) | (apply GX.k_binOp_neq; first | refine GX.b_neq ?_ | refine GX.b_pm ?_ | refine GX.b_nm ?_ | refine GX.b_neqs ?_ | refine GX.b_neqtf ?_ | refine GX.b_neqft ?_ | refine GX.b_neqb ?_)) | refine GX.gt ?_ | refine GX.gf ?_ | refine GX.gbt ?_ | refine GX.gbf ?_ | refine GX.un ?_ | refine GX.un0 ?_) | apply GX.then_normal | apply GX.seq | apply GX.region | (apply GX.s_cond; first | refine GX.ct ?_ | refine GX.cf ?_ | refine GX.cdf ?_ | refine GX.cdt ?_ | refine GX.cbt ?_ | refine GX.cbf ?_) | apply GX.skip | apply GX.block | apply GX.inBlock_normal | apply GX.exit | apply GX.then_exit | apply GX.inBlock_exit | refine GX.ibo ?_ | apply GX.ret | apply GX.then_ret | apply GX.inBlock_ret)
        have he : decide (xs = ys) = false := decide_eq_false fun e => hxy (by subst e; rw [hx] at hy; exact Option.some.inj hy)
        exact rt1 () (congrArg Value.bool he)
    · have hil : i = xs.length := by omega
      subst hil
      repeat (first | (apply GX.s_list; first | apply GX.nil | (refine GX.o ?_; first | (apply GX.k_load; first | refine GX.lr ?_ | refine GX.lrA ?_ | refine GX.ln ?_ | refine GX.lb ?_ | refine GX.lh ?_ | (refine GX.ls ?_; intro ao cap _ _) | (refine GX.lA ?_; intro cs) | (refine GX.l0 ?_; intro cs) | refine GX.o1n ?_ | refine GX.o1b ?_ | refine GX.o1h ?_ | (refine GX.o1s ?_; intro ao cap _ _) | refine GX.omn ?_ | refine GX.omb ?_ | refine GX.omh ?_ | (refine GX.oms ?_; intro ao cap _ _) | refine GX.ofn ?_ | refine GX.ofb ?_ | refine GX.ofh ?_ | (refine GX.ofs ?_; intro ao cap _ _) | (refine GX.oA ?_; intro cs)) | (apply GX.k_move; refine GX.m ?_) | (apply GX.k_indexAddr; first | refine GX.io1 ?_ | refine GX.ioh ?_ | refine GX.i1 ?_ | refine GX.ih ?_ | (refine GX.ix ?_; intro bl o)) | (apply GX.k_binOp_lss; refine GX.b_lss ?_) | (apply GX.k_binOp_add; first | refine GX.b_inc ?_ | refine GX.b_add ?_ | refine GX.b_addw ?_) | (apply GX.k_assign; refine GX.a ?_) | (apply GX.k_call; refine GX.c_len ?_) | (apply GX.k_binOp_neq; first | refine GX.b_neq ?_ | refine GX.b_pm ?_ | refine GX.b_nm ?_ | refine GX.b_neqs ?_ | refine GX.b_neqtf ?_ | refine GX.b_neqft ?_ | refine GX.b_neqb ?_)) | refine GX.gt ?_ | refine GX.gf ?_ | refine GX.gbt ?_ | refine GX.gbf ?_ | refine GX.un ?_ | refine GX.un0 ?_) | apply GX.then_normal | apply GX.seq | apply GX.region | (apply GX.s_cond; first | refine GX.ct ?_ | refine GX.cf ?_ | refine GX.cdf ?_ | refine GX.cdt ?_ | refine GX.cbt ?_ | refine GX.cbf ?_) | apply GX.skip | apply GX.block | apply GX.inBlock_normal | apply GX.exit | apply GX.then_exit | apply GX.inBlock_exit | refine GX.ibo ?_ | apply GX.ret | apply GX.then_ret | apply GX.inBlock_ret)
      have he : decide (xs = ys) = true := by
        rw [List.take_length, hl, List.take_length] at ht
        exact decide_eq_true ht
      exact rt1 () (congrArg Value.bool he)
  · repeat (first | (apply GX.s_list; first | apply GX.nil | (refine GX.o ?_; first | (apply GX.k_load; first | refine GX.lr ?_ | refine GX.lrA ?_ | refine GX.ln ?_ | refine GX.lb ?_ | refine GX.lh ?_ | (refine GX.ls ?_; intro ao cap _ _) | (refine GX.lA ?_; intro cs) | (refine GX.l0 ?_; intro cs) | refine GX.o1n ?_ | refine GX.o1b ?_ | refine GX.o1h ?_ | (refine GX.o1s ?_; intro ao cap _ _) | refine GX.omn ?_ | refine GX.omb ?_ | refine GX.omh ?_ | (refine GX.oms ?_; intro ao cap _ _) | refine GX.ofn ?_ | refine GX.ofb ?_ | refine GX.ofh ?_ | (refine GX.ofs ?_; intro ao cap _ _) | (refine GX.oA ?_; intro cs)) | (apply GX.k_move; refine GX.m ?_) | (apply GX.k_indexAddr; first | refine GX.io1 ?_ | refine GX.ioh ?_ | refine GX.i1 ?_ | refine GX.ih ?_ | (refine GX.ix ?_; intro bl o)) | (apply GX.k_binOp_lss; refine GX.b_lss ?_) | (apply GX.k_binOp_add; first | refine GX.b_inc ?_ | refine GX.b_add ?_ | refine GX.b_addw ?_) | (apply GX.k_assign; refine GX.a ?_) | (apply GX.k_call; refine GX.c_len ?_) | (apply GX.k_binOp_neq; first | refine GX.b_neq ?_ | refine GX.b_pm ?_ | refine GX.b_nm ?_ | refine GX.b_neqs ?_ | refine GX.b_neqtf ?_ | refine GX.b_neqft ?_ | refine GX.b_neqb ?_)) | refine GX.gt ?_ | refine GX.gf ?_ | refine GX.gbt ?_ | refine GX.gbf ?_ | refine GX.un ?_ | refine GX.un0 ?_) | apply GX.then_normal | apply GX.seq | apply GX.region | (apply GX.s_cond; first | refine GX.ct ?_ | refine GX.cf ?_ | refine GX.cdf ?_ | refine GX.cdt ?_ | refine GX.cbt ?_ | refine GX.cbf ?_) | apply GX.skip | apply GX.block | apply GX.inBlock_normal | apply GX.exit | apply GX.then_exit | apply GX.inBlock_exit | refine GX.ibo ?_ | apply GX.ret | apply GX.then_ret | apply GX.inBlock_ret)
    have he : decide (xs = ys) = false := decide_eq_false fun e => hl (by rw [e])
    exact rt1 () (congrArg Value.bool he)

end Go.Proofs.Ytkagjpkgboeaiaa

/- The walks over In, and over what compares lists of bools. -/
namespace Go.Proofs.Ytkagjpkgboeaiaa
open Go Go.RR Go.RX Go.GX
attribute [local irreducible] wpList Code.wp wpPlan Exit.then Exit.inBlock bodyPost NoPanic Went GX.Post GX.Again GX.Meet GX.RowR GX.Own GX.Owns GX.Box GX.Sl GX.Pt GX.Ag GX.MapR GX.Kept GX.Pin

theorem in_spec (ao : Option Addr) (cap : Nat) (l : List Int) (v : Int) : Does Try.prog 49 [.slice ao l.length cap, .int .i64 v] [Sl Ty.int ao cap l] []
    (fun _ : Unit => .bool (decide (v ∈ l))) (fun _ => []) (fun _ => []) := by
  refine enter Try.func49 rfl Try.ntmps49 rfl fun b => ?_
  refine sln ao fun h1 h2 _ => ?_
  repeat (first | (apply GX.s_list; first | apply GX.nil | (refine GX.o ?_; first | (apply GX.k_load; first | refine GX.lr ?_ | refine GX.lrA ?_ | refine GX.ln ?_ | refine GX.lb ?_ | refine GX.lh ?_ | (refine GX.ls ?_; intro ao cap _ _) | (refine GX.lA ?_; intro cs) | (refine GX.l0 ?_; intro cs) | refine GX.o1n ?_ | refine GX.o1b ?_ | refine GX.o1h ?_ | (refine GX.o1s ?_; intro ao cap _ _) | refine GX.omn ?_ | refine GX.omb ?_ | refine GX.omh ?_ | (refine GX.oms ?_; intro ao cap _ _) | refine GX.ofn ?_ | refine GX.ofb ?_ | refine GX.ofh ?_ | (refine GX.ofs ?_; intro ao cap _ _) | (refine GX.oA ?_; intro cs)) | (apply GX.k_move; refine GX.m ?_) | (apply GX.k_indexAddr; first | refine GX.io1 ?_ | refine GX.ioh ?_ | refine GX.i1 ?_ | refine GX.ih ?_ | (refine GX.ix ?_; intro bl o)) | (apply GX.k_binOp_lss; refine GX.b_lss ?_) | (apply GX.k_binOp_add; first | refine GX.b_inc ?_ | refine GX.b_add ?_ | refine GX.b_addw ?_) | (apply GX.k_assign; refine GX.a ?_) | (apply GX.k_call; refine GX.c_len ?_) | (apply GX.k_binOp_eql; first | refine GX.b_eql ?_ | refine GX.b_pn ?_ | refine GX.b_nn ?_ | refine GX.b_snn ?_ | refine GX.b_sns ?_ | refine GX.b_eqls ?_ | refine GX.b_eqltf ?_ | refine GX.b_eqlft ?_ | refine GX.b_eqlb ?_)) | refine GX.gt ?_ | refine GX.gf ?_ | refine GX.gbt ?_ | refine GX.gbf ?_ | refine GX.un ?_ | refine GX.un0 ?_) | apply GX.then_normal | apply GX.seq | apply GX.region | (apply GX.s_cond; first | refine GX.ct ?_ | refine GX.cf ?_ | refine GX.cdf ?_ | refine GX.cdt ?_ | refine GX.cbt ?_ | refine GX.cbf ?_) | apply GX.skip | apply GX.block | apply GX.inBlock_normal | apply GX.exit | apply GX.then_exit | apply GX.inBlock_exit | refine GX.ibo ?_ | apply GX.ret | apply GX.then_ret | apply GX.inBlock_ret)
  refine GX.loop (σ := Nat) (fun i => [(0, .slice ao l.length cap), (1, .int .i64 v), (5, .int .i64 (i : Int))]) (fun _ => []) (fun _ => [])
    (fun i => i ≤ l.length ∧ v ∉ l.take i) (fun i => l.length - i) 0 ⟨rfl, rfl, rfl, trivial⟩ ⟨by omega, by simp⟩ (fun i hi => ?_)
  obtain ⟨hi, hn⟩ := hi
  by_cases hlt : i < l.length
  · obtain ⟨x, hx⟩ := get_lt hlt
    by_cases hxv : x = v
    · repeat (first | (apply GX.s_list; first | apply GX.nil | (refine GX.o ?_; first | (apply GX.k_load; first | refine GX.lr ?_ | refine GX.lrA ?_ | refine GX.ln ?_ | refine GX.lb ?_ | refine GX.lh ?_ | (refine GX.ls ?_; intro ao cap _ _) | (refine GX.lA ?_; intro cs) | (refine GX.l0 ?_; intro cs) | refine GX.o1n ?_ | refine GX.o1b ?_ | refine GX.o1h ?_ | (refine GX.o1s ?_; intro ao cap _ _) | refine GX.omn ?_ | refine GX.omb ?_ | refine GX.omh ?_ | (refine GX.oms ?_; intro ao cap _ _) | refine GX.ofn ?_ | refine GX.ofb ?_ | refine GX.ofh ?_ | (refine GX.ofs ?_; intro ao cap _ _) | (refine GX.oA ?_; intro cs)) | (apply GX.k_move; refine GX.m ?_) | (apply GX.k_indexAddr; first | refine GX.io1 ?_ | refine GX.ioh ?_ | refine GX.i1 ?_ | refine GX.ih ?_ | (refine GX.ix ?_; intro bl o)) | (apply GX.k_binOp_lss; refine GX.b_lss ?_) | (apply GX.k_binOp_add; first | refine GX.b_inc ?_ | refine GX.b_add ?_ | refine GX.b_addw ?_) | (apply GX.k_assign; refine GX.a ?_) | (apply GX.k_call; refine GX.c_len ?_) | (apply GX.k_binOp_eql; first | refine GX.b_eql ?_ | refine GX.b_pn ?_ | refine GX.b_nn ?_ | refine GX.b_snn ?_ | refine GX.b_sns ?_ | refine GX.b_eqls ?_ | refine GX.b_eqltf ?_ | refine GX.b_eqlft ?_ | refine GX.b_eqlb ?_)) | refine GX.gt ?_ | refine GX.gf ?_ | refine GX.gbt ?_ | refine GX.gbf ?_ | refine GX.un ?_ | refine GX.un0 ?_) | apply GX.then_normal | apply GX.seq | apply GX.region | (apply GX.s_cond; first | refine GX.ct ?_ | refine GX.cf ?_ | refine GX.cdf ?_ | refine GX.cdt ?_ | refine GX.cbt ?_ | refine GX.cbf ?_) | apply GX.skip | apply GX.block | apply GX.inBlock_normal | apply GX.exit | apply GX.then_exit | apply GX.inBlock_exit | refine GX.ibo ?_ | apply GX.ret | apply GX.then_ret | apply GX.inBlock_ret)
      exact rt1 () (congrArg Value.bool (decide_eq_true (hxv ▸ List.mem_of_getElem? hx)))
    · repeat (first | (apply GX.s_list; first | apply GX.nil | (refine GX.o ?_; first | (apply GX.k_load; first | refine GX.lr ?_ | refine GX.lrA ?_ | refine GX.ln ?_ | refine GX.lb ?_ | refine GX.lh ?_ | (refine GX.ls ?_; intro ao cap _ _) | (refine GX.lA ?_; intro cs) | (refine GX.l0 ?_; intro cs) | refine GX.o1n ?_ | refine GX.o1b ?_ | refine GX.o1h ?_ | (refine GX.o1s ?_; intro ao cap _ _) | refine GX.omn ?_ | refine GX.omb ?_ | refine GX.omh ?_ | (refine GX.oms ?_; intro ao cap _ _) | refine GX.ofn ?_ | refine GX.ofb ?_ | refine GX.ofh ?_ | (refine GX.ofs ?_; intro ao cap _ _) | (refine GX.oA ?_; intro cs)) | (apply GX.k_move; refine GX.m ?_) | (apply GX.k_indexAddr; first | refine GX.io1 ?_ | refine GX.ioh ?_ | refine GX.i1 ?_ | refine GX.ih ?_ | (refine GX.ix ?_; intro bl o)) | (apply GX.k_binOp_lss; refine GX.b_lss ?_) | (apply GX.k_binOp_add; first | refine GX.b_inc ?_ | refine GX.b_add ?_ | refine GX.b_addw ?_) | (apply GX.k_assign; refine GX.a ?_) | (apply GX.k_call; refine GX.c_len ?_) | (apply GX.k_binOp_eql; first | refine GX.b_eql ?_ | refine GX.b_pn ?_ | refine GX.b_nn ?_ | refine GX.b_snn ?_ | refine GX.b_sns ?_ | refine GX.b_eqls ?_ | refine GX.b_eqltf ?_ | refine GX.b_eqlft ?_ | refine GX.b_eqlb ?_)) | refine GX.gt ?_ | refine GX.gf ?_ | refine GX.gbt ?_ | refine GX.gbf ?_ | refine GX.un ?_ | refine GX.un0 ?_) | apply GX.then_normal | apply GX.seq | apply GX.region | (apply GX.s_cond; first | refine GX.ct ?_ | refine GX.cf ?_ | refine GX.cdf ?_ | refine GX.cdt ?_ | refine GX.cbt ?_ | refine GX.cbf ?_) | apply GX.skip | apply GX.block | apply GX.inBlock_normal | apply GX.exit | apply GX.then_exit | apply GX.inBlock_exit | refine GX.ibo ?_ | apply GX.ret | apply GX.then_ret | apply GX.inBlock_ret)
      refine again (i + 1) ⟨rfl, rfl, rfl, trivial⟩ ⟨by omega, fun h => ?_⟩ (by omega)
      rw [List.take_add_one, hx, List.mem_append] at h
      rcases h with h | h
      · exact hn h
      · simp at h; exact hxv h.symm
  · have hil : i = l.length := by omega
    subst hil
    rw [List.take_length] at hn
    repeat (first | (apply GX.s_list; first | apply GX.nil | (refine GX.o ?_; first | (apply GX.k_load; first | refine GX.lr ?_ | refine GX.lrA ?_ | refine GX.ln ?_ | refine GX.lb ?_ | refine GX.lh ?_ | (refine GX.ls ?_; intro ao cap _ _) | (refine GX.lA ?_; intro cs) | (refine GX.l0 ?_; intro cs) | refine GX.o1n ?_ | refine GX.o1b ?_ | refine GX.o1h ?_ | (refine GX.o1s ?_; intro ao cap _ _) | refine GX.omn ?_ | refine GX.omb ?_ | refine GX.omh ?_ | (refine GX.oms ?_; intro ao cap _ _) | refine GX.ofn ?_ | refine GX.ofb ?_ | refine GX.ofh ?_ | (refine GX.ofs ?_; intro ao cap _ _) | (refine GX.oA ?_; intro cs)) | (apply GX.k_move; refine GX.m ?_) | (apply GX.k_indexAddr; first | refine GX.io1 ?_ | refine GX.ioh ?_ | refine GX.i1 ?_ | refine GX.ih ?_ | (refine GX.ix ?_; intro bl o)) | (apply GX.k_binOp_lss; refine GX.b_lss ?_) | (apply GX.k_binOp_add; first | refine GX.b_inc ?_ | refine GX.b_add ?_ | refine GX.b_addw ?_) | (apply GX.k_assign; refine GX.a ?_) | (apply GX.k_call; refine GX.c_len ?_) | (apply GX.k_binOp_eql; first | refine GX.b_eql ?_ | refine GX.b_pn ?_ | refine GX.b_nn ?_ | refine GX.b_snn ?_ | refine GX.b_sns ?_ | refine GX.b_eqls ?_ | refine GX.b_eqltf ?_ | refine GX.b_eqlft ?_ | refine GX.b_eqlb ?_)) | refine GX.gt ?_ | refine GX.gf ?_ | refine GX.gbt ?_ | refine GX.gbf ?_ | refine GX.un ?_ | refine GX.un0 ?_) | apply GX.then_normal | apply GX.seq | apply GX.region | (apply GX.s_cond; first | refine GX.ct ?_ | refine GX.cf ?_ | refine GX.cdf ?_ | refine GX.cdt ?_ | refine GX.cbt ?_ | refine GX.cbf ?_) | apply GX.skip | apply GX.block | apply GX.inBlock_normal | apply GX.exit | apply GX.then_exit | apply GX.inBlock_exit | refine GX.ibo ?_ | apply GX.ret | apply GX.then_ret | apply GX.inBlock_ret)
    exact rt1 () (congrArg Value.bool (decide_eq_false hn))
end Go.Proofs.Ytkagjpkgboeaiaa

/- The walk over the reference's Fits. -/
namespace Go.Proofs.Ytkagjpkgboeaiaa
open Go Go.RR Go.RX Go.GX Go.Api Go.RiseM Go.SolM
attribute [local irreducible] wpList Code.wp wpPlan Exit.then Exit.inBlock bodyPost NoPanic Went GX.Post GX.Again GX.Meet GX.RowR GX.Own GX.Owns GX.Box GX.Sl GX.Pt GX.Ag GX.MapR GX.Kept GX.Pin wpT GoK AtEnd Both
theorem rbelow_spec (n m : Int) : Does Try.prog 40 [.int .i64 n, .int .i64 m] [] [] (fun _ : Unit => .bool (decide (0 ≤ n ∧ n < m))) (fun _ => []) (fun _ => []) := by
  refine enter Try.func40 rfl Try.ntmps40 rfl fun b => ?_
  by_cases h : 0 ≤ n
  · refine GX.wbR ?_; intros
    exact rt1 () (vI (Q := n < m) (by omega))
  · refine GX.wbR ?_; intros
    exact rt1 () (vN (by omega))
theorem rall_spec (a1 a2 : Option Addr) (c1 c2 : Nat) (l m : List Int) : Does Try.prog 32 [.slice a1 l.length c1, .slice a2 m.length c2] [Sl Ty.int a1 c1 l, Sl Ty.int a2 c2 m] []
    (fun _ : Unit => .bool (decide (SubL l m))) (fun _ => []) (fun _ => []) := by
  refine enter Try.func32 rfl Try.ntmps32 rfl fun b => ?_
  refine sln a1 fun h1 _ _ => ?_
  refine GX.wbR ?_; intros
  refine GX.loop (σ := Nat) (fun i => [(0, .slice a1 l.length c1), (1, .slice a2 m.length c2), (5, .int .i64 (i : Int))]) (fun _ => []) (fun _ => [])
    (fun i => i ≤ l.length ∧ ∀ x ∈ l.take i, x ∈ m) (fun i => l.length - i) 0 ⟨rfl, rfl, rfl, trivial⟩ ⟨by omega, by simp⟩ (fun i hi => ?_)
  obtain ⟨hi, hn⟩ := hi
  by_cases hlt : i < l.length
  · obtain ⟨x, hx⟩ := get_lt hlt
    refine GX.wbR ?_; intros
    refine GX.o (cl (in_spec _ _ m x) fun _ => ?_)
    by_cases hm : ¬ x ∈ m
    · refine GX.wbR ?_; intros
      exact rt1 () (vN fun h => hm (h x (List.mem_of_getElem? hx)))
    have hm := Classical.not_not.1 hm
    refine GX.wbR ?_; intros
    exact again (i + 1) ⟨rfl, rfl, rfl, trivial⟩ ⟨by omega, take_all_s hn hx hm⟩ (by omega)
  · rw [List.take_of_length_le (by omega)] at hn
    refine GX.wbR ?_; intros
    exact rt1 () (vY hn)
structure RfR (p : Points) (x f : Int) where
  ao : Option Addr
  cap : Nat
  ys : List Int
  ok : Bool
  h : ok = true ∧ FieldAt p x f ∧ ys = fieldOf p x f ∨ ok = false ∧ ¬ FieldAt p x f
theorem rfield_spec (cs : List Value) (p : Points) (x f : Int) : Does Try.prog 50 [.agg cs.toArray, .int .i64 x, .int .i64 f] [Ag tyPoints cs p] []
    (fun s : RfR p x f => .tuple #[.slice s.ao s.ys.length s.cap, .bool s.ok]) (fun s => [Sl Ty.int s.ao s.cap s.ys]) (fun _ => []) := by
  refine enter Try.func50 rfl Try.ntmps50 rfl fun b => ?_
  refine GX.wbR ?_; intros
  refine GX.o (cl (rbelow_spec x p.fields.length) fun _ => ?_)
  by_cases hb1 : ¬ (0 ≤ x ∧ x < (p.fields.length : Int))
  · refine GX.wbR ?_; intros
    refine slNil Ty.int ?_
    exact rt2 ⟨none, 0, [], false, .inr ⟨rfl, fun h => hb1 h.1⟩⟩ rfl
  have hb1 := Classical.not_not.1 hb1
  obtain ⟨k, rfl⟩ := Int.eq_ofNat_of_zero_le hb1.1
  obtain ⟨r, hr⟩ := get_lt (show k < p.fields.length by omega)
  have hrow := row_some hr
  refine GX.wbR ?_; intros
  refine GX.o (cl (rbelow_spec f r.length) fun _ => ?_)
  by_cases hb2 : ¬ (0 ≤ f ∧ f < (r.length : Int))
  · refine GX.wbR ?_; intros
    refine slNil Ty.int ?_
    exact rt2 ⟨none, 0, [], false, .inr ⟨rfl, fun h => hb2 (by have := h.2; rwa [hrow] at this)⟩⟩ rfl
  have hb2 := Classical.not_not.1 hb2
  obtain ⟨m, rfl⟩ := Int.eq_ofNat_of_zero_le hb2.1
  obtain ⟨ys, hys⟩ := get_lt (show m < r.length by omega)
  have hfo := fieldOf_some hr hys
  refine GX.wbR ?_; intros
  refine GX.nmS 32 ?_; rintro a32 c32 rfl rfl
  exact rt2 ⟨a32, c32, ys, true, .inl ⟨rfl, ⟨hb1, by rw [hrow]; exact hb2⟩, hfo.symm⟩⟩ rfl
end Go.Proofs.Ytkagjpkgboeaiaa

/- The walk over the reference's fits. -/
namespace Go.Proofs.Ytkagjpkgboeaiaa
open Go Go.RR Go.RX Go.GX Go.Api Go.RiseM Go.SolM
attribute [local irreducible] wpList Code.wp wpPlan Exit.then Exit.inBlock bodyPost NoPanic Went GX.Post GX.Again GX.Meet GX.RowR GX.Own GX.Owns GX.Box GX.Sl GX.Pt GX.Ag GX.MapR GX.Kept GX.Pin wpT GoK AtEnd Both
set_option maxHeartbeats 4000000 in
theorem rfits_spec (cs1 cs2 : List Value) (p : Points) (c : Con) : Does Try.prog 31 [.agg cs1.toArray, .agg cs2.toArray] [Ag tyPoints cs1 p, Ag tyCon cs2 c] [] (fun _ : Unit => .bool (decide (FitP p c))) (fun _ => []) (fun _ => []) := by
  refine enter Try.func31 rfl Try.ntmps31 rfl fun b => ?_
  obtain ⟨kd, ca, cb, cf⟩ := c
  refine GX.wbR ?_; intros
  refine GX.nmP 2 ?_; rintro b2 rfl
  refine GX.nmP 3 ?_; rintro b3 rfl
  by_cases e5 : kd = 5
  · refine GX.wbR ?_; intros
    refine GX.drawn0  (fun j => !(List.contains [5, 13] j)) [(0, true), (1, true), (2, true), (3, true), (4, true), (5, false), (6, true), (7, true), (8, true), (9, true), (10, true), (11, true), (12, true), (13, false), (14, true), (15, true), (16, true), (17, true), (18, true), (19, true), (20, true), (21, true), (22, true), (23, true), (24, true), (25, true), (26, true), (27, true), (28, true), (29, true), (30, true), (31, true), (32, true)] rfl (by kernel_rfl) (by kernel_rfl) (by first | ((repeat (first | apply Go.GX.SelR.nil | apply Go.GX.SelR.cons | (with_reducible apply Go.GX.TakeR.head) | apply Go.GX.TakeR.tail)); done) | (repeat (first | apply Go.GX.SelR.nil | apply Go.GX.SelR.cons | apply Go.GX.TakeR.head | apply Go.GX.TakeR.tail))) ?_; intro wd F hW hR
    refine GX.wbT ?_; intros
    refine GX.gow ?_
    refine (cl (rbelow_spec ca p.fields.length) fun _ => ?_)
    by_cases ha : ¬ (0 ≤ ca ∧ ca < (p.fields.length : Int))
    · refine GX.wbT ?_; intros
      refine GX.wbR ?_; intros
      exact rt1 () (vN fun h => ha (by subst e5; exact (fp5.1 h).1))
    have ha := Classical.not_not.1 ha
    refine GX.wbT ?_; intros
    refine GX.gow ?_
    refine (cl (rbelow_spec cb p.fields.length) fun _ => ?_)
    by_cases hb : ¬ (0 ≤ cb ∧ cb < (p.fields.length : Int))
    · refine GX.wbT ?_; intros
      refine GX.wbR ?_; intros
      exact rt1 () (vN fun h => hb (by subst e5; exact (fp5.1 h).2.1))
    have hb := Classical.not_not.1 hb
    obtain ⟨k, rfl⟩ := Int.eq_ofNat_of_zero_le ha.1
    obtain ⟨m, rfl⟩ := Int.eq_ofNat_of_zero_le hb.1
    obtain ⟨r, hr⟩ := get_lt (show k < p.fields.length by omega)
    obtain ⟨r2, hr2⟩ := get_lt (show m < p.fields.length by omega)
    have g1 := row_some hr
    have g2 := row_some hr2
    have hfin : FitP p ⟨kd, k, m, cf⟩ ↔ SolM.Alike r r2 := by
      subst e5; rw [fp5, g1, g2]; exact ⟨fun h => h.2.2, fun h => ⟨ha, hb, h⟩⟩
    by_cases hl : ¬ r.length = r2.length
    · refine GX.wbT ?_; intros
      refine GX.wbR ?_; intros
      exact rt1 () (vN fun h => hl (hfin.1 h).1)
    have hl := Classical.not_not.1 hl
    refine GX.wbT ?_; intros
    refine GX.wbR ?_; intros
    refine GX.loop (σ := Nat) (fun i => [(2, .pointer (some ⟨b2, 0, none⟩)), (3, .pointer (some ⟨b3, 0, none⟩)), (5, .int .i64 (i : Int))]) (fun _ => []) (fun _ => [])
      (fun i => i ≤ r.length ∧ ∀ j, j < i → SubL (r.getD j []) (r2.getD j []) ∧ SubL (r2.getD j []) (r.getD j [])) (fun i => r.length - i) 0 ⟨rfl, rfl, rfl, trivial⟩ ⟨by omega, fun j hj => by omega⟩ (fun i hi => ?_)
    obtain ⟨hi, hn⟩ := hi
    by_cases hlt : i < r.length
    · obtain ⟨u, hu⟩ := get_lt hlt
      obtain ⟨v, hv⟩ := get_lt (show i < r2.length by omega)
      have gu : r.getD i [] = u := getD_some hu
      have gv : r2.getD i [] = v := getD_some hv
      refine GX.wbR ?_; intros
      refine GX.drawn0  (fun j => !(List.contains [18, 39] j)) [(0, true), (1, true), (2, true), (3, true), (4, true), (5, true), (6, true), (7, true), (8, true), (9, true), (10, true), (11, true), (12, true), (13, true), (14, true), (15, true), (16, true), (17, true), (18, false), (19, true), (20, true), (21, true), (22, true), (23, true), (24, true), (25, true), (26, true), (27, true), (28, true), (29, true), (30, true), (31, true), (32, true), (33, true), (34, true), (35, true), (36, true), (37, true), (38, true), (39, false), (40, true), (41, true)] rfl (by kernel_rfl) (by kernel_rfl) (by first | ((repeat (first | apply Go.GX.SelR.nil | apply Go.GX.SelR.cons | (with_reducible apply Go.GX.TakeR.head) | apply Go.GX.TakeR.tail)); done) | (repeat (first | apply Go.GX.SelR.nil | apply Go.GX.SelR.cons | apply Go.GX.TakeR.head | apply Go.GX.TakeR.tail))) ?_; intro wd F hW hR
      refine GX.wbT ?_; intros
      refine GX.gow ?_
      refine (cl (rall_spec _ _ _ _ u v) fun _ => ?_)
      by_cases hs1 : ¬ SubL u v
      · refine GX.wbT ?_; intros
        refine GX.wbR ?_; intros
        exact rt1 () (vN fun h => hs1 (by have := ((hfin.1 h).2 i hlt).1; rwa [gu, gv] at this))
      have hs1 := Classical.not_not.1 hs1
      refine GX.wbT ?_; intros
      refine GX.gow ?_
      refine (cl (rall_spec _ _ _ _ v u) fun _ => ?_)
      by_cases hs2 : ¬ SubL v u
      · refine GX.wbT ?_; intros
        refine GX.wbR ?_; intros
        exact rt1 () (vN fun h => hs2 (by have := ((hfin.1 h).2 i hlt).2; rwa [gu, gv] at this))
      have hs2 := Classical.not_not.1 hs2
      refine GX.wbT ?_; intros
      refine GX.wbR ?_; intros
      refine again (i + 1) ⟨rfl, rfl, rfl, trivial⟩ ⟨by omega, fun j hj => ?_⟩ (by omega)
      by_cases e : j = i
      · subst e; rw [gu, gv]; exact ⟨hs1, hs2⟩
      · exact hn j (by omega)
    · obtain rfl : i = r.length := by omega
      refine GX.wbR ?_; intros
      exact rt1 () (vY (hfin.2 ⟨hl, hn⟩))
  refine GX.wbR ?_; intros
  refine GX.o (cl (rbelow_spec ca p.nodes.length) fun _ => ?_)
  by_cases ha : ¬ (0 ≤ ca ∧ ca < (p.nodes.length : Int))
  · refine GX.wbR ?_; intros
    exact rt1 () (vN fun h => ha (fpA e5 h))
  have ha := Classical.not_not.1 ha
  obtain ⟨k, rfl⟩ := Int.eq_ofNat_of_zero_le ha.1
  obtain ⟨na, hna⟩ := get_lt (show k < p.nodes.length by omega)
  have ga := nd_some hna
  refine GX.wbR ?_; intros
  refine GX.nmS 6 ?_; rintro a6 c6 rfl rfl
  by_cases e1 : kd = 1
  · refine GX.wbR ?_; intros
    refine GX.o (cl (in_spec _ _ na cb) fun _ => ?_)
    refine GX.wbR ?_; intros
    exact rt1 () (vI (Q := cb ∈ na) (by subst e1; rw [fp1, ga]; exact ⟨fun h => h.2, fun h => ⟨ha, h⟩⟩))
  by_cases e2 : kd = 2
  · have e2n : ¬ (kd ≠ 2) := by omega
    refine GX.wbR ?_; intros
    refine GX.o (cl (rbelow_spec cb p.nodes.length) fun _ => ?_)
    by_cases hb : ¬ (0 ≤ cb ∧ cb < (p.nodes.length : Int))
    · refine GX.wbR ?_; intros
      exact rt1 () (vN fun h => hb (fpB e5 e1 h))
    have hb := Classical.not_not.1 hb
    obtain ⟨m, rfl⟩ := Int.eq_ofNat_of_zero_le hb.1
    obtain ⟨nb, hnb⟩ := get_lt (show m < p.nodes.length by omega)
    have gb := nd_some hnb
    refine GX.wbR ?_; intros
    refine GX.nmS 7 ?_; rintro a7 c7 rfl rfl
    refine GX.o (cl (rall_spec _ _ _ _ nb na) fun _ => ?_)
    refine GX.wbR ?_; intros
    exact rt1 () (vI (Q := SubL nb na) (by subst e2; rw [fp2, ga, gb]; exact ⟨fun h => h.2.2, fun h => ⟨ha, hb, h⟩⟩))
  by_cases e3 : kd = 3
  · have e3n : ¬ (kd ≠ 3) := by omega
    have e4 : ¬ (kd = 4) := by omega
    refine GX.wbR ?_; intros
    refine GX.o (cl (rbelow_spec cb p.nodes.length) fun _ => ?_)
    by_cases hb : ¬ (0 ≤ cb ∧ cb < (p.nodes.length : Int))
    · refine GX.wbR ?_; intros
      exact rt1 () (vN fun h => hb (fpB e5 e1 h))
    have hb := Classical.not_not.1 hb
    obtain ⟨m, rfl⟩ := Int.eq_ofNat_of_zero_le hb.1
    obtain ⟨nb, hnb⟩ := get_lt (show m < p.nodes.length by omega)
    have gb := nd_some hnb
    refine GX.wbR ?_; intros
    refine GX.nmS 7 ?_; rintro a7 c7 rfl rfl
    refine GX.loop (σ := Nat × Bool) (fun s => [(2, .pointer (some ⟨b2, 0, none⟩)), (3, .pointer (some ⟨b3, 0, none⟩)), (6, .slice a6 na.length c6), (7, .slice a7 nb.length c7), (8, .slice a7 nb.length c7), (9, .bool s.2), (10, .int .i64 (s.1 : Int))]) (fun _ => []) (fun _ => [])
      (fun s => s.1 ≤ nb.length ∧ (s.2 = true ↔ ∀ x ∈ nb.take s.1, SubL (fieldOf p x cf) na) ∧ ∀ x ∈ nb.take s.1, FieldAt p x cf) (fun s => nb.length - s.1) (0, true) ⟨rfl, rfl, rfl, rfl, rfl, rfl, rfl, trivial⟩ ⟨by simp, by simp, by simp⟩ (fun s hs => ?_)
    obtain ⟨i, ok⟩ := s
    obtain ⟨hi, hn, hf⟩ := hs
    dsimp only at *
    by_cases hlt : i < nb.length
    · obtain ⟨x, hx⟩ := get_lt hlt
      have hxm := List.mem_of_getElem? hx
      refine GX.wbR ?_; intros
      refine GX.drawn0  (fun j => !(List.contains [7] j)) [(0, true), (1, true), (2, true), (3, true), (4, true), (5, true), (6, true), (7, false), (8, true), (9, true), (10, true), (11, true), (12, true)] rfl (by kernel_rfl) (by kernel_rfl) (by first | ((repeat (first | apply Go.GX.SelR.nil | apply Go.GX.SelR.cons | (with_reducible apply Go.GX.TakeR.head) | apply Go.GX.TakeR.tail)); done) | (repeat (first | apply Go.GX.SelR.nil | apply Go.GX.SelR.cons | apply Go.GX.TakeR.head | apply Go.GX.TakeR.tail))) ?_; intro wd F hW hR
      refine GX.wbT ?_; intros
      refine GX.gow ?_
      refine (cl (rfield_spec _ p x cf) fun s => ?_)
      obtain ⟨ay, cy, ys, ok2, hok⟩ := s
      dsimp only
      rcases hok with ⟨rfl, hat, hys⟩ | ⟨rfl, hnat⟩
      · refine GX.wbT ?_; intros
        cases ok with
        | false =>
          refine GX.wbR ?_; intros
          refine again (i + 1, false) ⟨rfl, rfl, rfl, rfl, rfl, rfl, rfl, trivial⟩ ⟨by dsimp only; omega, ?_, take_all_s hf hx hat⟩ (by dsimp only; omega)
          refine ⟨fun h => by simp at h, fun h => hn.2 fun y hy => h y ?_⟩
          rw [List.take_add_one]; exact List.mem_append_left _ hy
        | true =>
          refine GX.wbR ?_; intros
          refine GX.o (cl (rall_spec _ _ _ _ ys na) fun _ => ?_)
          refine GX.wbR ?_; intros
          refine again (i + 1, decide (SubL ys na)) ⟨rfl, rfl, rfl, rfl, rfl, rfl, rfl, trivial⟩ ⟨by dsimp only; omega, ?_, take_all_s hf hx hat⟩ (by dsimp only; omega)
          rw [decide_eq_true_iff]
          constructor
          · intro h; exact take_all_s (P := fun x => SubL (fieldOf p x cf) na) (hn.1 rfl) hx (by rw [← hys]; exact h)
          · intro h
            have := h x (by rw [List.take_add_one, hx, List.mem_append]; right; simp)
            rwa [← hys] at this
      · refine GX.wbT ?_; intros
        refine GX.wbR ?_; intros
        exact rt1 () (vN fun h => hnat (by subst e3; rw [fp3] at h; exact (h.2.2 x (by rw [gb]; exact hxm)).1))
    · rw [List.take_of_length_le (by omega)] at hn hf
      refine GX.wbR ?_; intros
      refine rt1 () (congrArg Value.bool (?_ : decide _ = ok))
      rw [Bool.eq_iff_iff, decide_eq_true_iff, hn]
      subst e3
      rw [fp3, ga, gb]
      exact ⟨fun h x hx => (h.2.2 x hx).2, fun h => ⟨ha, hb, fun x hx => ⟨hf x hx, h x hx⟩⟩⟩
  by_cases e4 : kd = 4
  · have e4n : ¬ (kd ≠ 4) := by omega
    refine GX.wbR ?_; intros
    refine GX.o (cl (rbelow_spec cb p.nodes.length) fun _ => ?_)
    by_cases hb : ¬ (0 ≤ cb ∧ cb < (p.nodes.length : Int))
    · refine GX.wbR ?_; intros
      exact rt1 () (vN fun h => hb (fpB e5 e1 h))
    have hb := Classical.not_not.1 hb
    obtain ⟨m, rfl⟩ := Int.eq_ofNat_of_zero_le hb.1
    obtain ⟨nb, hnb⟩ := get_lt (show m < p.nodes.length by omega)
    have gb := nd_some hnb
    refine GX.wbR ?_; intros
    refine GX.nmS 7 ?_; rintro a7 c7 rfl rfl
    refine GX.loop (σ := Nat × Bool) (fun s => [(2, .pointer (some ⟨b2, 0, none⟩)), (3, .pointer (some ⟨b3, 0, none⟩)), (6, .slice a6 na.length c6), (7, .slice a7 nb.length c7), (8, .slice a6 na.length c6), (9, .bool s.2), (10, .int .i64 (s.1 : Int))]) (fun _ => []) (fun _ => [])
      (fun s => s.1 ≤ na.length ∧ (s.2 = true ↔ ∀ x ∈ na.take s.1, SubL nb (fieldOf p x cf)) ∧ ∀ x ∈ na.take s.1, FieldAt p x cf) (fun s => na.length - s.1) (0, true) ⟨rfl, rfl, rfl, rfl, rfl, rfl, rfl, trivial⟩ ⟨by simp, by simp, by simp⟩ (fun s hs => ?_)
    obtain ⟨i, ok⟩ := s
    obtain ⟨hi, hn, hf⟩ := hs
    dsimp only at *
    by_cases hlt : i < na.length
    · obtain ⟨x, hx⟩ := get_lt hlt
      have hxm := List.mem_of_getElem? hx
      refine GX.wbR ?_; intros
      refine GX.drawn0  (fun j => !(List.contains [7] j)) [(0, true), (1, true), (2, true), (3, true), (4, true), (5, true), (6, true), (7, false), (8, true), (9, true), (10, true), (11, true), (12, true)] rfl (by kernel_rfl) (by kernel_rfl) (by first | ((repeat (first | apply Go.GX.SelR.nil | apply Go.GX.SelR.cons | (with_reducible apply Go.GX.TakeR.head) | apply Go.GX.TakeR.tail)); done) | (repeat (first | apply Go.GX.SelR.nil | apply Go.GX.SelR.cons | apply Go.GX.TakeR.head | apply Go.GX.TakeR.tail))) ?_; intro wd F hW hR
      refine GX.wbT ?_; intros
      refine GX.gow ?_
      refine (cl (rfield_spec _ p x cf) fun s => ?_)
      obtain ⟨ay, cy, ys, ok2, hok⟩ := s
      dsimp only
      rcases hok with ⟨rfl, hat, hys⟩ | ⟨rfl, hnat⟩
      · refine GX.wbT ?_; intros
        cases ok with
        | false =>
          refine GX.wbR ?_; intros
          refine again (i + 1, false) ⟨rfl, rfl, rfl, rfl, rfl, rfl, rfl, trivial⟩ ⟨by dsimp only; omega, ?_, take_all_s hf hx hat⟩ (by dsimp only; omega)
          refine ⟨fun h => by simp at h, fun h => hn.2 fun y hy => h y ?_⟩
          rw [List.take_add_one]; exact List.mem_append_left _ hy
        | true =>
          refine GX.wbR ?_; intros
          refine GX.o (cl (rall_spec _ _ _ _ nb ys) fun _ => ?_)
          refine GX.wbR ?_; intros
          refine again (i + 1, decide (SubL nb ys)) ⟨rfl, rfl, rfl, rfl, rfl, rfl, rfl, trivial⟩ ⟨by dsimp only; omega, ?_, take_all_s hf hx hat⟩ (by dsimp only; omega)
          rw [decide_eq_true_iff]
          constructor
          · intro h; exact take_all_s (P := fun x => SubL nb (fieldOf p x cf)) (hn.1 rfl) hx (by rw [← hys]; exact h)
          · intro h
            have := h x (by rw [List.take_add_one, hx, List.mem_append]; right; simp)
            rwa [← hys] at this
      · refine GX.wbT ?_; intros
        refine GX.wbR ?_; intros
        exact rt1 () (vN fun h => hnat (by subst e4; rw [fp4] at h; exact (h.2.2 x (by rw [ga]; exact hxm)).1))
    · rw [List.take_of_length_le (by omega)] at hn hf
      refine GX.wbR ?_; intros
      refine rt1 () (congrArg Value.bool (?_ : decide _ = ok))
      rw [Bool.eq_iff_iff, decide_eq_true_iff, hn]
      subst e4
      rw [fp4, ga, gb]
      exact ⟨fun h x hx => (h.2.2 x hx).2, fun h => ⟨ha, hb, fun x hx => ⟨hf x hx, h x hx⟩⟩⟩
  refine GX.wbR ?_; intros
  exact rt1 () (vN (fpO e5 e1 e2 e3 e4))
theorem rFits_spec (cs : List Value) (p : Points) (ao : Option Addr) (cap : Nat) (l : List Con) : Does Try.prog 14 [.agg cs.toArray, .slice ao l.length cap] [Ag tyPoints cs p, Sl tyCon ao cap l] [] (fun _ : Unit => .bool (decide (FitsP p l))) (fun _ => []) (fun _ => []) := by
  refine enter Try.func14 rfl Try.ntmps14 rfl fun b => ?_
  refine sln ao fun h1 _ _ => ?_
  refine GX.wbR ?_; intros
  refine GX.nmP 2 ?_; rintro b2 rfl
  refine GX.loop (σ := Nat) (fun i => [(1, .slice ao l.length cap), (2, .pointer (some ⟨b2, 0, none⟩)), (5, .int .i64 (i : Int))]) (fun _ => []) (fun _ => [])
    (fun i => i ≤ l.length ∧ ∀ c ∈ l.take i, FitP p c) (fun i => l.length - i) 0 ⟨rfl, rfl, rfl, trivial⟩ ⟨by omega, by simp⟩ (fun i hi => ?_)
  obtain ⟨hi, hn⟩ := hi
  by_cases hlt : i < l.length
  · obtain ⟨c, hc⟩ := get_lt hlt
    refine GX.wbR ?_; intros
    refine GX.drawn0  (fun j => !(List.contains [5] j)) [(0, true), (1, true), (2, true), (3, true), (4, true), (5, false), (6, true)] rfl (by kernel_rfl) (by kernel_rfl) (by first | ((repeat (first | apply Go.GX.SelR.nil | apply Go.GX.SelR.cons | (with_reducible apply Go.GX.TakeR.head) | apply Go.GX.TakeR.tail)); done) | (repeat (first | apply Go.GX.SelR.nil | apply Go.GX.SelR.cons | apply Go.GX.TakeR.head | apply Go.GX.TakeR.tail))) ?_; intro wd F hW hR
    refine GX.wbT ?_; intros
    refine GX.gow ?_
    refine (cl (rfits_spec _ _ p c) fun _ => ?_)
    by_cases hf : ¬ FitP p c
    · refine GX.wbT ?_; intros
      refine GX.wbR ?_; intros
      exact rt1 () (vN fun h => hf (h c (List.mem_of_getElem? hc)))
    have hf := Classical.not_not.1 hf
    refine GX.wbT ?_; intros
    refine GX.wbR ?_; intros
    exact again (i + 1) ⟨rfl, rfl, rfl, trivial⟩ ⟨by omega, take_all_s hn hc hf⟩ (by omega)
  · rw [List.take_of_length_le (by omega)] at hn
    refine GX.wbR ?_; intros
    exact rt1 () (vY hn)
end Go.Proofs.Ytkagjpkgboeaiaa
