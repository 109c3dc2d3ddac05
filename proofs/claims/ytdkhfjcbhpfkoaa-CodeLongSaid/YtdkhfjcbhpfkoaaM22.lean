import Derived.Test.YtdkhfjcbhpfkoaaM12
import Derived.Test.YtdkhfjcbhpfkoaaM14
import Derived.Test.YtdkhfjcbhpfkoaaM15
import Derived.Test.YtdkhfjcbhpfkoaaM17
import Derived.Test.YtdkhfjcbhpfkoaaM21
/- The walk over Ints of the reference of chapter 15. -/
namespace Go.Proofs.Ytdkhfjcbhpfkoaa
open Go Go.RR Go.RX Go.GX
attribute [local irreducible] wpList Code.wp wpPlan Exit.then Exit.inBlock bodyPost NoPanic Went GX.Post GX.Again GX.Meet GX.RowR GX.Own GX.Owns GX.Box GX.Sl GX.Pt GX.Ag GX.MapR GX.Kept GX.Pin

theorem take_eq_succ {α : Type} {xs ys : List α} {i : Nat} {x : α} (h : xs.take i = ys.take i) (hx : xs[i]? = some x) (hy : ys[i]? = some x) : xs.take (i + 1) = ys.take (i + 1) := by
  rw [List.take_add_one, List.take_add_one, h, hx, hy]

theorem ints_same (ao1 ao2 : Option Addr) (cap1 cap2 : Nat) (xs ys : List Int) : Does Try.prog 32 [.slice ao1 xs.length cap1, .slice ao2 ys.length cap2] [Sl Ty.int ao1 cap1 xs, Sl Ty.int ao2 cap2 ys] []
    (fun _ : Unit => .bool (decide (xs = ys))) (fun _ => []) (fun _ => []) := by
  refine enter Try.func32 rfl Try.ntmps32 rfl fun b => ?_
  refine sln ao1 fun h1 h2 _ => ?_
  by_cases hl : xs.length = ys.length
  · repeat (first | (apply GX.s_list; first | apply GX.nil | (refine GX.o ?_; first | (apply GX.k_load; first | refine GX.lr ?_ | refine GX.lrA ?_ | refine GX.ln ?_ | refine GX.lb ?_ | refine GX.lh ?_ | (refine GX.ls ?_; intro ao cap _ _) | (refine GX.lA ?_; intro cs) | (refine GX.l0 ?_; intro cs) | refine GX.o1n ?_ | refine GX.o1b ?_ | refine GX.o1h ?_ | (refine GX.o1s ?_; intro ao cap _ _) | refine GX.omn ?_ | refine GX.omb ?_ | refine GX.omh ?_ | (refine GX.oms ?_; intro ao cap _ _) | refine GX.ofn ?_ | refine GX.ofb ?_ | refine GX.ofh ?_ | (refine GX.ofs ?_; intro ao cap _ _) | (refine GX.oA ?_; intro cs)) | (apply GX.k_move; refine GX.m ?_) | (apply GX.k_indexAddr; first | refine GX.io1 ?_ | refine GX.ioh ?_ | refine GX.i1 ?_ | refine GX.ih ?_ | (refine GX.ix ?_; intro bl o)) | (apply GX.k_binOp_lss; refine GX.b_lss ?_) | (apply GX.k_binOp_add; first | refine GX.b_inc ?_ | refine GX.b_add ?_ | refine GX.b_addw ?_) | (apply GX.k_assign; refine GX.a ?_) | (apply GX.k_call; refine GX.c_len ?_) | (apply GX.k_binOp_neq; first | refine GX.b_neq ?_ | refine GX.b_pm ?_ | refine GX.b_nm ?_ | refine GX.b_neqs ?_ | refine GX.b_neqtf ?_ | refine GX.b_neqft ?_ | refine GX.b_neqb ?_)) | refine GX.gt ?_ | refine GX.gf ?_ | refine GX.gbt ?_ | refine GX.gbf ?_ | refine GX.un ?_ | refine GX.un0 ?_) | apply GX.then_normal | apply GX.seq | apply GX.region | (apply GX.s_cond; first | refine GX.ct ?_ | refine GX.cf ?_ | refine GX.cdf ?_ | refine GX.cdt ?_ | refine GX.cbt ?_ | refine GX.cbf ?_) | apply GX.skip | apply GX.block | apply GX.inBlock_normal | apply GX.exit | apply GX.then_exit | apply GX.inBlock_exit | refine GX.ibo ?_ | apply GX.ret | apply GX.then_ret | apply GX.inBlock_ret)
    refine GX.loop (σ := Nat) (fun i => [(0, .slice ao1 xs.length cap1), (1, .slice ao2 ys.length cap2), (5, .int .i64 (i : Int))]) (fun _ => []) (fun _ => [])
      (fun i => i ≤ xs.length ∧ xs.take i = ys.take i) (fun i => xs.length - i) 0 ⟨rfl, rfl, rfl, trivial⟩ ⟨by omega, by simp⟩ (fun i hi => ?_)
    obtain ⟨hi, ht⟩ := hi
    by_cases hlt : i < xs.length
    · obtain ⟨x, hx⟩ := get_lt hlt
      obtain ⟨y, hy⟩ := get_lt (show i < ys.length by omega)
      by_cases hxy : x = y
      · repeat (first | (apply GX.s_list; first | apply GX.nil | (refine GX.o ?_; first | (apply GX.k_load; first | refine GX.lr ?_ | refine GX.lrA ?_ | refine GX.ln ?_ | refine GX.lb ?_ | refine GX.lh ?_ | (refine GX.ls ?_; intro ao cap _ _) | (refine GX.lA ?_; intro cs) | (refine GX.l0 ?_; intro cs) | refine GX.o1n ?_ | refine GX.o1b ?_ | refine GX.o1h ?_ | (refine GX.o1s ?_; intro ao cap _ _) | refine GX.omn ?_ | refine GX.omb ?_ | refine GX.omh ?_ | (refine GX.oms ?_; intro ao cap _ _) | refine GX.ofn ?_ | refine GX.ofb ?_ | refine GX.ofh ?_ | (refine GX.ofs ?_; intro ao cap _ _) | (refine GX.oA ?_; intro cs)) | (apply GX.k_move; refine GX.m ?_) | (apply GX.k_indexAddr; first | refine GX.io1 ?_ | refine GX.ioh ?_ | refine GX.i1 ?_ | refine GX.ih ?_ | (refine GX.ix ?_; intro bl o)) | (apply GX.k_binOp_lss; refine GX.b_lss ?_) | (apply GX.k_binOp_add; first | refine GX.b_inc ?_ | refine GX.b_add ?_ | refine GX.b_addw ?_) | (apply GX.k_assign; refine GX.a ?_) | (apply GX.k_call; refine GX.c_len ?_) | (apply GX.k_binOp_neq; first | refine GX.b_neq ?_ | refine GX.b_pm ?_ | refine GX.b_nm ?_ | refine GX.b_neqs ?_ | refine GX.b_neqtf ?_ | refine GX.b_neqft ?_ | refine GX.b_neqb ?_)) | refine GX.gt ?_ | refine GX.gf ?_ | refine GX.gbt ?_ | refine GX.gbf ?_ | refine GX.un ?_ | refine GX.un0 ?_) | apply GX.then_normal | apply GX.seq | apply GX.region | (apply GX.s_cond; first | refine GX.ct ?_ | refine GX.cf ?_ | refine GX.cdf ?_ | refine GX.cdt ?_ | refine GX.cbt ?_ | refine GX.cbf ?_) | apply GX.skip | apply GX.block | apply GX.inBlock_normal | apply GX.exit | apply GX.then_exit | apply GX.inBlock_exit | refine GX.ibo ?_ | apply GX.ret | apply GX.then_ret | apply GX.inBlock_ret)
        refine GX.drawn0  (fun j => !(List.contains [] j)) [(0, true), (1, true), (2, true), (3, true), (4, true), (5, true), (6, true), (7, true), (8, true)] rfl (by kernel_rfl) (by kernel_rfl) (by first | ((repeat (first | apply Go.GX.SelR.nil | apply Go.GX.SelR.cons | (with_reducible apply Go.GX.TakeR.head) | apply Go.GX.TakeR.tail)); done) | (repeat (first | apply Go.GX.SelR.nil | apply Go.GX.SelR.cons | apply Go.GX.TakeR.head | apply Go.GX.TakeR.tail))) ?_; intro wd F hW hR
        repeat (first | (apply GX.s_take; first | (refine GX.tkp ?_; first | (apply GX.t_move; refine GX.tm ?_) | (apply GX.t_indexAddr; first | refine GX.ti1 ?_ | refine GX.tih ?_) | (apply GX.t_binOp_neq; first | refine GX.tb_neq ?_ | refine GX.tb_pm ?_ | refine GX.tb_nm ?_ | refine GX.tb_neqs ?_ | refine GX.tb_neqtf ?_ | refine GX.tb_neqft ?_ | refine GX.tb_neqb ?_)) | ((first | refine GX.tkr ?_ | refine GX.tkrE ?_); first | (apply GX.r_load; first | refine GX.rlr ?_ | refine GX.rlrA ?_ | refine GX.rln ?_ | refine GX.rlb ?_ | refine GX.rlh ?_ | (refine GX.rls ?_; intro ao cap _ _ _) | (refine GX.rlA ?_; intro cs _) | (refine GX.rl0 ?_; intro cs _) | refine GX.ro1n ?_ | refine GX.ro1b ?_ | refine GX.ro1h ?_ | (refine GX.ro1s ?_; intro ao cap _ _ _) | refine GX.romn ?_ | refine GX.romb ?_ | refine GX.romh ?_ | (refine GX.roms ?_; intro ao cap _ _ _) | refine GX.rofn ?_ | refine GX.rofb ?_ | refine GX.rofh ?_ | (refine GX.rofs ?_; intro ao cap _ _ _) | (refine GX.roA ?_; intro cs _)) | (apply GX.r_indexAddr; first | refine GX.rio1 ?_ | refine GX.rioh ?_ | (refine GX.rix ?_; intro bl o _))) | (refine GX.tkx ?_; first | (refine GX.xix ?_; intro _ _ _)) | refine GX.pgt ?_ | refine GX.pgf ?_ | refine GX.pgbt ?_ | refine GX.pgbf ?_ | refine GX.tkn ?_ | refine GX.tknE ?_) | (apply GX.s_go; first | (refine GX.gow ?_; first | (apply GX.k_load; first | refine GX.lr ?_ | refine GX.lrA ?_ | refine GX.ln ?_ | refine GX.lb ?_ | refine GX.lh ?_ | (refine GX.ls ?_; intro ao cap _ _) | (refine GX.lA ?_; intro cs) | (refine GX.l0 ?_; intro cs) | refine GX.o1n ?_ | refine GX.o1b ?_ | refine GX.o1h ?_ | (refine GX.o1s ?_; intro ao cap _ _) | refine GX.omn ?_ | refine GX.omb ?_ | refine GX.omh ?_ | (refine GX.oms ?_; intro ao cap _ _) | refine GX.ofn ?_ | refine GX.ofb ?_ | refine GX.ofh ?_ | (refine GX.ofs ?_; intro ao cap _ _) | (refine GX.oA ?_; intro cs)) | (apply GX.k_move; refine GX.m ?_) | (apply GX.k_indexAddr; first | refine GX.io1 ?_ | refine GX.ioh ?_ | refine GX.i1 ?_ | refine GX.ih ?_ | (refine GX.ix ?_; intro bl o)) | (apply GX.k_binOp_neq; first | refine GX.b_neq ?_ | refine GX.b_pm ?_ | refine GX.b_nm ?_ | refine GX.b_neqs ?_ | refine GX.b_neqtf ?_ | refine GX.b_neqft ?_ | refine GX.b_neqb ?_)) | refine GX.pgt ?_ | refine GX.pgf ?_ | refine GX.pgbt ?_ | refine GX.pgbf ?_ | refine GX.gon ?_) | (apply GX.s_went; first | refine GX.wentF ?_ | refine GX.went ?_ | refine GX.wentE ?_) | apply GX.done)
        repeat (first | (apply GX.s_list; first | apply GX.nil | (refine GX.o ?_; first | (apply GX.k_load; first | refine GX.lr ?_ | refine GX.lrA ?_ | refine GX.ln ?_ | refine GX.lb ?_ | refine GX.lh ?_ | (refine GX.ls ?_; intro ao cap _ _) | (refine GX.lA ?_; intro cs) | (refine GX.l0 ?_; intro cs) | refine GX.o1n ?_ | refine GX.o1b ?_ | refine GX.o1h ?_ | (refine GX.o1s ?_; intro ao cap _ _) | refine GX.omn ?_ | refine GX.omb ?_ | refine GX.omh ?_ | (refine GX.oms ?_; intro ao cap _ _) | refine GX.ofn ?_ | refine GX.ofb ?_ | refine GX.ofh ?_ | (refine GX.ofs ?_; intro ao cap _ _) | (refine GX.oA ?_; intro cs)) | (apply GX.k_move; refine GX.m ?_) | (apply GX.k_indexAddr; first | refine GX.io1 ?_ | refine GX.ioh ?_ | refine GX.i1 ?_ | refine GX.ih ?_ | (refine GX.ix ?_; intro bl o)) | (apply GX.k_binOp_lss; refine GX.b_lss ?_) | (apply GX.k_binOp_add; first | refine GX.b_inc ?_ | refine GX.b_add ?_ | refine GX.b_addw ?_) | (apply GX.k_assign; refine GX.a ?_) | (apply GX.k_call; refine GX.c_len ?_) | (apply GX.k_binOp_neq; first | refine GX.b_neq ?_ | refine GX.b_pm ?_ | refine GX.b_nm ?_ | refine GX.b_neqs ?_ | refine GX.b_neqtf ?_ | refine GX.b_neqft ?_ | refine GX.b_neqb ?_)) | refine GX.gt ?_ | refine GX.gf ?_ | refine GX.gbt ?_ | refine GX.gbf ?_ | refine GX.un ?_ | refine GX.un0 ?_) | apply GX.then_normal | apply GX.seq | apply GX.region | (apply GX.s_cond; first | refine GX.ct ?_ | refine GX.cf ?_ | refine GX.cdf ?_ | refine GX.cdt ?_ | refine GX.cbt ?_ | refine GX.cbf ?_) | apply GX.skip | apply GX.block | apply GX.inBlock_normal | apply GX.exit | apply GX.then_exit | apply GX.inBlock_exit | refine GX.ibo ?_ | apply GX.ret | apply GX.then_ret | apply GX.inBlock_ret)
        subst hxy
        exact again (i + 1) ⟨rfl, rfl, rfl, trivial⟩ ⟨by omega, take_eq_succ ht hx hy⟩ (by omega)
      · repeat (first | (apply GX.s_list; first | apply GX.nil | (refine GX.o ?_; first | (apply GX.k_load; first | refine GX.lr ?_ | refine GX.lrA ?_ | refine GX.ln ?_ | refine GX.lb ?_ | refine GX.lh ?_ | (refine GX.ls ?_; intro ao cap _ _) | (refine GX.lA ?_; intro cs) | (refine GX.l0 ?_; intro cs) | refine GX.o1n ?_ | refine GX.o1b ?_ | refine GX.o1h ?_ | (refine GX.o1s ?_; intro ao cap _ _) | refine GX.omn ?_ | refine GX.omb ?_ | refine GX.omh ?_ | (refine GX.oms ?_; intro ao cap _ _) | refine GX.ofn ?_ | refine GX.ofb ?_ | refine GX.ofh ?_ | (refine GX.ofs ?_; intro ao cap _ _) | (refine GX.oA ?_; intro cs)) | (apply GX.k_move; refine GX.m ?_) | (apply GX.k_indexAddr; first | refine GX.io1 ?_ | refine GX.ioh ?_ | refine GX.i1 ?_ | refine GX.ih ?_ | (refine GX.ix ?_; intro bl o)) | (apply GX.k_binOp_lss; refine GX.b_lss ?_) | (apply GX.k_binOp_add; first | refine GX.b_inc ?_ | refine GX.b_add ?_ | refine GX.b_addw ?_) | (apply GX.k_assign; refine GX.a ?_) | (apply GX.k_call; refine GX.c_len ?_) | (apply GX.k_binOp_neq; first | refine GX.b_neq ?_ | refine GX.b_pm ?_ | refine GX.b_nm ?_ | refine GX.b_neqs ?_ | refine GX.b_neqtf ?_ | refine GX.b_neqft ?_ | refine GX.b_neqb ?_)) | refine GX.gt ?_ | refine GX.gf ?_ | refine GX.gbt ?_ | refine GX.gbf ?_ | refine GX.un ?_ | refine GX.un0 ?_) | apply GX.then_normal | apply GX.seq | apply GX.region | (apply GX.s_cond; first | refine GX.ct ?_ | refine GX.cf ?_ | refine GX.cdf ?_ | refine GX.cdt ?_ | refine GX.cbt ?_ | refine GX.cbf ?_) | apply GX.skip | apply GX.block | apply GX.inBlock_normal | apply GX.exit | apply GX.then_exit | apply GX.inBlock_exit | refine GX.ibo ?_ | apply GX.ret | apply GX.then_ret | apply GX.inBlock_ret)
        refine GX.drawn0  (fun j => !(List.contains [] j)) [(0, true), (1, true), (2, true), (3, true), (4, true), (5, true), (6, true), (7, true), (8, true)] rfl (by kernel_rfl) (by kernel_rfl) (by first | ((repeat (first | apply Go.GX.SelR.nil | apply Go.GX.SelR.cons | (with_reducible apply Go.GX.TakeR.head) | apply Go.GX.TakeR.tail)); done) | (repeat (first | apply Go.GX.SelR.nil | apply Go.GX.SelR.cons | apply Go.GX.TakeR.head | apply Go.GX.TakeR.tail))) ?_; intro wd F hW hR
        repeat (first | (apply GX.s_take; first | (refine GX.tkp ?_; first | (apply GX.t_move; refine GX.tm ?_) | (apply GX.t_indexAddr; first | refine GX.ti1 ?_ | refine GX.tih ?_) | (apply GX.t_binOp_neq; first | refine GX.tb_neq ?_ | refine GX.tb_pm ?_ | refine GX.tb_nm ?_ | refine GX.tb_neqs ?_ | refine GX.tb_neqtf ?_ | refine GX.tb_neqft ?_ | refine GX.tb_neqb ?_)) | ((first | refine GX.tkr ?_ | refine GX.tkrE ?_); first | (apply GX.r_load; first | refine GX.rlr ?_ | refine GX.rlrA ?_ | refine GX.rln ?_ | refine GX.rlb ?_ | refine GX.rlh ?_ | (refine GX.rls ?_; intro ao cap _ _ _) | (refine GX.rlA ?_; intro cs _) | (refine GX.rl0 ?_; intro cs _) | refine GX.ro1n ?_ | refine GX.ro1b ?_ | refine GX.ro1h ?_ | (refine GX.ro1s ?_; intro ao cap _ _ _) | refine GX.romn ?_ | refine GX.romb ?_ | refine GX.romh ?_ | (refine GX.roms ?_; intro ao cap _ _ _) | refine GX.rofn ?_ | refine GX.rofb ?_ | refine GX.rofh ?_ | (refine GX.rofs ?_; intro ao cap _ _ _) | (refine GX.roA ?_; intro cs _)) | (apply GX.r_indexAddr; first | refine GX.rio1 ?_ | refine GX.rioh ?_ | (refine GX.rix ?_; intro bl o _))) | (refine GX.tkx ?_; first | (refine GX.xix ?_; intro _ _ _)) | refine GX.pgt ?_ | refine GX.pgf ?_ | refine GX.pgbt ?_ | refine GX.pgbf ?_ | refine GX.tkn ?_ | refine GX.tknE ?_) | (apply GX.s_go; first | (refine GX.gow ?_; first | (apply GX.k_load; first | refine GX.lr ?_ | refine GX.lrA ?_ | refine GX.ln ?_ | refine GX.lb ?_ | refine GX.lh ?_ | (refine GX.ls ?_; intro ao cap _ _) | (refine GX.lA ?_; intro cs) | (refine GX.l0 ?_; intro cs) | refine GX.o1n ?_ | refine GX.o1b ?_ | refine GX.o1h ?_ | (refine GX.o1s ?_; intro ao cap _ _) | refine GX.omn ?_ | refine GX.omb ?_ | refine GX.omh ?_ | (refine GX.oms ?_; intro ao cap _ _) | refine GX.ofn ?_ | refine GX.ofb ?_ | refine GX.ofh ?_ | (refine GX.ofs ?_; intro ao cap _ _) | (refine GX.oA ?_; intro cs)) | (apply GX.k_move; refine GX.m ?_) | (apply GX.k_indexAddr; first | refine GX.io1 ?_ | refine GX.ioh ?_ | refine GX.i1 ?_ | refine GX.ih ?_ | (refine GX.ix ?_; intro bl o)) | (apply GX.k_binOp_neq; first | refine GX.b_neq ?_ | refine GX.b_pm ?_ | refine GX.b_nm ?_ | refine GX.b_neqs ?_ | refine GX.b_neqtf ?_ | refine GX.b_neqft ?_ | refine GX.b_neqb ?_)) | refine GX.pgt ?_ | refine GX.pgf ?_ | refine GX.pgbt ?_ | refine GX.pgbf ?_ | refine GX.gon ?_) | (apply GX.s_went; first | refine GX.wentF ?_ | refine GX.went ?_ | refine GX.wentE ?_) | apply GX.done)
        repeat (first | (apply GX.s_list; first | apply GX.nil | (refine GX.o ?_; first | (apply GX.k_load; first | refine GX.lr ?_ | refine GX.lrA ?_ | refine GX.ln ?_ | refine GX.lb ?_ | refine GX.lh ?_ | (refine GX.ls ?_; intro ao cap _ _) | (refine GX.lA ?_; intro cs) | (refine GX.l0 ?_; intro cs) | refine GX.o1n ?_ | refine GX.o1b ?_ | refine GX.o1h ?_ | (refine GX.o1s ?_; intro ao cap _ _) | refine GX.omn ?_ | refine GX.omb ?_ | refine GX.omh ?_ | (refine GX.oms ?_; intro ao cap _ _) | refine GX.ofn ?_ | refine GX.ofb ?_ | refine GX.ofh ?_ | (refine GX.ofs ?_; intro ao cap _ _) | (refine GX.oA ?_; intro cs)) | (apply GX.k_move; refine GX.m ?_) | (apply GX.k_indexAddr; first | refine GX.io1 ?_ | refine GX.ioh ?_ | refine GX.i1 ?_ | refine GX.ih ?_ | (refine GX.ix ?_; intro bl o)) | (apply GX.k_binOp_lss; refine GX.b_lss ?_) | (apply GX.k_binOp_add; first | refine GX.b_inc ?_ | refine GX.b_add ?_ | refine GX.b_addw ?_) | (apply GX.k_assign; refine GX.a ?_) | (apply GX.k_call; refine GX.c_len ?_) | (apply GX.k_binOp_neq; first | refine GX.b_neq ?_ | refine GX.b_pm ?_ | refine GX.b_nm ?_ | refine GX.b_neqs ?_ | refine GX.b_neqtf ?_ | refine GX.b_neqft ?_ | refine GX.b_neqb ?_)) | refine GX.gt ?_ | refine GX.gf ?_ | refine GX.gbt ?_ | refine GX.gbf ?_ | refine GX.un ?_ | refine GX.un0 ?_) | apply GX.then_normal | apply GX.seq | apply GX.region | (apply GX.s_cond; first | refine GX.ct ?_ | refine GX.cf ?_ | refine GX.cdf ?_ | refine GX.cdt ?_ | refine GX.cbt ?_ | refine GX.cbf ?_) | apply GX.skip | apply GX.block | apply GX.inBlock_normal | apply GX.exit | apply GX.then_exit | apply GX.inBlock_exit | refine GX.ibo ?_ | apply GX.ret | apply GX.then_ret | apply GX.inBlock_ret)
        have he : decide (xs = ys) = false := decide_eq_false fun e => hxy (by subst e; rw [hx] at hy; exact Option.some.inj hy)
        exact rt1 () (congrArg Value.bool he)
    · have hil : i = xs.length := by omega
      subst hil
      repeat (first | (apply GX.s_list; first | apply GX.nil | (refine GX.o ?_; first | (apply GX.k_load; first | refine GX.lr ?_ | refine GX.lrA ?_ | refine GX.ln ?_ | refine GX.lb ?_ | refine GX.lh ?_ | (refine GX.ls ?_; intro ao cap _ _) | (refine GX.lA ?_; intro cs) | (refine GX.l0 ?_; intro cs) | refine GX.o1n ?_ | refine GX.o1b ?_ | refine GX.o1h ?_ | (refine GX.o1s ?_; intro ao cap _ _) | refine GX.omn ?_ | refine GX.omb ?_ | refine GX.omh ?_ | (refine GX.oms ?_; intro ao cap _ _) | refine GX.ofn ?_ | refine GX.ofb ?_ | refine GX.ofh ?_ | (refine GX.ofs ?_; intro ao cap _ _) | (refine GX.oA ?_; intro cs)) | (apply GX.k_move; refine GX.m ?_) | (apply GX.k_indexAddr; first | refine GX.io1 ?_ | refine GX.ioh ?_ | refine GX.i1 ?_ | refine GX.ih ?_ | (refine GX.ix ?_; intro bl o)) | (apply GX.k_binOp_lss; refine GX.b_lss ?_) | (apply GX.k_binOp_add; first | refine GX.b_inc ?_ | refine GX.b_add ?_ | refine GX.b_addw ?_) | (apply GX.k_assign; refine GX.a ?_) | (apply GX.k_call; refine GX.c_len ?_) | (apply GX.k_binOp_neq; first | refine GX.b_neq ?_ | refine GX.b_pm ?_ | refine GX.b_nm ?_ | refine GX.b_neqs ?_ | refine GX.b_neqtf ?_ | refine GX.b_neqft ?_ | refine GX.b_neqb ?_)) | refine GX.gt ?_ | refine GX.gf ?_ | refine GX.gbt ?_ | refine GX.gbf ?_ | refine GX.un ?_ | refine GX.un0 ?_) | apply GX.then_normal | apply GX.seq | apply GX.region | (apply GX.s_cond; first | refine GX.ct ?_ | refine GX.cf ?_ | refine GX.cdf ?_ | refine GX.cdt ?_ | refine GX.cbt ?_ | refine GX.cbf ?_) | apply GX.skip | apply GX.block | apply GX.inBlock_normal | apply GX.exit | apply GX.then_exit | apply GX.inBlock_exit | refine GX.ibo ?_ | apply GX.ret | apply GX.then_ret | apply GX.inBlock_ret)
      have he : decide (xs = ys) = true := by
        rw [List.take_length, hl, List.take_length] at ht
        exact decide_eq_true ht
      exact rt1 () (congrArg Value.bool he)
  · repeat (first | (apply GX.s_list; first | apply GX.nil | (refine GX.o ?_; first | (apply GX.k_load; first | refine GX.lr ?_ | refine GX.lrA ?_ | refine GX.ln ?_ | refine GX.lb ?_ | refine GX.lh ?_ | (refine GX.ls ?_; intro ao cap _ _) | (refine GX.lA ?_; intro cs) | (refine GX.l0 ?_; intro cs) | refine GX.o1n ?_ | refine GX.o1b ?_ | refine GX.o1h ?_ | (refine GX.o1s ?_; intro ao cap _ _) | refine GX.omn ?_ | refine GX.omb ?_ | refine GX.omh ?_ | (refine GX.oms ?_; intro ao cap _ _) | refine GX.ofn ?_ | refine GX.ofb ?_ | refine GX.ofh ?_ | (refine GX.ofs ?_; intro ao cap _ _) | (refine GX.oA ?_; intro cs)) | (apply GX.k_move; refine GX.m ?_) | (apply GX.k_indexAddr; first | refine GX.io1 ?_ | refine GX.ioh ?_ | refine GX.i1 ?_ | refine GX.ih ?_ | (refine GX.ix ?_; intro bl o)) | (apply GX.k_binOp_lss; refine GX.b_lss ?_) | (apply GX.k_binOp_add; first | refine GX.b_inc ?_ | refine GX.b_add ?_ | refine GX.b_addw ?_) | (apply GX.k_assign; refine GX.a ?_) | (apply GX.k_call; refine GX.c_len ?_) | (apply GX.k_binOp_neq; first | refine GX.b_neq ?_ | refine GX.b_pm ?_ | refine GX.b_nm ?_ | refine GX.b_neqs ?_ | refine GX.b_neqtf ?_ | refine GX.b_neqft ?_ | refine GX.b_neqb ?_)) | refine GX.gt ?_ | refine GX.gf ?_ | refine GX.gbt ?_ | refine GX.gbf ?_ | refine GX.un ?_ | refine GX.un0 ?_) | apply GX.then_normal | apply GX.seq | apply GX.region | (apply GX.s_cond; first | refine GX.ct ?_ | refine GX.cf ?_ | refine GX.cdf ?_ | refine GX.cdt ?_ | refine GX.cbt ?_ | refine GX.cbf ?_) | apply GX.skip | apply GX.block | apply GX.inBlock_normal | apply GX.exit | apply GX.then_exit | apply GX.inBlock_exit | refine GX.ibo ?_ | apply GX.ret | apply GX.then_ret | apply GX.inBlock_ret)
    have he : decide (xs = ys) = false := decide_eq_false fun e => hl (by rw [e])
    exact rt1 () (congrArg Value.bool he)

end Go.Proofs.Ytdkhfjcbhpfkoaa

/- The walk over slices.Equal of bytes. -/
namespace Go.Proofs.Ytdkhfjcbhpfkoaa
open Go Go.RR Go.RX Go.GX
attribute [local irreducible] wpList Code.wp wpPlan Exit.then Exit.inBlock bodyPost NoPanic Went GX.Post GX.Again GX.Meet GX.RowR GX.Own GX.Owns GX.Box GX.Sl GX.Pt GX.Ag GX.MapR GX.Kept GX.Pin wpT GoK AtEnd Both

theorem eqb_spec (ao1 ao2 : Option Addr) (cap1 cap2 : Nat) (xs ys : List Int) : Does Try.prog 28 [.slice ao1 xs.length cap1, .slice ao2 ys.length cap2] [Sl Ty.byte ao1 cap1 xs, Sl Ty.byte ao2 cap2 ys] []
    (fun _ : Unit => .bool (decide (xs = ys))) (fun _ => []) (fun _ => []) := by
  refine enter Try.func28 rfl Try.ntmps28 rfl fun b => ?_
  refine sln ao1 fun h1 h2 _ => ?_
  by_cases hl : xs.length = ys.length
  · refine GX.wR ?_; intros
    refine GX.loop (σ := Nat) (fun i => [(0, .slice ao1 xs.length cap1), (1, .slice ao2 ys.length cap2), (12, .int .i64 (xs.length : Int)), (13, .int .i64 (i : Int))]) (fun _ => []) (fun _ => [])
      (fun i => i ≤ xs.length ∧ xs.take i = ys.take i) (fun i => xs.length - i) 0 ⟨rfl, rfl, rfl, rfl, trivial⟩ ⟨by omega, by simp⟩ (fun i hi => ?_)
    obtain ⟨hi, ht⟩ := hi
    by_cases hlt : i < xs.length
    · obtain ⟨x, hx⟩ := get_lt hlt
      obtain ⟨y, hy⟩ := get_lt (show i < ys.length by omega)
      by_cases hxy : x = y
      · refine GX.wR ?_; intros
        refine GX.drawn0  (fun j => !(List.contains [] j)) [(0, true), (1, true), (2, true), (3, true), (4, true), (5, true), (6, true), (7, true), (8, true)] rfl (by kernel_rfl) (by kernel_rfl) (by first | ((repeat (first | apply Go.GX.SelR.nil | apply Go.GX.SelR.cons | (with_reducible apply Go.GX.TakeR.head) | apply Go.GX.TakeR.tail)); done) | (repeat (first | apply Go.GX.SelR.nil | apply Go.GX.SelR.cons | apply Go.GX.TakeR.head | apply Go.GX.TakeR.tail))) ?_; intro wd F hW hR
        refine GX.wT ?_; intros
        refine GX.wR ?_; intros
        subst hxy
        exact again (i + 1) ⟨rfl, rfl, rfl, rfl, trivial⟩ ⟨by omega, take_eq_succ ht hx hy⟩ (by omega)
      · refine GX.wR ?_; intros
        refine GX.drawn0  (fun j => !(List.contains [] j)) [(0, true), (1, true), (2, true), (3, true), (4, true), (5, true), (6, true), (7, true), (8, true)] rfl (by kernel_rfl) (by kernel_rfl) (by first | ((repeat (first | apply Go.GX.SelR.nil | apply Go.GX.SelR.cons | (with_reducible apply Go.GX.TakeR.head) | apply Go.GX.TakeR.tail)); done) | (repeat (first | apply Go.GX.SelR.nil | apply Go.GX.SelR.cons | apply Go.GX.TakeR.head | apply Go.GX.TakeR.tail))) ?_; intro wd F hW hR
        refine GX.wT ?_; intros
        refine GX.wR ?_; intros
        have he : decide (xs = ys) = false := decide_eq_false fun e => hxy (by subst e; rw [hx] at hy; exact Option.some.inj hy)
        exact rt1 () (congrArg Value.bool he)
    · have hil : i = xs.length := by omega
      subst hil
      refine GX.wR ?_; intros
      have he : decide (xs = ys) = true := by
        rw [List.take_length, hl, List.take_length] at ht
        exact decide_eq_true ht
      exact rt1 () (congrArg Value.bool he)
  · refine GX.wR ?_; intros
    have he : decide (xs = ys) = false := decide_eq_false fun e => hl (by rw [e])
    exact rt1 () (congrArg Value.bool he)
end Go.Proofs.Ytdkhfjcbhpfkoaa

/- The walk over Get of package code. -/
namespace Go.NumM
open Go Go.GX Go.Api Go.RtM
theorem encs_len (l : List Int) : l.length ≤ (encs l).length := fm_len (f := num) fun x _ => num_pos x
theorem mem_len {α : Type} {f : α → List Int} {l : List α} {x : α} (h : x ∈ l) : (f x).length ≤ (l.flatMap f).length := by
  induction l with
  | nil => simp at h
  | cons y l ih =>
    rw [List.flatMap_cons, List.length_append]
    rcases List.mem_cons.1 h with rfl | h
    · omega
    · have := ih h; omega
theorem refs_len (l : List Layout) : ((l.map (·.refs)).map List.length).sum ≤ (l.flatMap encC).length := by
  induction l with
  | nil => simp
  | cons y l ih =>
    simp only [List.map_cons, List.sum_cons, List.flatMap_cons, List.length_append]
    have := encs_len y.refs
    have h : (encs y.refs).length ≤ (encC y).length := by unfold encC encL; simp only [List.length_append]; omega
    omega
/-- What takes few bytes is not too great. -/
theorem small_of {t : RTg} (h : (encT t).length ≤ 500000000) : Small t := by
  unfold encT at h
  simp only [List.length_append] at h
  have h1 := fm_len (f := encC) (l := t.classes) fun x _ => encC_pos x
  have h2 := encs_len t.globals
  have h3 := fm_len (f := encU) (l := t.units) fun x _ => encU_pos x
  have h4 := refs_len t.classes
  have h5 : (encs t.globals).length ≤ (encL t.globals).length := by unfold encL; rw [List.length_append]; omega
  refine ⟨by omega, by unfold flds; omega, by omega, by omega, fun u hu => ?_⟩
  have h6 := mem_len (f := encU) hu
  have h7 := encs_len u.vars
  have h8 := fm_len (f := encI) (l := u.ins) fun x _ => encI_pos x
  have h9 : (encs u.vars).length + (u.ins.flatMap encI).length ≤ (encU u).length := by unfold encU encL; simp only [List.length_append]; omega
  constructor <;> omega
/-- The program that the bytes stand for. -/
def Is (B : List Int) (t : RTg) : Prop := RTg.ok t ∧ RightP t ∧ encT t = B
/-- What Get says. -/
structure GetS (B : List Int) where
  cs : List Value
  t : RTg
  e : Int
  h : (e = 0 ∧ Is B t ∧ ∀ t2, Is B t2 → t = t2) ∨ (t = ⟨[], [], [], 0⟩ ∧ (∀ t2, B.length ≤ 4194304 → ¬ Is B t2) ∧ e = if 4194304 < B.length then 4 else 6)
theorem get_great {B : List Int} (h : 4194304 < B.length) : ((4 : Int) = 0 ∧ Is B ⟨[], [], [], 0⟩ ∧ ∀ t2, Is B t2 → (⟨[], [], [], 0⟩ : RTg) = t2) ∨ ((⟨[], [], [], 0⟩ : RTg) = ⟨[], [], [], 0⟩ ∧ (∀ t2, B.length ≤ 4194304 → ¬ Is B t2) ∧ (4 : Int) = if 4194304 < B.length then 4 else 6) :=
  .inr ⟨rfl, fun _ h2 => by omega, by rw [if_pos h]⟩
theorem get_not {B : List Int} (h : ¬ 4194304 < B.length) (hn : ∀ t2, ¬ Is B t2) : ((6 : Int) = 0 ∧ Is B ⟨[], [], [], 0⟩ ∧ ∀ t2, Is B t2 → (⟨[], [], [], 0⟩ : RTg) = t2) ∨ ((⟨[], [], [], 0⟩ : RTg) = ⟨[], [], [], 0⟩ ∧ (∀ t2, B.length ≤ 4194304 → ¬ Is B t2) ∧ (6 : Int) = if 4194304 < B.length then 4 else 6) :=
  .inr ⟨rfl, fun t2 _ => hn t2, by rw [if_neg h]⟩
theorem rd_is {B D2 : List Int} {t : RTg} {d2 : Bool} (h : Rdn encT RTg.ok B false t D2 d2) {t2 : RTg} (h2 : Is B t2) : t = t2 ∧ d2 = false := by
  obtain ⟨k1, k2, k3⟩ := h.back rfl t2 [] h2.1 (by rw [List.append_nil]; exact h2.2.2.symm)
  exact ⟨k1, k3⟩
end Go.NumM
namespace Go.Proofs.Ytdkhfjcbhpfkoaa
open Go Go.RR Go.RX Go.GX Go.Api Go.NumM Go.RtM
attribute [local irreducible] wpList Code.wp wpPlan Exit.then Exit.inBlock bodyPost NoPanic Went GX.Post GX.Again GX.Meet GX.RowR GX.Own GX.Owns GX.Box GX.Sl GX.Pt GX.Ag GX.MapR GX.Kept GX.Pin wpT GoK AtEnd Both
set_option maxHeartbeats 1000000 in
theorem get27_spec (a : Option Addr) (c : Nat) (B : List Int) :
    Does Try.prog 14 [.slice a B.length c] [Sl Ty.byte a c B] [] (fun s : GetS B => .tuple #[.agg s.cs.toArray, .int .i64 s.e]) (fun s => [Ag tyRTg s.cs s.t]) (fun _ => []) := by
  refine enter Try.func14 rfl Try.ntmps14 rfl fun b => ?_
  by_cases h1 : 4194304 < (B.length : Int)
  · refine GX.wR ?_; intros
    exact rt2B (fun cs => (⟨cs, ⟨[], [], [], 0⟩, 4, get_great (by omega)⟩ : GetS B)) (fun _ => rfl)
  have h1n : ¬ 4194304 < B.length := by omega
  refine GX.wRN ?_; intros
  apply GX.region
  refine GX.wRN ?_; intros
  apply GX.region
  refine GX.wRN ?_; intros
  apply GX.region
  refine GX.wRA ?_; intros
  refine GX.nmP 4 ?_; rintro p rfl
  refine GX.o (cl (rdProg_spec p ((a, c) : AC) B false (by omega)) fun s => ?_)
  obtain ⟨cs1, t, c2, D2, d2, hr⟩ := s
  dsimp only
  by_cases hd : d2 = true
  · refine GX.wR ?_; intros
    exact rt2B (fun cs => (⟨cs, ⟨[], [], [], 0⟩, 6, get_not h1n (fun t2 h2 => by rw [(rd_is hr h2).2] at hd; exact absurd hd (by decide))⟩ : GetS B)) (fun _ => rfl)
  have hd2 : d2 = false := by simpa using hd
  have hsz : (encT t).length ≤ 41943040 := by have := hr.size hd2; omega
  refine GX.wR ?_; intros
  refine GX.o (cl (put27_spec _ t hr.good (small_of (by omega)) (by omega)) fun s => ?_)
  obtain ⟨a3, c3⟩ := s
  dsimp only
  by_cases hR : RightP t
  · rw [show putT t = encT t from if_pos hR, show putE t = 0 from if_pos hR]
    by_cases hE : encT t = B
    · have hE2 := Classical.not_not.2 hE
      refine GX.wR ?_; intros
      refine GX.o (cl (eqb_spec a3 a c3 c (encT t) B) fun _ => ?_)
      refine GX.wR ?_; intros
      exact rt2B (fun cs => (⟨cs, t, 0, .inl ⟨rfl, ⟨hr.good, hR, hE⟩, fun t2 h2 => (rd_is hr h2).1⟩⟩ : GetS B)) (fun _ => rfl)
    · refine GX.wR ?_; intros
      refine GX.o (cl (eqb_spec a3 a c3 c (encT t) B) fun _ => ?_)
      refine GX.wR ?_; intros
      exact rt2B (fun cs => (⟨cs, ⟨[], [], [], 0⟩, 6, get_not h1n (fun t2 h2 => hE (by rw [(rd_is hr h2).1]; exact h2.2.2))⟩ : GetS B)) (fun _ => rfl)
  · rw [show putT t = [] from if_neg hR, show putE t = 5 from if_neg hR]
    refine GX.wR ?_; intros
    exact rt2B (fun cs => (⟨cs, ⟨[], [], [], 0⟩, 6, get_not h1n (fun t2 h2 => hR (by rw [(rd_is hr h2).1]; exact h2.2.1))⟩ : GetS B)) (fun _ => rfl)
end Go.Proofs.Ytdkhfjcbhpfkoaa

/- The walks over SameIns of the reference of chapter 12, and over Same of the reference of chapter 26. -/
namespace Go.Proofs.Ytdkhfjcbhpfkoaa
open Go Go.RR Go.RX Go.GX Go.Api
attribute [local irreducible] wpList Code.wp wpPlan Exit.then Exit.inBlock bodyPost NoPanic Went GX.Post GX.Again GX.Meet GX.RowR GX.Own GX.Owns GX.Box GX.Sl GX.Pt GX.Ag GX.MapR GX.Kept GX.Pin wpT GoK AtEnd Both
set_option maxHeartbeats 1000000 in
theorem sameIns_spec (cs ds : List Value) (x y : Ins) : Does Try.prog 33 [.agg cs.toArray, .agg ds.toArray] [Ag tyIns cs x, Ag tyIns ds y] [] (fun _ : Unit => .bool (decide (x = y))) (fun _ => []) (fun _ => []) := by
  refine enter Try.func33 rfl Try.ntmps33 rfl fun b => ?_
  by_cases h1 : x.op = y.op
  rotate_left
  · refine GX.wR ?_; intros
    exact rt1 () (vN fun h => h1 (by rw [h]))
  by_cases h2 : x.a = y.a
  rotate_left
  · refine GX.wR ?_; intros
    exact rt1 () (vN fun h => h2 (by rw [h]))
  by_cases h3 : x.b = y.b
  rotate_left
  · refine GX.wR ?_; intros
    exact rt1 () (vN fun h => h3 (by rw [h]))
  by_cases h4 : x.c = y.c
  rotate_left
  · refine GX.wR ?_; intros
    exact rt1 () (vN fun h => h4 (by rw [h]))
  by_cases h5 : x.n = y.n
  rotate_left
  · refine GX.wR ?_; intros
    exact rt1 () (vN fun h => h5 (by rw [h]))
  by_cases h6 : x.args.length = y.args.length
  rotate_left
  · refine GX.wR ?_; intros
    exact rt1 () (vN fun h => h6 (by rw [h]))
  refine GX.wR ?_; intros
  refine GX.nmP 2 ?_; rintro b2 rfl
  refine GX.nmP 3 ?_; rintro b3 rfl
  refine GX.loop (σ := Nat) (fun i => [(2, .pointer (some ⟨b2, 0, none⟩)), (3, .pointer (some ⟨b3, 0, none⟩)), (5, .int .i64 (i : Int))]) (fun _ => []) (fun _ => [])
    (fun i => i ≤ x.args.length ∧ x.args.take i = y.args.take i) (fun i => x.args.length - i) 0 ⟨rfl, rfl, rfl, trivial⟩ ⟨by omega, by simp⟩ (fun i hi => ?_)
  obtain ⟨hi, ht⟩ := hi
  by_cases hlt : i < x.args.length
  · obtain ⟨u, hu⟩ := get_lt hlt
    obtain ⟨v, hv⟩ := get_lt (show i < y.args.length by omega)
    by_cases huv : u = v
    · refine GX.wR ?_; intros
      refine GX.drawn0  (fun j => !(List.contains [] j)) [(0, true), (1, true), (2, true), (3, true), (4, true), (5, true), (6, true), (7, true), (8, true), (9, true), (10, true)] rfl (by kernel_rfl) (by kernel_rfl) (by first | ((repeat (first | apply Go.GX.SelR.nil | apply Go.GX.SelR.cons | (with_reducible apply Go.GX.TakeR.head) | apply Go.GX.TakeR.tail)); done) | (repeat (first | apply Go.GX.SelR.nil | apply Go.GX.SelR.cons | apply Go.GX.TakeR.head | apply Go.GX.TakeR.tail))) ?_; intro wd F hW hR
      refine GX.wT ?_; intros
      refine GX.wR ?_; intros
      subst huv
      exact again (i + 1) ⟨rfl, rfl, rfl, trivial⟩ ⟨by omega, take_eq_succ ht hu hv⟩ (by omega)
    · refine GX.wR ?_; intros
      refine GX.drawn0  (fun j => !(List.contains [] j)) [(0, true), (1, true), (2, true), (3, true), (4, true), (5, true), (6, true), (7, true), (8, true), (9, true), (10, true)] rfl (by kernel_rfl) (by kernel_rfl) (by first | ((repeat (first | apply Go.GX.SelR.nil | apply Go.GX.SelR.cons | (with_reducible apply Go.GX.TakeR.head) | apply Go.GX.TakeR.tail)); done) | (repeat (first | apply Go.GX.SelR.nil | apply Go.GX.SelR.cons | apply Go.GX.TakeR.head | apply Go.GX.TakeR.tail))) ?_; intro wd F hW hR
      refine GX.wT ?_; intros
      refine GX.wR ?_; intros
      exact rt1 () (vN fun e => huv (by subst e; rw [hu] at hv; exact Option.some.inj hv))
  · have hil : i = x.args.length := by omega
    rw [List.take_of_length_le (by omega), List.take_of_length_le (by omega)] at ht
    refine GX.wR ?_; intros
    exact rt1 () (vY (by cases x; cases y; simp at h1 h2 h3 h4 h5 ht; simp [*]))
set_option maxHeartbeats 1000000 in
theorem same27_spec (cs ds : List Value) (t s : RTg) : Does Try.prog 16 [.agg cs.toArray, .agg ds.toArray] [Ag tyRTg cs t, Ag tyRTg ds s] [] (fun _ : Unit => .bool (decide (t = s))) (fun _ => []) (fun _ => []) := by
  refine enter Try.func16 rfl Try.ntmps16 rfl fun b => ?_
  by_cases h1 : t.main = s.main
  rotate_left
  · refine GX.wR ?_; intros
    exact rt1 () (vN fun h => h1 (by rw [h]))
  refine GX.wR ?_; intros
  refine GX.nmS 17 ?_; rintro a17 c17 rfl rfl
  refine GX.nmS 19 ?_; rintro a19 c19 rfl rfl
  refine GX.o (cl (ints_same a17 a19 c17 c19 t.globals s.globals) fun _ => ?_)
  by_cases h2 : t.globals = s.globals
  rotate_left
  · refine GX.wR ?_; intros
    exact rt1 () (vN fun h => h2 (by rw [h]))
  have h2' := Classical.not_not.2 h2
  by_cases h3 : t.classes.length = s.classes.length
  rotate_left
  · refine GX.wR ?_; intros
    exact rt1 () (vN fun h => h3 (by rw [h]))
  by_cases h4 : t.units.length = s.units.length
  rotate_left
  · refine GX.wR ?_; intros
    exact rt1 () (vN fun h => h4 (by rw [h]))
  refine GX.wR ?_; intros
  refine GX.nmP 2 ?_; rintro b2 rfl
  refine GX.nmP 3 ?_; rintro b3 rfl
  refine GX.loop (σ := Nat) (fun i => [(2, .pointer (some ⟨b2, 0, none⟩)), (3, .pointer (some ⟨b3, 0, none⟩)), (5, .int .i64 (i : Int))]) (fun _ => []) (fun _ => [])
    (fun i => i ≤ t.classes.length ∧ t.classes.take i = s.classes.take i) (fun i => t.classes.length - i) 0 ⟨rfl, rfl, rfl, trivial⟩ ⟨by omega, by simp⟩ (fun i hi => ?_)
  obtain ⟨hi, ht⟩ := hi
  by_cases hlt : i < t.classes.length
  · obtain ⟨u, hu⟩ := get_lt hlt
    obtain ⟨v, hv⟩ := get_lt (show i < s.classes.length by omega)
    have hno : u ≠ v → ¬ t = s := fun huv e => huv (by subst e; rw [hu] at hv; exact Option.some.inj hv)
    by_cases ha : u.arr = v.arr
    · have ha2 : (u.arr != v.arr) = false := by rw [ha]; simp
      refine GX.wR ?_; intros
      refine GX.drawn0  (fun j => !(List.contains [26] j)) [(0, true), (1, true), (2, true), (3, true), (4, true), (5, true), (6, true), (7, true), (8, true), (9, true), (10, true), (11, true), (12, true), (13, true), (14, true), (15, true), (16, true), (17, true), (18, true), (19, true), (20, true), (21, true), (22, true), (23, true), (24, true), (25, true), (26, false), (27, true), (28, true)] rfl (by kernel_rfl) (by kernel_rfl) (by first | ((repeat (first | apply Go.GX.SelR.nil | apply Go.GX.SelR.cons | (with_reducible apply Go.GX.TakeR.head) | apply Go.GX.TakeR.tail)); done) | (repeat (first | apply Go.GX.SelR.nil | apply Go.GX.SelR.cons | apply Go.GX.TakeR.head | apply Go.GX.TakeR.tail))) ?_; intro wd F hW hR
      refine GX.wT ?_; intros
      refine GX.gow ?_
      refine (cl (ints_same _ _ _ _ u.refs v.refs) fun _ => ?_)
      by_cases hr : u.refs = v.refs
      · have hr' := Classical.not_not.2 hr
        refine GX.wT ?_; intros
        refine GX.wR ?_; intros
        exact again (i + 1) ⟨rfl, rfl, rfl, trivial⟩ ⟨by omega, by
          have huv : u = v := by cases u; cases v; simp at ha hr; simp [*]
          subst huv
          exact take_eq_succ ht hu hv⟩ (by omega)
      · refine GX.wT ?_; intros
        refine GX.wR ?_; intros
        exact rt1 () (vN (hno fun h => hr (by rw [h])))
    · have ha2 : (u.arr != v.arr) = true := by simpa using ha
      refine GX.wR ?_; intros
      refine GX.drawn0  (fun j => !(List.contains [26] j)) [(0, true), (1, true), (2, true), (3, true), (4, true), (5, true), (6, true), (7, true), (8, true), (9, true), (10, true), (11, true), (12, true), (13, true), (14, true), (15, true), (16, true), (17, true), (18, true), (19, true), (20, true), (21, true), (22, true), (23, true), (24, true), (25, true), (26, false), (27, true), (28, true)] rfl (by kernel_rfl) (by kernel_rfl) (by first | ((repeat (first | apply Go.GX.SelR.nil | apply Go.GX.SelR.cons | (with_reducible apply Go.GX.TakeR.head) | apply Go.GX.TakeR.tail)); done) | (repeat (first | apply Go.GX.SelR.nil | apply Go.GX.SelR.cons | apply Go.GX.TakeR.head | apply Go.GX.TakeR.tail))) ?_; intro wd F hW hR
      refine GX.wT ?_; intros
      refine GX.wR ?_; intros
      exact rt1 () (vN (hno fun h => ha (by rw [h])))
  rw [List.take_of_length_le (by omega), List.take_of_length_le (by omega)] at ht
  clear hi
  refine GX.wR ?_; intros
  refine GX.loop (σ := Nat) (fun i => [(2, .pointer (some ⟨b2, 0, none⟩)), (3, .pointer (some ⟨b3, 0, none⟩)), (6, .int .i64 (i : Int))]) (fun _ => []) (fun _ => [])
    (fun i => i ≤ t.units.length ∧ t.units.take i = s.units.take i) (fun i => t.units.length - i) 0 ⟨rfl, rfl, rfl, trivial⟩ ⟨by omega, by simp⟩ (fun i hi => ?_)
  obtain ⟨hi, htu⟩ := hi
  by_cases hlt : i < t.units.length
  · obtain ⟨u, hu⟩ := get_lt hlt
    obtain ⟨v, hv⟩ := get_lt (show i < s.units.length by omega)
    have hno : u ≠ v → ¬ t = s := fun huv e => huv (by subst e; rw [hu] at hv; exact Option.some.inj hv)
    refine GX.wR ?_; intros
    refine GX.cut (σ := Nat × Nat) (fun q => [(2, .pointer (some ⟨b2, 0, none⟩)), (3, .pointer (some ⟨b3, 0, none⟩)), (6, .int .i64 (i : Int)), (7, .pointer (some ⟨q.1, 0, none⟩)), (8, .pointer (some ⟨q.2, 0, none⟩))]) (fun _ => []) (fun q => [Box 47 tyUnt q.1 u, Box 47 tyUnt q.2 v]) (fun _ => True) ?_ (fun q _ => ?_)
    · refine GX.drawnF (fun j => !(List.contains [13] j)) [(0, true), (1, true), (2, true), (3, true), (4, true), (5, true), (6, true), (7, true), (8, true), (9, true)] [(10, false), (11, false), (12, false), (13, false)] [(11, false), (10, false), (12, false), (13, false)] rfl (by kernel_rfl) (by kernel_rfl) ?_; intro wd F hW hR
      refine GX.wT ?_; intros
      refine GX.fork ?_ ?_
      · refine GX.wT ?_; intros
        refine GX.wR ?_; intros
        exact meet (_, _) ⟨rfl, rfl, rfl, rfl, rfl, trivial⟩ trivial
      · refine GX.wT ?_; intros
        refine GX.wR ?_; intros
        exact meet (_, _) ⟨rfl, rfl, rfl, rfl, rfl, trivial⟩ trivial
    · obtain ⟨b7, b8⟩ := q
      dsimp only
      refine frzB b7 ?_
      refine frzB b8 ?_
      by_cases g1 : u.params = v.params
      rotate_left
      · refine GX.wR ?_; intros
        exact rt1 () (vN (hno fun h => g1 (by rw [h])))
      by_cases g2 : u.result = v.result
      rotate_left
      · refine GX.wR ?_; intros
        exact rt1 () (vN (hno fun h => g2 (by rw [h])))
      refine GX.wR ?_; intros
      refine GX.o (cl (ints_same _ _ _ _ u.vars v.vars) fun _ => ?_)
      by_cases g3 : u.vars = v.vars
      rotate_left
      · refine GX.wR ?_; intros
        exact rt1 () (vN (hno fun h => g3 (by rw [h])))
      have g3' := Classical.not_not.2 g3
      refine GX.wR ?_; intros
      refine GX.o (cl (ints_same _ _ _ _ u.takes v.takes) fun _ => ?_)
      by_cases g4 : u.takes = v.takes
      rotate_left
      · refine GX.wR ?_; intros
        exact rt1 () (vN (hno fun h => g4 (by rw [h])))
      have g4' := Classical.not_not.2 g4
      refine GX.wR ?_; intros
      refine GX.o (cl (ints_same _ _ _ _ u.owns v.owns) fun _ => ?_)
      by_cases g5 : u.owns = v.owns
      rotate_left
      · refine GX.wR ?_; intros
        exact rt1 () (vN (hno fun h => g5 (by rw [h])))
      have g5' := Classical.not_not.2 g5
      by_cases g6 : u.ins.length = v.ins.length
      rotate_left
      · refine GX.wR ?_; intros
        exact rt1 () (vN (hno fun h => g6 (by rw [h])))
      refine GX.wR ?_; intros
      refine GX.loop (σ := Nat) (fun k => [(2, .pointer (some ⟨b2, 0, none⟩)), (3, .pointer (some ⟨b3, 0, none⟩)), (6, .int .i64 (i : Int)), (7, .pointer (some ⟨b7, 0, none⟩)), (8, .pointer (some ⟨b8, 0, none⟩)), (9, .int .i64 (k : Int))]) (fun _ => []) (fun _ => [])
        (fun k => k ≤ u.ins.length ∧ u.ins.take k = v.ins.take k) (fun k => u.ins.length - k) 0 ⟨rfl, rfl, rfl, rfl, rfl, rfl, trivial⟩ ⟨by omega, by simp⟩ (fun k hk => ?_)
      obtain ⟨hk, hti⟩ := hk
      by_cases hkl : k < u.ins.length
      · obtain ⟨x, hx⟩ := get_lt hkl
        obtain ⟨y, hy⟩ := get_lt (show k < v.ins.length by omega)
        refine GX.wR ?_; intros
        refine GX.drawn0  (fun j => !(List.contains [10] j)) [(0, true), (1, true), (2, true), (3, true), (4, true), (5, true), (6, true), (7, true), (8, true), (9, true), (10, false), (11, true)] rfl (by kernel_rfl) (by kernel_rfl) (by first | ((repeat (first | apply Go.GX.SelR.nil | apply Go.GX.SelR.cons | (with_reducible apply Go.GX.TakeR.head) | apply Go.GX.TakeR.tail)); done) | (repeat (first | apply Go.GX.SelR.nil | apply Go.GX.SelR.cons | apply Go.GX.TakeR.head | apply Go.GX.TakeR.tail))) ?_; intro wd F hW hR
        refine GX.wT ?_; intros
        refine GX.gow ?_
        refine (cl (sameIns_spec _ _ x y) fun _ => ?_)
        by_cases hxy : x = y
        · have hxy' := Classical.not_not.2 hxy
          refine GX.wT ?_; intros
          refine GX.wR ?_; intros
          subst hxy
          exact again (k + 1) ⟨rfl, rfl, rfl, rfl, rfl, rfl, trivial⟩ ⟨by omega, take_eq_succ hti hx hy⟩ (by omega)
        · refine GX.wT ?_; intros
          refine GX.wR ?_; intros
          exact rt1 () (vN (hno fun h => hxy (by subst h; rw [hx] at hy; exact Option.some.inj hy)))
      · rw [List.take_of_length_le (by omega), List.take_of_length_le (by omega)] at hti
        have huv : u = v := by cases u; cases v; simp at g1 g2 g3 g4 g5 hti; simp [*]
        refine GX.wR ?_; intros
        subst huv
        exact again (i + 1) ⟨rfl, rfl, rfl, trivial⟩ ⟨by omega, take_eq_succ htu hu hv⟩ (by omega)
  · rw [List.take_of_length_le (by omega), List.take_of_length_le (by omega)] at htu
    refine GX.wR ?_; intros
    exact rt1 () (vY (by cases t; cases s; simp at h1 h2 ht htu; simp [*]))
end Go.Proofs.Ytdkhfjcbhpfkoaa
