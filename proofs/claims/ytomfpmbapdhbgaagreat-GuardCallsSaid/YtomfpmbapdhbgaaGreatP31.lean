import Derived.Test.YtomfpmbapdhbgaaGreatP10
import Derived.Test.YtomfpmbapdhbgaaGreatP14
import Derived.Test.YtomfpmbapdhbgaaGreatP28
/- The walk over NextOf of the reference of chapter 15. -/
namespace Go.Proofs.YtomfpmbapdhbgaaGreat
open Go Go.RR Go.RX Go.GX Go.Api Go.FlowM Go.RiseM
attribute [local irreducible] wpList Code.wp wpPlan Exit.then Exit.inBlock bodyPost NoPanic Went GX.Post GX.Again GX.Meet GX.RowR GX.Own GX.Owns GX.Box GX.Sl GX.Pt GX.Ag GX.MapR GX.Kept GX.Pin

/-- How far the targets are gone through. -/
def some_ (x : Ins) (n : Nat) (k : Int) (i : Nat) : List Int := puts (((targets x k).take i).filter fun y => decide (In n y))
theorem some_succ {x : Ins} {n : Nat} {k : Int} {i : Nat} {y : Int} (hy : (targets x k)[i]? = some y) : some_ x n k (i + 1) = if In n y then put (some_ x n k i) y else some_ x n k i := by
  unfold some_
  rw [List.take_add_one, hy, List.filter_append]
  split
  · rename_i h
    rw [show (List.filter (fun y => decide (In n y)) (some y).toList) = [y] by simp [h]]
    exact puts_snoc _ _
  · rename_i h
    rw [show (List.filter (fun y => decide (In n y)) (some y).toList) = [] by simp [h], List.append_nil]
theorem targets_len (x : Ins) (k : Int) : (targets x k).length ≤ 2 := by unfold targets; (repeat' split) <;> simp
theorem puts_len (l : List Int) : (puts l).length ≤ l.length := by
  have key : ∀ (l acc : List Int), (l.foldl put acc).length ≤ acc.length + l.length := by
    intro l
    induction l with
    | nil => intro acc; simp
    | cons y l ih =>
      intro acc
      have h1 := ih (put acc y)
      have h2 := put_len acc y
      rw [List.foldl_cons, List.length_cons]; omega
  simpa [puts] using key l []
theorem some_len (x : Ins) (n : Nat) (k : Int) (i : Nat) : (some_ x n k i).length ≤ 2 := by
  have h1 := puts_len (((targets x k).take i).filter fun y => decide (In n y))
  have h2 := List.length_filter_le (fun y => decide (In n y)) ((targets x k).take i)
  have h3 := targets_len x k
  rw [List.length_take] at h2
  unfold some_; omega

theorem nextOf_spec (ao : Option Addr) (cap : Nat) (ins : List Ins) (k : Nat) (x : Ins) (hx : ins[k]? = some x) : Does Tryz.prog 66 [.slice ao ins.length cap, .int .i64 (k : Int)] [Sl tyIns ao cap ins] []
    (fun s : Option Addr × Nat => .slice s.1 (nextOf x ins.length k).length s.2) (fun s => [Sl Ty.int s.1 s.2 (nextOf x ins.length k)]) (fun _ => []) := by
  have hk := (List.getElem?_eq_some_iff.1 hx).1
  refine enter Tryz.func66 rfl Tryz.ntmps66 rfl fun b => ?_
  refine sln ao fun hl1 hl2 _ => ?_
  repeat (first | (apply GX.s_list; first | apply GX.nil | (refine GX.o ?_; first | (apply GX.k_load; first | refine GX.lr ?_ | refine GX.lrA ?_ | refine GX.ln ?_ | refine GX.lb ?_ | refine GX.lh ?_ | (refine GX.ls ?_; intro ao cap _ _) | (refine GX.lA ?_; intro cs) | (refine GX.l0 ?_; intro cs) | refine GX.o1n ?_ | refine GX.o1b ?_ | refine GX.o1h ?_ | (refine GX.o1s ?_; intro ao cap _ _) | refine GX.omn ?_ | refine GX.omb ?_ | refine GX.omh ?_ | (refine GX.oms ?_; intro ao cap _ _) | refine GX.ofn ?_ | refine GX.ofb ?_ | refine GX.ofh ?_ | (refine GX.ofs ?_; intro ao cap _ _) | (refine GX.oA ?_; intro cs)) | (apply GX.k_move; refine GX.m ?_) | (apply GX.k_indexAddr; first | refine GX.io1 ?_ | refine GX.ioh ?_ | refine GX.i1 ?_ | refine GX.ih ?_ | (refine GX.ix ?_; intro bl o)) | (apply GX.k_binOp_lss; refine GX.b_lss ?_) | (apply GX.k_binOp_add; first | refine GX.b_inc ?_ | refine GX.b_add ?_ | refine GX.b_addw ?_) | (apply GX.k_assign; refine GX.a ?_) | (apply GX.k_fieldAddr; first | refine GX.f0 ?_ | refine GX.fh ?_ | refine GX.fa ?_) | (apply GX.k_call; refine GX.c_len ?_) | (apply GX.k_pick; first | refine GX.pt ?_ | refine GX.pf ?_ | refine GX.pk ?_) | (apply GX.k_buildSlice; (refine GX.sl ?_; intro _)) | (apply GX.k_binOp_eql; first | refine GX.b_eql ?_ | refine GX.b_pn ?_ | refine GX.b_nn ?_ | refine GX.b_snn ?_ | refine GX.b_sns ?_ | refine GX.b_eqls ?_ | refine GX.b_eqltf ?_ | refine GX.b_eqlft ?_ | refine GX.b_eqlb ?_) | (apply GX.k_binOp_geq; refine GX.b_geq ?_)) | refine GX.gt ?_ | refine GX.gf ?_ | refine GX.gbt ?_ | refine GX.gbf ?_ | refine GX.un ?_ | refine GX.un0 ?_) | apply GX.then_normal | apply GX.seq | apply GX.region | (apply GX.s_cond; first | refine GX.ct ?_ | refine GX.cf ?_ | refine GX.cdf ?_ | refine GX.cdt ?_ | refine GX.cbt ?_ | refine GX.cbf ?_) | apply GX.skip | apply GX.inBlock_normal | apply GX.exit | apply GX.then_exit | apply GX.inBlock_exit | refine GX.ibo ?_ | apply GX.ret | apply GX.then_ret | apply GX.inBlock_ret)
  refine GX.cut (σ := Option Addr × Nat) (fun s => [(0, .slice ao ins.length cap), (1, .int .i64 (k : Int)), (4, .slice none 0 0), (5, .slice s.1 (targets x k).length s.2)]) (fun s => [Sl Ty.int s.1 s.2 (targets x k)]) (fun _ => []) (fun _ => True) ?_ (fun s _ => ?_)
  · by_cases e18 : x.op = 18
    · have e : targets x (k : Int) = [] := by unfold targets; rw [if_pos e18]
      repeat (first | (apply GX.s_list; first | apply GX.nil | (refine GX.o ?_; first | (apply GX.k_load; first | refine GX.lr ?_ | refine GX.lrA ?_ | refine GX.ln ?_ | refine GX.lb ?_ | refine GX.lh ?_ | (refine GX.ls ?_; intro ao cap _ _) | (refine GX.lA ?_; intro cs) | (refine GX.l0 ?_; intro cs) | refine GX.o1n ?_ | refine GX.o1b ?_ | refine GX.o1h ?_ | (refine GX.o1s ?_; intro ao cap _ _) | refine GX.omn ?_ | refine GX.omb ?_ | refine GX.omh ?_ | (refine GX.oms ?_; intro ao cap _ _) | refine GX.ofn ?_ | refine GX.ofb ?_ | refine GX.ofh ?_ | (refine GX.ofs ?_; intro ao cap _ _) | (refine GX.oA ?_; intro cs)) | (apply GX.k_move; refine GX.m ?_) | (apply GX.k_indexAddr; first | refine GX.io1 ?_ | refine GX.ioh ?_ | refine GX.i1 ?_ | refine GX.ih ?_ | (refine GX.ix ?_; intro bl o)) | (apply GX.k_binOp_lss; refine GX.b_lss ?_) | (apply GX.k_binOp_add; first | refine GX.b_inc ?_ | refine GX.b_add ?_ | refine GX.b_addw ?_) | (apply GX.k_assign; refine GX.a ?_) | (apply GX.k_fieldAddr; first | refine GX.f0 ?_ | refine GX.fh ?_ | refine GX.fa ?_) | (apply GX.k_call; refine GX.c_len ?_) | (apply GX.k_pick; first | refine GX.pt ?_ | refine GX.pf ?_ | refine GX.pk ?_) | (apply GX.k_buildSlice; (refine GX.sl ?_; intro _)) | (apply GX.k_binOp_eql; first | refine GX.b_eql ?_ | refine GX.b_pn ?_ | refine GX.b_nn ?_ | refine GX.b_snn ?_ | refine GX.b_sns ?_ | refine GX.b_eqls ?_ | refine GX.b_eqltf ?_ | refine GX.b_eqlft ?_ | refine GX.b_eqlb ?_) | (apply GX.k_binOp_geq; refine GX.b_geq ?_)) | refine GX.gt ?_ | refine GX.gf ?_ | refine GX.gbt ?_ | refine GX.gbf ?_ | refine GX.un ?_ | refine GX.un0 ?_) | apply GX.then_normal | apply GX.seq | apply GX.region | (apply GX.s_cond; first | refine GX.ct ?_ | refine GX.cf ?_ | refine GX.cdf ?_ | refine GX.cdt ?_ | refine GX.cbt ?_ | refine GX.cbf ?_) | apply GX.skip | apply GX.block | apply GX.inBlock_normal | apply GX.exit | apply GX.then_exit | apply GX.inBlock_exit | refine GX.ibo ?_ | apply GX.ret | apply GX.then_ret | apply GX.inBlock_ret)
      refine slNil Ty.int ?_
      exact meet (none, 0) ⟨rfl, rfl, rfl, by rw [e]; rfl, trivial⟩ trivial (h1 := by rw [e]; ((repeat (first | apply Go.GX.AllIn.nil | apply Go.GX.AllIn.cons | (with_reducible apply Go.GX.InP.head) | apply Go.GX.InP.tail)); done))
    · by_cases e16 : x.op = 16
      · have e : targets x (k : Int) = [x.n] := by unfold targets; rw [if_neg e18, if_pos e16]
        repeat (first | (apply GX.s_list; first | apply GX.nil | (refine GX.o ?_; first | (apply GX.k_load; first | refine GX.lr ?_ | refine GX.lrA ?_ | refine GX.ln ?_ | refine GX.lb ?_ | refine GX.lh ?_ | (refine GX.ls ?_; intro ao cap _ _) | (refine GX.lA ?_; intro cs) | (refine GX.l0 ?_; intro cs) | refine GX.o1n ?_ | refine GX.o1b ?_ | refine GX.o1h ?_ | (refine GX.o1s ?_; intro ao cap _ _) | refine GX.omn ?_ | refine GX.omb ?_ | refine GX.omh ?_ | (refine GX.oms ?_; intro ao cap _ _) | refine GX.ofn ?_ | refine GX.ofb ?_ | refine GX.ofh ?_ | (refine GX.ofs ?_; intro ao cap _ _) | (refine GX.oA ?_; intro cs)) | (apply GX.k_move; refine GX.m ?_) | (apply GX.k_indexAddr; first | refine GX.io1 ?_ | refine GX.ioh ?_ | refine GX.i1 ?_ | refine GX.ih ?_ | (refine GX.ix ?_; intro bl o)) | (apply GX.k_binOp_lss; refine GX.b_lss ?_) | (apply GX.k_binOp_add; first | refine GX.b_inc ?_ | refine GX.b_add ?_ | refine GX.b_addw ?_) | (apply GX.k_assign; refine GX.a ?_) | (apply GX.k_fieldAddr; first | refine GX.f0 ?_ | refine GX.fh ?_ | refine GX.fa ?_) | (apply GX.k_call; refine GX.c_len ?_) | (apply GX.k_pick; first | refine GX.pt ?_ | refine GX.pf ?_ | refine GX.pk ?_) | (apply GX.k_buildSlice; (refine GX.sl ?_; intro _)) | (apply GX.k_binOp_eql; first | refine GX.b_eql ?_ | refine GX.b_pn ?_ | refine GX.b_nn ?_ | refine GX.b_snn ?_ | refine GX.b_sns ?_ | refine GX.b_eqls ?_ | refine GX.b_eqltf ?_ | refine GX.b_eqlft ?_ | refine GX.b_eqlb ?_) | (apply GX.k_binOp_geq; refine GX.b_geq ?_)) | refine GX.gt ?_ | refine GX.gf ?_ | refine GX.gbt ?_ | refine GX.gbf ?_ | refine GX.un ?_ | refine GX.un0 ?_) | apply GX.then_normal | apply GX.seq | apply GX.region | (apply GX.s_cond; first | refine GX.ct ?_ | refine GX.cf ?_ | refine GX.cdf ?_ | refine GX.cdt ?_ | refine GX.cbt ?_ | refine GX.cbf ?_) | apply GX.skip | apply GX.block | apply GX.inBlock_normal | apply GX.exit | apply GX.then_exit | apply GX.inBlock_exit | refine GX.ibo ?_ | apply GX.ret | apply GX.then_ret | apply GX.inBlock_ret)
        exact meet (_, _) ⟨rfl, rfl, rfl, by rw [e]; rfl, trivial⟩ trivial (h1 := by rw [e]; ((repeat (first | apply Go.GX.AllIn.nil | apply Go.GX.AllIn.cons | (with_reducible apply Go.GX.InP.head) | apply Go.GX.InP.tail)); done))
      · by_cases e17 : x.op = 17
        · have e : targets x (k : Int) = [x.n, x.c] := by unfold targets; rw [if_neg e18, if_neg e16, if_pos e17]
          repeat (first | (apply GX.s_list; first | apply GX.nil | (refine GX.o ?_; first | (apply GX.k_load; first | refine GX.lr ?_ | refine GX.lrA ?_ | refine GX.ln ?_ | refine GX.lb ?_ | refine GX.lh ?_ | (refine GX.ls ?_; intro ao cap _ _) | (refine GX.lA ?_; intro cs) | (refine GX.l0 ?_; intro cs) | refine GX.o1n ?_ | refine GX.o1b ?_ | refine GX.o1h ?_ | (refine GX.o1s ?_; intro ao cap _ _) | refine GX.omn ?_ | refine GX.omb ?_ | refine GX.omh ?_ | (refine GX.oms ?_; intro ao cap _ _) | refine GX.ofn ?_ | refine GX.ofb ?_ | refine GX.ofh ?_ | (refine GX.ofs ?_; intro ao cap _ _) | (refine GX.oA ?_; intro cs)) | (apply GX.k_move; refine GX.m ?_) | (apply GX.k_indexAddr; first | refine GX.io1 ?_ | refine GX.ioh ?_ | refine GX.i1 ?_ | refine GX.ih ?_ | (refine GX.ix ?_; intro bl o)) | (apply GX.k_binOp_lss; refine GX.b_lss ?_) | (apply GX.k_binOp_add; first | refine GX.b_inc ?_ | refine GX.b_add ?_ | refine GX.b_addw ?_) | (apply GX.k_assign; refine GX.a ?_) | (apply GX.k_fieldAddr; first | refine GX.f0 ?_ | refine GX.fh ?_ | refine GX.fa ?_) | (apply GX.k_call; refine GX.c_len ?_) | (apply GX.k_pick; first | refine GX.pt ?_ | refine GX.pf ?_ | refine GX.pk ?_) | (apply GX.k_buildSlice; (refine GX.sl ?_; intro _)) | (apply GX.k_binOp_eql; first | refine GX.b_eql ?_ | refine GX.b_pn ?_ | refine GX.b_nn ?_ | refine GX.b_snn ?_ | refine GX.b_sns ?_ | refine GX.b_eqls ?_ | refine GX.b_eqltf ?_ | refine GX.b_eqlft ?_ | refine GX.b_eqlb ?_) | (apply GX.k_binOp_geq; refine GX.b_geq ?_)) | refine GX.gt ?_ | refine GX.gf ?_ | refine GX.gbt ?_ | refine GX.gbf ?_ | refine GX.un ?_ | refine GX.un0 ?_) | apply GX.then_normal | apply GX.seq | apply GX.region | (apply GX.s_cond; first | refine GX.ct ?_ | refine GX.cf ?_ | refine GX.cdf ?_ | refine GX.cdt ?_ | refine GX.cbt ?_ | refine GX.cbf ?_) | apply GX.skip | apply GX.block | apply GX.inBlock_normal | apply GX.exit | apply GX.then_exit | apply GX.inBlock_exit | refine GX.ibo ?_ | apply GX.ret | apply GX.then_ret | apply GX.inBlock_ret)
          refine GX.drawn0  (fun j => !(List.contains [10] j)) [(0, true), (1, true), (2, true), (3, true), (4, true), (5, true), (6, true), (7, true), (8, true), (9, true), (10, false), (11, true)] rfl (by kernel_rfl) (by kernel_rfl) (by first | ((repeat (first | apply Go.GX.SelR.nil | apply Go.GX.SelR.cons | (with_reducible apply Go.GX.TakeR.head) | apply Go.GX.TakeR.tail)); done) | (repeat (first | apply Go.GX.SelR.nil | apply Go.GX.SelR.cons | apply Go.GX.TakeR.head | apply Go.GX.TakeR.tail))) ?_; intro wd F hW hR
          repeat (first | (apply GX.s_take; first | (refine GX.tkp ?_; first | (apply GX.t_move; refine GX.tm ?_) | (apply GX.t_indexAddr; first | refine GX.ti1 ?_ | refine GX.tih ?_) | (apply GX.t_fieldAddr; first | refine GX.tf0 ?_ | refine GX.tfh ?_ | refine GX.tfa ?_)) | ((first | refine GX.tkr ?_ | refine GX.tkrE ?_); first | (apply GX.r_load; first | refine GX.rlr ?_ | refine GX.rlrA ?_ | refine GX.rln ?_ | refine GX.rlb ?_ | refine GX.rlh ?_ | (refine GX.rls ?_; intro ao cap _ _ _) | (refine GX.rlA ?_; intro cs _) | (refine GX.rl0 ?_; intro cs _) | refine GX.ro1n ?_ | refine GX.ro1b ?_ | refine GX.ro1h ?_ | (refine GX.ro1s ?_; intro ao cap _ _ _) | refine GX.romn ?_ | refine GX.romb ?_ | refine GX.romh ?_ | (refine GX.roms ?_; intro ao cap _ _ _) | refine GX.rofn ?_ | refine GX.rofb ?_ | refine GX.rofh ?_ | (refine GX.rofs ?_; intro ao cap _ _ _) | (refine GX.roA ?_; intro cs _)) | (apply GX.r_indexAddr; first | refine GX.rio1 ?_ | refine GX.rioh ?_ | (refine GX.rix ?_; intro bl o _)) | (apply GX.r_assign; refine GX.ra ?_)) | (refine GX.tkx ?_; first | (refine GX.xix ?_; intro _ _ _)) | refine GX.pgt ?_ | refine GX.pgf ?_ | refine GX.pgbt ?_ | refine GX.pgbf ?_ | refine GX.tkn ?_ | refine GX.tknE ?_) | (apply GX.s_go; first | (refine GX.gow ?_; first | (apply GX.k_load; first | refine GX.lr ?_ | refine GX.lrA ?_ | refine GX.ln ?_ | refine GX.lb ?_ | refine GX.lh ?_ | (refine GX.ls ?_; intro ao cap _ _) | (refine GX.lA ?_; intro cs) | (refine GX.l0 ?_; intro cs) | refine GX.o1n ?_ | refine GX.o1b ?_ | refine GX.o1h ?_ | (refine GX.o1s ?_; intro ao cap _ _) | refine GX.omn ?_ | refine GX.omb ?_ | refine GX.omh ?_ | (refine GX.oms ?_; intro ao cap _ _) | refine GX.ofn ?_ | refine GX.ofb ?_ | refine GX.ofh ?_ | (refine GX.ofs ?_; intro ao cap _ _) | (refine GX.oA ?_; intro cs)) | (apply GX.k_move; refine GX.m ?_) | (apply GX.k_indexAddr; first | refine GX.io1 ?_ | refine GX.ioh ?_ | refine GX.i1 ?_ | refine GX.ih ?_ | (refine GX.ix ?_; intro bl o)) | (apply GX.k_assign; refine GX.a ?_) | (apply GX.k_fieldAddr; first | refine GX.f0 ?_ | refine GX.fh ?_ | refine GX.fa ?_) | (apply GX.k_buildSlice; (refine GX.sl ?_; intro _))) | refine GX.pgt ?_ | refine GX.pgf ?_ | refine GX.pgbt ?_ | refine GX.pgbf ?_ | refine GX.gon ?_) | (apply GX.s_went; first | refine GX.wentF ?_ | refine GX.went ?_ | refine GX.wentE ?_) | apply GX.done)
          repeat (first | (apply GX.s_list; first | apply GX.nil | (refine GX.o ?_; first | (apply GX.k_load; first | refine GX.lr ?_ | refine GX.lrA ?_ | refine GX.ln ?_ | refine GX.lb ?_ | refine GX.lh ?_ | (refine GX.ls ?_; intro ao cap _ _) | (refine GX.lA ?_; intro cs) | (refine GX.l0 ?_; intro cs) | refine GX.o1n ?_ | refine GX.o1b ?_ | refine GX.o1h ?_ | (refine GX.o1s ?_; intro ao cap _ _) | refine GX.omn ?_ | refine GX.omb ?_ | refine GX.omh ?_ | (refine GX.oms ?_; intro ao cap _ _) | refine GX.ofn ?_ | refine GX.ofb ?_ | refine GX.ofh ?_ | (refine GX.ofs ?_; intro ao cap _ _) | (refine GX.oA ?_; intro cs)) | (apply GX.k_move; refine GX.m ?_) | (apply GX.k_indexAddr; first | refine GX.io1 ?_ | refine GX.ioh ?_ | refine GX.i1 ?_ | refine GX.ih ?_ | (refine GX.ix ?_; intro bl o)) | (apply GX.k_binOp_lss; refine GX.b_lss ?_) | (apply GX.k_binOp_add; first | refine GX.b_inc ?_ | refine GX.b_add ?_ | refine GX.b_addw ?_) | (apply GX.k_assign; refine GX.a ?_) | (apply GX.k_fieldAddr; first | refine GX.f0 ?_ | refine GX.fh ?_ | refine GX.fa ?_) | (apply GX.k_call; refine GX.c_len ?_) | (apply GX.k_pick; first | refine GX.pt ?_ | refine GX.pf ?_ | refine GX.pk ?_) | (apply GX.k_buildSlice; (refine GX.sl ?_; intro _)) | (apply GX.k_binOp_eql; first | refine GX.b_eql ?_ | refine GX.b_pn ?_ | refine GX.b_nn ?_ | refine GX.b_snn ?_ | refine GX.b_sns ?_ | refine GX.b_eqls ?_ | refine GX.b_eqltf ?_ | refine GX.b_eqlft ?_ | refine GX.b_eqlb ?_) | (apply GX.k_binOp_geq; refine GX.b_geq ?_)) | refine GX.gt ?_ | refine GX.gf ?_ | refine GX.gbt ?_ | refine GX.gbf ?_ | refine GX.un ?_ | refine GX.un0 ?_) | apply GX.then_normal | apply GX.seq | apply GX.region | (apply GX.s_cond; first | refine GX.ct ?_ | refine GX.cf ?_ | refine GX.cdf ?_ | refine GX.cdt ?_ | refine GX.cbt ?_ | refine GX.cbf ?_) | apply GX.skip | apply GX.block | apply GX.inBlock_normal | apply GX.exit | apply GX.then_exit | apply GX.inBlock_exit | refine GX.ibo ?_ | apply GX.ret | apply GX.then_ret | apply GX.inBlock_ret)
          exact meet (_, _) ⟨rfl, rfl, rfl, by rw [e]; rfl, trivial⟩ trivial (h1 := by rw [e]; ((repeat (first | apply Go.GX.AllIn.nil | apply Go.GX.AllIn.cons | (with_reducible apply Go.GX.InP.head) | apply Go.GX.InP.tail)); done))
        · have e : targets x (k : Int) = [((k + 1 : Nat) : Int)] := by unfold targets; rw [if_neg e18, if_neg e16, if_neg e17]; rfl
          repeat (first | (apply GX.s_list; first | apply GX.nil | (refine GX.o ?_; first | (apply GX.k_load; first | refine GX.lr ?_ | refine GX.lrA ?_ | refine GX.ln ?_ | refine GX.lb ?_ | refine GX.lh ?_ | (refine GX.ls ?_; intro ao cap _ _) | (refine GX.lA ?_; intro cs) | (refine GX.l0 ?_; intro cs) | refine GX.o1n ?_ | refine GX.o1b ?_ | refine GX.o1h ?_ | (refine GX.o1s ?_; intro ao cap _ _) | refine GX.omn ?_ | refine GX.omb ?_ | refine GX.omh ?_ | (refine GX.oms ?_; intro ao cap _ _) | refine GX.ofn ?_ | refine GX.ofb ?_ | refine GX.ofh ?_ | (refine GX.ofs ?_; intro ao cap _ _) | (refine GX.oA ?_; intro cs)) | (apply GX.k_move; refine GX.m ?_) | (apply GX.k_indexAddr; first | refine GX.io1 ?_ | refine GX.ioh ?_ | refine GX.i1 ?_ | refine GX.ih ?_ | (refine GX.ix ?_; intro bl o)) | (apply GX.k_binOp_lss; refine GX.b_lss ?_) | (apply GX.k_binOp_add; first | refine GX.b_inc ?_ | refine GX.b_add ?_ | refine GX.b_addw ?_) | (apply GX.k_assign; refine GX.a ?_) | (apply GX.k_fieldAddr; first | refine GX.f0 ?_ | refine GX.fh ?_ | refine GX.fa ?_) | (apply GX.k_call; refine GX.c_len ?_) | (apply GX.k_pick; first | refine GX.pt ?_ | refine GX.pf ?_ | refine GX.pk ?_) | (apply GX.k_buildSlice; (refine GX.sl ?_; intro _)) | (apply GX.k_binOp_eql; first | refine GX.b_eql ?_ | refine GX.b_pn ?_ | refine GX.b_nn ?_ | refine GX.b_snn ?_ | refine GX.b_sns ?_ | refine GX.b_eqls ?_ | refine GX.b_eqltf ?_ | refine GX.b_eqlft ?_ | refine GX.b_eqlb ?_) | (apply GX.k_binOp_geq; refine GX.b_geq ?_)) | refine GX.gt ?_ | refine GX.gf ?_ | refine GX.gbt ?_ | refine GX.gbf ?_ | refine GX.un ?_ | refine GX.un0 ?_) | apply GX.then_normal | apply GX.seq | apply GX.region | (apply GX.s_cond; first | refine GX.ct ?_ | refine GX.cf ?_ | refine GX.cdf ?_ | refine GX.cdt ?_ | refine GX.cbt ?_ | refine GX.cbf ?_) | apply GX.skip | apply GX.block | apply GX.inBlock_normal | apply GX.exit | apply GX.then_exit | apply GX.inBlock_exit | refine GX.ibo ?_ | apply GX.ret | apply GX.then_ret | apply GX.inBlock_ret)
          exact meet (_, _) ⟨rfl, rfl, rfl, by rw [e]; rfl, trivial⟩ trivial (h1 := by rw [e]; ((repeat (first | apply Go.GX.AllIn.nil | apply Go.GX.AllIn.cons | (with_reducible apply Go.GX.InP.head) | apply Go.GX.InP.tail)); done))
  · obtain ⟨a5, c5⟩ := s
    dsimp only
    have h4 := targets_len x k
    repeat (first | (apply GX.s_list; first | apply GX.nil | (refine GX.o ?_; first | (apply GX.k_load; first | refine GX.lr ?_ | refine GX.lrA ?_ | refine GX.ln ?_ | refine GX.lb ?_ | refine GX.lh ?_ | (refine GX.ls ?_; intro ao cap _ _) | (refine GX.lA ?_; intro cs) | (refine GX.l0 ?_; intro cs) | refine GX.o1n ?_ | refine GX.o1b ?_ | refine GX.o1h ?_ | (refine GX.o1s ?_; intro ao cap _ _) | refine GX.omn ?_ | refine GX.omb ?_ | refine GX.omh ?_ | (refine GX.oms ?_; intro ao cap _ _) | refine GX.ofn ?_ | refine GX.ofb ?_ | refine GX.ofh ?_ | (refine GX.ofs ?_; intro ao cap _ _) | (refine GX.oA ?_; intro cs)) | (apply GX.k_move; refine GX.m ?_) | (apply GX.k_indexAddr; first | refine GX.io1 ?_ | refine GX.ioh ?_ | refine GX.i1 ?_ | refine GX.ih ?_ | (refine GX.ix ?_; intro bl o)) | (apply GX.k_binOp_lss; refine GX.b_lss ?_) | (apply GX.k_binOp_add; first | refine GX.b_inc ?_ | refine GX.b_add ?_ | refine GX.b_addw ?_) | (apply GX.k_assign; refine GX.a ?_) | (apply GX.k_fieldAddr; first | refine GX.f0 ?_ | refine GX.fh ?_ | refine GX.fa ?_) | (apply GX.k_call; refine GX.c_len ?_) | (apply GX.k_pick; first | refine GX.pt ?_ | refine GX.pf ?_ | refine GX.pk ?_) | (apply GX.k_buildSlice; (refine GX.sl ?_; intro _)) | (apply GX.k_binOp_eql; first | refine GX.b_eql ?_ | refine GX.b_pn ?_ | refine GX.b_nn ?_ | refine GX.b_snn ?_ | refine GX.b_sns ?_ | refine GX.b_eqls ?_ | refine GX.b_eqltf ?_ | refine GX.b_eqlft ?_ | refine GX.b_eqlb ?_) | (apply GX.k_binOp_geq; refine GX.b_geq ?_)) | refine GX.gt ?_ | refine GX.gf ?_ | refine GX.gbt ?_ | refine GX.gbf ?_ | refine GX.un ?_ | refine GX.un0 ?_) | apply GX.then_normal | apply GX.seq | apply GX.region | (apply GX.s_cond; first | refine GX.ct ?_ | refine GX.cf ?_ | refine GX.cdf ?_ | refine GX.cdt ?_ | refine GX.cbt ?_ | refine GX.cbf ?_) | apply GX.skip | apply GX.block | apply GX.inBlock_normal | apply GX.exit | apply GX.then_exit | apply GX.inBlock_exit | refine GX.ibo ?_ | apply GX.ret | apply GX.then_ret | apply GX.inBlock_ret)
    refine slNil Ty.int ?_
    refine GX.loop (σ := Nat × Option Addr × Nat) (fun s => [(0, .slice ao ins.length cap), (1, .int .i64 (k : Int)), (5, .slice a5 (targets x k).length c5), (6, .slice s.2.1 (some_ x ins.length k s.1).length s.2.2), (7, .int .i64 (s.1 : Int))]) (fun s => [Sl Ty.int s.2.1 s.2.2 (some_ x ins.length k s.1)]) (fun _ => [])
      (fun s => s.1 ≤ (targets x k).length) (fun s => (targets x k).length - s.1) (0, none, 0) ⟨rfl, rfl, rfl, rfl, rfl, trivial⟩ (by simp) (fun s hs => ?_)
    obtain ⟨i, a6, c6⟩ := s
    dsimp only at *
    have h5 := some_len x ins.length k i
    by_cases hlt : i < (targets x k).length
    · obtain ⟨y, hy⟩ := get_lt hlt
      have h6 := some_succ (n := ins.length) hy
      by_cases h7 : 0 ≤ y
      · by_cases h8 : y < ins.length
        · rw [if_pos ⟨h7, h8⟩] at h6
          repeat (first | (apply GX.s_list; first | apply GX.nil | (refine GX.o ?_; first | (apply GX.k_load; first | refine GX.lr ?_ | refine GX.lrA ?_ | refine GX.ln ?_ | refine GX.lb ?_ | refine GX.lh ?_ | (refine GX.ls ?_; intro ao cap _ _) | (refine GX.lA ?_; intro cs) | (refine GX.l0 ?_; intro cs) | refine GX.o1n ?_ | refine GX.o1b ?_ | refine GX.o1h ?_ | (refine GX.o1s ?_; intro ao cap _ _) | refine GX.omn ?_ | refine GX.omb ?_ | refine GX.omh ?_ | (refine GX.oms ?_; intro ao cap _ _) | refine GX.ofn ?_ | refine GX.ofb ?_ | refine GX.ofh ?_ | (refine GX.ofs ?_; intro ao cap _ _) | (refine GX.oA ?_; intro cs)) | (apply GX.k_move; refine GX.m ?_) | (apply GX.k_indexAddr; first | refine GX.io1 ?_ | refine GX.ioh ?_ | refine GX.i1 ?_ | refine GX.ih ?_ | (refine GX.ix ?_; intro bl o)) | (apply GX.k_binOp_lss; refine GX.b_lss ?_) | (apply GX.k_binOp_add; first | refine GX.b_inc ?_ | refine GX.b_add ?_ | refine GX.b_addw ?_) | (apply GX.k_assign; refine GX.a ?_) | (apply GX.k_fieldAddr; first | refine GX.f0 ?_ | refine GX.fh ?_ | refine GX.fa ?_) | (apply GX.k_call; refine GX.c_len ?_) | (apply GX.k_pick; first | refine GX.pt ?_ | refine GX.pf ?_ | refine GX.pk ?_) | (apply GX.k_buildSlice; (refine GX.sl ?_; intro _)) | (apply GX.k_binOp_eql; first | refine GX.b_eql ?_ | refine GX.b_pn ?_ | refine GX.b_nn ?_ | refine GX.b_snn ?_ | refine GX.b_sns ?_ | refine GX.b_eqls ?_ | refine GX.b_eqltf ?_ | refine GX.b_eqlft ?_ | refine GX.b_eqlb ?_) | (apply GX.k_binOp_geq; refine GX.b_geq ?_)) | refine GX.gt ?_ | refine GX.gf ?_ | refine GX.gbt ?_ | refine GX.gbf ?_ | refine GX.un ?_ | refine GX.un0 ?_) | apply GX.then_normal | apply GX.seq | apply GX.region | (apply GX.s_cond; first | refine GX.ct ?_ | refine GX.cf ?_ | refine GX.cdf ?_ | refine GX.cdt ?_ | refine GX.cbt ?_ | refine GX.cbf ?_) | apply GX.skip | apply GX.block | apply GX.inBlock_normal | apply GX.exit | apply GX.then_exit | apply GX.inBlock_exit | refine GX.ibo ?_ | apply GX.ret | apply GX.then_ret | apply GX.inBlock_ret)
          refine GX.o (cl (put_spec a6 c6 (some_ x ins.length k i) y (puts_spec _).1 (by omega)) fun s => ?_)
          obtain ⟨a9, c9⟩ := s
          dsimp only
          rw [← h6]
          repeat (first | (apply GX.s_list; first | apply GX.nil | (refine GX.o ?_; first | (apply GX.k_load; first | refine GX.lr ?_ | refine GX.lrA ?_ | refine GX.ln ?_ | refine GX.lb ?_ | refine GX.lh ?_ | (refine GX.ls ?_; intro ao cap _ _) | (refine GX.lA ?_; intro cs) | (refine GX.l0 ?_; intro cs) | refine GX.o1n ?_ | refine GX.o1b ?_ | refine GX.o1h ?_ | (refine GX.o1s ?_; intro ao cap _ _) | refine GX.omn ?_ | refine GX.omb ?_ | refine GX.omh ?_ | (refine GX.oms ?_; intro ao cap _ _) | refine GX.ofn ?_ | refine GX.ofb ?_ | refine GX.ofh ?_ | (refine GX.ofs ?_; intro ao cap _ _) | (refine GX.oA ?_; intro cs)) | (apply GX.k_move; refine GX.m ?_) | (apply GX.k_indexAddr; first | refine GX.io1 ?_ | refine GX.ioh ?_ | refine GX.i1 ?_ | refine GX.ih ?_ | (refine GX.ix ?_; intro bl o)) | (apply GX.k_binOp_lss; refine GX.b_lss ?_) | (apply GX.k_binOp_add; first | refine GX.b_inc ?_ | refine GX.b_add ?_ | refine GX.b_addw ?_) | (apply GX.k_assign; refine GX.a ?_) | (apply GX.k_fieldAddr; first | refine GX.f0 ?_ | refine GX.fh ?_ | refine GX.fa ?_) | (apply GX.k_call; refine GX.c_len ?_) | (apply GX.k_pick; first | refine GX.pt ?_ | refine GX.pf ?_ | refine GX.pk ?_) | (apply GX.k_buildSlice; (refine GX.sl ?_; intro _)) | (apply GX.k_binOp_eql; first | refine GX.b_eql ?_ | refine GX.b_pn ?_ | refine GX.b_nn ?_ | refine GX.b_snn ?_ | refine GX.b_sns ?_ | refine GX.b_eqls ?_ | refine GX.b_eqltf ?_ | refine GX.b_eqlft ?_ | refine GX.b_eqlb ?_) | (apply GX.k_binOp_geq; refine GX.b_geq ?_)) | refine GX.gt ?_ | refine GX.gf ?_ | refine GX.gbt ?_ | refine GX.gbf ?_ | refine GX.un ?_ | refine GX.un0 ?_) | apply GX.then_normal | apply GX.seq | apply GX.region | (apply GX.s_cond; first | refine GX.ct ?_ | refine GX.cf ?_ | refine GX.cdf ?_ | refine GX.cdt ?_ | refine GX.cbt ?_ | refine GX.cbf ?_) | apply GX.skip | apply GX.block | apply GX.inBlock_normal | apply GX.exit | apply GX.then_exit | apply GX.inBlock_exit | refine GX.ibo ?_ | apply GX.ret | apply GX.then_ret | apply GX.inBlock_ret)
          exact again (i + 1, a9, c9) ⟨rfl, rfl, rfl, rfl, rfl, trivial⟩ (by dsimp only; omega) (by dsimp only; omega)
        · rw [if_neg (fun h => h8 h.2)] at h6
          repeat (first | (apply GX.s_list; first | apply GX.nil | (refine GX.o ?_; first | (apply GX.k_load; first | refine GX.lr ?_ | refine GX.lrA ?_ | refine GX.ln ?_ | refine GX.lb ?_ | refine GX.lh ?_ | (refine GX.ls ?_; intro ao cap _ _) | (refine GX.lA ?_; intro cs) | (refine GX.l0 ?_; intro cs) | refine GX.o1n ?_ | refine GX.o1b ?_ | refine GX.o1h ?_ | (refine GX.o1s ?_; intro ao cap _ _) | refine GX.omn ?_ | refine GX.omb ?_ | refine GX.omh ?_ | (refine GX.oms ?_; intro ao cap _ _) | refine GX.ofn ?_ | refine GX.ofb ?_ | refine GX.ofh ?_ | (refine GX.ofs ?_; intro ao cap _ _) | (refine GX.oA ?_; intro cs)) | (apply GX.k_move; refine GX.m ?_) | (apply GX.k_indexAddr; first | refine GX.io1 ?_ | refine GX.ioh ?_ | refine GX.i1 ?_ | refine GX.ih ?_ | (refine GX.ix ?_; intro bl o)) | (apply GX.k_binOp_lss; refine GX.b_lss ?_) | (apply GX.k_binOp_add; first | refine GX.b_inc ?_ | refine GX.b_add ?_ | refine GX.b_addw ?_) | (apply GX.k_assign; refine GX.a ?_) | (apply GX.k_fieldAddr; first | refine GX.f0 ?_ | refine GX.fh ?_ | refine GX.fa ?_) | (apply GX.k_call; refine GX.c_len ?_) | (apply GX.k_pick; first | refine GX.pt ?_ | refine GX.pf ?_ | refine GX.pk ?_) | (apply GX.k_buildSlice; (refine GX.sl ?_; intro _)) | (apply GX.k_binOp_eql; first | refine GX.b_eql ?_ | refine GX.b_pn ?_ | refine GX.b_nn ?_ | refine GX.b_snn ?_ | refine GX.b_sns ?_ | refine GX.b_eqls ?_ | refine GX.b_eqltf ?_ | refine GX.b_eqlft ?_ | refine GX.b_eqlb ?_) | (apply GX.k_binOp_geq; refine GX.b_geq ?_)) | refine GX.gt ?_ | refine GX.gf ?_ | refine GX.gbt ?_ | refine GX.gbf ?_ | refine GX.un ?_ | refine GX.un0 ?_) | apply GX.then_normal | apply GX.seq | apply GX.region | (apply GX.s_cond; first | refine GX.ct ?_ | refine GX.cf ?_ | refine GX.cdf ?_ | refine GX.cdt ?_ | refine GX.cbt ?_ | refine GX.cbf ?_) | apply GX.skip | apply GX.block | apply GX.inBlock_normal | apply GX.exit | apply GX.then_exit | apply GX.inBlock_exit | refine GX.ibo ?_ | apply GX.ret | apply GX.then_ret | apply GX.inBlock_ret)
          exact again (i + 1, a6, c6) ⟨rfl, rfl, rfl, by dsimp only; rw [h6]; rfl, rfl, trivial⟩ (by dsimp only; omega) (by dsimp only; omega) (h1 := by dsimp only; rw [h6]; ((repeat (first | apply Go.GX.AllIn.nil | apply Go.GX.AllIn.cons | (with_reducible apply Go.GX.InP.head) | apply Go.GX.InP.tail)); done))
      · rw [if_neg (fun h => h7 h.1)] at h6
        repeat (first | (apply GX.s_list; first | apply GX.nil | (refine GX.o ?_; first | (apply GX.k_load; first | refine GX.lr ?_ | refine GX.lrA ?_ | refine GX.ln ?_ | refine GX.lb ?_ | refine GX.lh ?_ | (refine GX.ls ?_; intro ao cap _ _) | (refine GX.lA ?_; intro cs) | (refine GX.l0 ?_; intro cs) | refine GX.o1n ?_ | refine GX.o1b ?_ | refine GX.o1h ?_ | (refine GX.o1s ?_; intro ao cap _ _) | refine GX.omn ?_ | refine GX.omb ?_ | refine GX.omh ?_ | (refine GX.oms ?_; intro ao cap _ _) | refine GX.ofn ?_ | refine GX.ofb ?_ | refine GX.ofh ?_ | (refine GX.ofs ?_; intro ao cap _ _) | (refine GX.oA ?_; intro cs)) | (apply GX.k_move; refine GX.m ?_) | (apply GX.k_indexAddr; first | refine GX.io1 ?_ | refine GX.ioh ?_ | refine GX.i1 ?_ | refine GX.ih ?_ | (refine GX.ix ?_; intro bl o)) | (apply GX.k_binOp_lss; refine GX.b_lss ?_) | (apply GX.k_binOp_add; first | refine GX.b_inc ?_ | refine GX.b_add ?_ | refine GX.b_addw ?_) | (apply GX.k_assign; refine GX.a ?_) | (apply GX.k_fieldAddr; first | refine GX.f0 ?_ | refine GX.fh ?_ | refine GX.fa ?_) | (apply GX.k_call; refine GX.c_len ?_) | (apply GX.k_pick; first | refine GX.pt ?_ | refine GX.pf ?_ | refine GX.pk ?_) | (apply GX.k_buildSlice; (refine GX.sl ?_; intro _)) | (apply GX.k_binOp_eql; first | refine GX.b_eql ?_ | refine GX.b_pn ?_ | refine GX.b_nn ?_ | refine GX.b_snn ?_ | refine GX.b_sns ?_ | refine GX.b_eqls ?_ | refine GX.b_eqltf ?_ | refine GX.b_eqlft ?_ | refine GX.b_eqlb ?_) | (apply GX.k_binOp_geq; refine GX.b_geq ?_)) | refine GX.gt ?_ | refine GX.gf ?_ | refine GX.gbt ?_ | refine GX.gbf ?_ | refine GX.un ?_ | refine GX.un0 ?_) | apply GX.then_normal | apply GX.seq | apply GX.region | (apply GX.s_cond; first | refine GX.ct ?_ | refine GX.cf ?_ | refine GX.cdf ?_ | refine GX.cdt ?_ | refine GX.cbt ?_ | refine GX.cbf ?_) | apply GX.skip | apply GX.block | apply GX.inBlock_normal | apply GX.exit | apply GX.then_exit | apply GX.inBlock_exit | refine GX.ibo ?_ | apply GX.ret | apply GX.then_ret | apply GX.inBlock_ret)
        exact again (i + 1, a6, c6) ⟨rfl, rfl, rfl, by dsimp only; rw [h6]; rfl, rfl, trivial⟩ (by dsimp only; omega) (by dsimp only; omega) (h1 := by dsimp only; rw [h6]; ((repeat (first | apply Go.GX.AllIn.nil | apply Go.GX.AllIn.cons | (with_reducible apply Go.GX.InP.head) | apply Go.GX.InP.tail)); done))
    · have hil : i = (targets x k).length := by omega
      subst hil
      have e : some_ x ins.length k (targets x k).length = nextOf x ins.length k := by unfold some_ nextOf; rw [List.take_length]
      rw [e]
      repeat (first | (apply GX.s_list; first | apply GX.nil | (refine GX.o ?_; first | (apply GX.k_load; first | refine GX.lr ?_ | refine GX.lrA ?_ | refine GX.ln ?_ | refine GX.lb ?_ | refine GX.lh ?_ | (refine GX.ls ?_; intro ao cap _ _) | (refine GX.lA ?_; intro cs) | (refine GX.l0 ?_; intro cs) | refine GX.o1n ?_ | refine GX.o1b ?_ | refine GX.o1h ?_ | (refine GX.o1s ?_; intro ao cap _ _) | refine GX.omn ?_ | refine GX.omb ?_ | refine GX.omh ?_ | (refine GX.oms ?_; intro ao cap _ _) | refine GX.ofn ?_ | refine GX.ofb ?_ | refine GX.ofh ?_ | (refine GX.ofs ?_; intro ao cap _ _) | (refine GX.oA ?_; intro cs)) | (apply GX.k_move; refine GX.m ?_) | (apply GX.k_indexAddr; first | refine GX.io1 ?_ | refine GX.ioh ?_ | refine GX.i1 ?_ | refine GX.ih ?_ | (refine GX.ix ?_; intro bl o)) | (apply GX.k_binOp_lss; refine GX.b_lss ?_) | (apply GX.k_binOp_add; first | refine GX.b_inc ?_ | refine GX.b_add ?_ | refine GX.b_addw ?_) | (apply GX.k_assign; refine GX.a ?_) | (apply GX.k_fieldAddr; first | refine GX.f0 ?_ | refine GX.fh ?_ | refine GX.fa ?_) | (apply GX.k_call; refine GX.c_len ?_) | (apply GX.k_pick; first | refine GX.pt ?_ | refine GX.pf ?_ | refine GX.pk ?_) | (apply GX.k_buildSlice; (refine GX.sl ?_; intro _)) | (apply GX.k_binOp_eql; first | refine GX.b_eql ?_ | refine GX.b_pn ?_ | refine GX.b_nn ?_ | refine GX.b_snn ?_ | refine GX.b_sns ?_ | refine GX.b_eqls ?_ | refine GX.b_eqltf ?_ | refine GX.b_eqlft ?_ | refine GX.b_eqlb ?_) | (apply GX.k_binOp_geq; refine GX.b_geq ?_)) | refine GX.gt ?_ | refine GX.gf ?_ | refine GX.gbt ?_ | refine GX.gbf ?_ | refine GX.un ?_ | refine GX.un0 ?_) | apply GX.then_normal | apply GX.seq | apply GX.region | (apply GX.s_cond; first | refine GX.ct ?_ | refine GX.cf ?_ | refine GX.cdf ?_ | refine GX.cdt ?_ | refine GX.cbt ?_ | refine GX.cbf ?_) | apply GX.skip | apply GX.block | apply GX.inBlock_normal | apply GX.exit | apply GX.then_exit | apply GX.inBlock_exit | refine GX.ibo ?_ | apply GX.ret | apply GX.then_ret | apply GX.inBlock_ret)
      exact rt1 (a6, c6) rfl
end Go.Proofs.YtomfpmbapdhbgaaGreat

/- The walks over Uses, Def of the reference of chapter 15. -/
namespace Go.Proofs.YtomfpmbapdhbgaaGreat
open Go Go.RR Go.RX Go.GX Go.Api Go.FlowM Go.RiseM Go.LivM
attribute [local irreducible] wpList Code.wp wpPlan Exit.then Exit.inBlock bodyPost NoPanic Went GX.Post GX.Again GX.Meet GX.RowR GX.Own GX.Owns GX.Box GX.Sl GX.Pt GX.Ag GX.MapR GX.Kept GX.Pin wpT GoK AtEnd Both

set_option maxHeartbeats 2000000 in
theorem rdef_spec (cs : List Value) (x : Ins) : Does Tryz.prog 99 [.agg cs.toArray] [Ag tyIns cs x] [] (fun _ : Unit => .int .i64 (def_ x)) (fun _ => []) (fun _ => []) := by
  refine enter Tryz.func99 rfl Tryz.ntmps99 rfl fun b => ?_
  refine GX.wR ?_; intros
  refine GX.nmP 1 ?_; rintro b1 rfl
  refine GX.cut (σ := Bool) (fun q => [(1, .pointer (some ⟨b1, 0, none⟩)), (4, .int .i64 x.op), (5, .bool q)]) (fun _ => []) (fun _ => []) (fun q => q = decide (Sets x.op)) ?_ (fun q hq => ?_)
  · by_cases e1 : x.op = 1
    · refine GX.wR ?_; intros
      exact meet _ ⟨rfl, rfl, rfl, trivial⟩ (by simp [Sets, e1])
    by_cases e2 : x.op = 2
    · refine GX.wR ?_; intros
      exact meet _ ⟨rfl, rfl, rfl, trivial⟩ (by simp [Sets, e2])
    by_cases e3 : x.op = 3
    · refine GX.wR ?_; intros
      exact meet _ ⟨rfl, rfl, rfl, trivial⟩ (by simp [Sets, e3])
    by_cases e4 : x.op = 4
    · refine GX.wR ?_; intros
      exact meet _ ⟨rfl, rfl, rfl, trivial⟩ (by simp [Sets, e4])
    by_cases e5 : x.op = 5
    · refine GX.wR ?_; intros
      exact meet _ ⟨rfl, rfl, rfl, trivial⟩ (by simp [Sets, e5])
    by_cases e6 : x.op = 6
    · refine GX.wR ?_; intros
      exact meet _ ⟨rfl, rfl, rfl, trivial⟩ (by simp [Sets, e6])
    by_cases e8 : x.op = 8
    · refine GX.wR ?_; intros
      exact meet _ ⟨rfl, rfl, rfl, trivial⟩ (by simp [Sets, e8])
    by_cases e10 : x.op = 10
    · refine GX.wR ?_; intros
      exact meet _ ⟨rfl, rfl, rfl, trivial⟩ (by simp [Sets, e10])
    by_cases e11 : x.op = 11
    · refine GX.wR ?_; intros
      exact meet _ ⟨rfl, rfl, rfl, trivial⟩ (by simp [Sets, e11])
    by_cases e12 : x.op = 12
    · refine GX.wR ?_; intros
      exact meet _ ⟨rfl, rfl, rfl, trivial⟩ (by simp [Sets, e12])
    by_cases e13 : x.op = 13
    · refine GX.wR ?_; intros
      exact meet _ ⟨rfl, rfl, rfl, trivial⟩ (by simp [Sets, e13])
    by_cases e14 : x.op = 14
    · refine GX.wR ?_; intros
      exact meet _ ⟨rfl, rfl, rfl, trivial⟩ (by simp [Sets, e14])
    by_cases e19 : x.op = 19
    · refine GX.wR ?_; intros
      exact meet _ ⟨rfl, rfl, rfl, trivial⟩ (by simp [Sets, e19])
    refine GX.wR ?_; intros
    exact meet _ ⟨rfl, rfl, rfl, trivial⟩ (by simp [Sets, e1, e2, e3, e4, e5, e6, e8, e10, e11, e12, e13, e14, e19])
  by_cases hs : Sets x.op
  · have hq1 : q = true := by rw [hq]; exact decide_eq_true hs
    by_cases hv : In 4000 x.a
    · rw [show def_ x = x.a from if_pos ⟨hs, hv⟩]
      obtain ⟨hv1, hv2⟩ := hv
      refine GX.wR ?_; intros
      exact rt1 () rfl
    · rw [show def_ x = -1 from if_neg fun h => hv h.2]
      by_cases hv1 : 0 ≤ x.a
      · have hv2 : ¬ x.a < 4000 := fun h => hv ⟨hv1, h⟩
        refine GX.wR ?_; intros
        exact rt1 () rfl
      · refine GX.wR ?_; intros
        exact rt1 () rfl
  · have hq1 : q = false := by rw [hq]; exact decide_eq_false hs
    rw [show def_ x = -1 from if_neg fun h => hs h.1]
    refine GX.wR ?_; intros
    exact rt1 () rfl
def cur (x : Ins) (i : Nat) : List Int := puts (((asks x).take i).filter fun y => decide (In 4000 y))
theorem cur_rise (x : Ins) (i : Nat) : Rise (cur x i) := (puts_spec _).1
theorem cur_len (x : Ins) (i : Nat) : (cur x i).length ≤ 4000 := rise_len _ 0 4000 (cur_rise x i) fun v hv => by
  have := (puts_spec _).2 v |>.1 hv
  rw [List.mem_filter, decide_eq_true_iff] at this
  have := this.2
  omega
theorem cur_succ {x : Ins} {i : Nat} {y : Int} (h : (asks x)[i]? = some y) : cur x (i + 1) = if In 4000 y then put (cur x i) y else cur x i := by
  unfold cur
  rw [List.take_add_one, h, List.filter_append]
  split
  · rename_i hy
    rw [show (some y).toList.filter (fun y => decide (In 4000 y)) = [y] by obtain ⟨h1, h2⟩ := hy; have h2 : y < 4000 := h2; simp [h1, h2], puts_snoc]
  · rename_i hy
    rw [show (some y).toList.filter (fun y => decide (In 4000 y)) = [] by have hy2 : ¬ (0 ≤ y ∧ y < 4000) := fun h => hy ⟨h.1, h.2⟩; simp; omega, List.append_nil]
theorem cur_all (x : Ins) : cur x (asks x).length = uses x := by unfold cur uses; rw [List.take_length]
set_option maxHeartbeats 2000000 in
theorem ruses_spec (cs : List Value) (x : Ins) : Does Tryz.prog 95 [.agg cs.toArray] [Ag tyIns cs x] [] (fun s : Option Addr × Nat => .slice s.1 (uses x).length s.2) (fun s => [Sl Ty.int s.1 s.2 (uses x)]) (fun _ => []) := by
  refine enter Tryz.func95 rfl Tryz.ntmps95 rfl fun b => ?_
  refine GX.wRB ?_; intros
  refine GX.cut (σ := Option Addr × Nat) (fun q => [(3, .slice q.1 (asks x).length q.2)]) (fun q => [Sl Ty.int q.1 q.2 (asks x)]) (fun _ => []) (fun _ => True) ?_ (fun q _ => ?_)
  · by_cases e3 : x.op = 3
    · rw [show asks x = [x.b] by simp [asks, e3]]
      refine GX.wR ?_; intros
      exact meet (_, _) ⟨rfl, trivial⟩ trivial
    by_cases e5 : x.op = 5
    · rw [show asks x = [x.b] by simp [asks, e5]]
      refine GX.wR ?_; intros
      exact meet (_, _) ⟨rfl, trivial⟩ trivial
    by_cases e6 : x.op = 6
    · rw [show asks x = [x.b] by simp [asks, e6]]
      refine GX.wR ?_; intros
      exact meet (_, _) ⟨rfl, trivial⟩ trivial
    by_cases e10 : x.op = 10
    · rw [show asks x = [x.b] by simp [asks, e10]]
      refine GX.wR ?_; intros
      exact meet (_, _) ⟨rfl, trivial⟩ trivial
    by_cases e12 : x.op = 12
    · rw [show asks x = [x.b] by simp [asks, e12]]
      refine GX.wR ?_; intros
      exact meet (_, _) ⟨rfl, trivial⟩ trivial
    by_cases e4 : x.op = 4
    · rw [show asks x = [x.b, x.c] by simp [asks, e4]]
      refine GX.wR ?_; intros
      exact meet (_, _) ⟨rfl, trivial⟩ trivial
    by_cases e8 : x.op = 8
    · rw [show asks x = [x.b, x.c] by simp [asks, e8]]
      refine GX.wR ?_; intros
      exact meet (_, _) ⟨rfl, trivial⟩ trivial
    by_cases e7 : x.op = 7
    · rw [show asks x = [x.a, x.b] by simp [asks, e7]]
      refine GX.wR ?_; intros
      exact meet (_, _) ⟨rfl, trivial⟩ trivial
    by_cases e9 : x.op = 9
    · rw [show asks x = [x.a, x.b, x.c] by simp [asks, e9]]
      refine GX.wR ?_; intros
      exact meet (_, _) ⟨rfl, trivial⟩ trivial
    by_cases e13 : x.op = 13
    · rw [show asks x = x.args by simp [asks, e13]]
      refine GX.wR ?_; intros
      exact meet (_, _) ⟨rfl, trivial⟩ trivial
    by_cases e15 : x.op = 15
    · rw [show asks x = [x.a] by simp [asks, e15]]
      refine GX.wR ?_; intros
      exact meet (_, _) ⟨rfl, trivial⟩ trivial
    by_cases e17 : x.op = 17
    · rw [show asks x = [x.a] by simp [asks, e17]]
      refine GX.wR ?_; intros
      exact meet (_, _) ⟨rfl, trivial⟩ trivial
    by_cases e18 : x.op = 18
    · rw [show asks x = [x.a] by simp [asks, e18]]
      refine GX.wR ?_; intros
      exact meet (_, _) ⟨rfl, trivial⟩ trivial
    by_cases e20 : x.op = 20
    · rw [show asks x = [x.a] by simp [asks, e20]]
      refine GX.wR ?_; intros
      exact meet (_, _) ⟨rfl, trivial⟩ trivial
    rw [show asks x = [] by simp [asks, e3, e5, e6, e10, e12, e4, e8, e7, e9, e13, e15, e17, e18, e20]]
    refine GX.wR ?_; intros
    refine slNil Ty.int ?_
    exact meet (none, 0) ⟨rfl, trivial⟩ trivial
  obtain ⟨aL, cL⟩ := q
  dsimp only
  refine sln aL fun hl1 hl2 _ => ?_
  refine GX.wR ?_; intros
  refine slNil Ty.int ?_
  refine GX.loop (σ := Nat × (Option Addr × Nat)) (fun q => [(3, .slice aL (asks x).length cL), (4, .slice q.2.1 (cur x q.1).length q.2.2), (5, .int .i64 (q.1 : Int))]) (fun q => [Sl Ty.int q.2.1 q.2.2 (cur x q.1)]) (fun _ => [])
    (fun q => q.1 ≤ (asks x).length) (fun q => (asks x).length - q.1) (0, (none, 0)) ⟨rfl, rfl, rfl, trivial⟩ (Nat.zero_le _) (fun q hq => ?_)
  obtain ⟨i, a, c⟩ := q
  dsimp only at *
  by_cases hlt : i < (asks x).length
  · obtain ⟨y, hy⟩ := get_lt hlt
    have e := cur_succ hy
    have hcl := cur_len x i
    by_cases h1 : 0 ≤ y
    · by_cases h2 : y < 4000
      · rw [if_pos ⟨h1, h2⟩] at e
        refine GX.wR ?_; intros
        refine GX.o (cl (put_spec a c (cur x i) y (cur_rise x i) (by omega)) fun s => ?_)
        obtain ⟨a2, c2⟩ := s
        dsimp only
        rw [← e]
        refine GX.wR ?_; intros
        exact again (i + 1, (a2, c2)) ⟨rfl, rfl, rfl, trivial⟩ (by dsimp only; omega) (by dsimp only; omega)
      · rw [if_neg fun h => h2 h.2] at e
        refine GX.wR ?_; intros
        exact again (i + 1, (a, c)) ⟨rfl, by rw [e]; rfl, rfl, trivial⟩ (by dsimp only; omega) (by dsimp only; omega) (h1 := by dsimp only; rw [e]; ((repeat (first | apply Go.GX.AllIn.nil | apply Go.GX.AllIn.cons | (with_reducible apply Go.GX.InP.head) | apply Go.GX.InP.tail)); done))
    · rw [if_neg fun h => h1 h.1] at e
      refine GX.wR ?_; intros
      exact again (i + 1, (a, c)) ⟨rfl, by rw [e]; rfl, rfl, trivial⟩ (by dsimp only; omega) (by dsimp only; omega) (h1 := by dsimp only; rw [e]; ((repeat (first | apply Go.GX.AllIn.nil | apply Go.GX.AllIn.cons | (with_reducible apply Go.GX.InP.head) | apply Go.GX.InP.tail)); done))
  · have hi : i = (asks x).length := by omega
    subst hi
    rw [cur_all]
    refine GX.wR ?_; intros
    exact rt1 (_, _) rfl
end Go.Proofs.YtomfpmbapdhbgaaGreat
