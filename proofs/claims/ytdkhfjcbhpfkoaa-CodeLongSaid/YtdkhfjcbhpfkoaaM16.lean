import Derived.Test.YtdkhfjcbhpfkoaaM11
import Derived.Test.YtdkhfjcbhpfkoaaM12
import Derived.Test.YtdkhfjcbhpfkoaaM15
import Derived.Lib.SlicesCompact
/- slices.IndexFunc over lists of ints that stay. -/
namespace Go.Proofs.Ytdkhfjcbhpfkoaa
open Go Go.RR Go.RX Go.GX
attribute [local irreducible] wpList Code.wp wpPlan Exit.then Exit.inBlock bodyPost NoPanic Went GX.Post GX.Again GX.Meet GX.RowR GX.Own GX.Owns GX.Box GX.Sl GX.Pt GX.Ag GX.MapR GX.Kept GX.Pin

theorem indexFunc_spec (ao : Option Addr) (cap : Nat) (xs : List Int) (fid : Nat) (caps : List Value) (psC : List Pf) (hpC : List Res) (p : Int → Bool) [UFunc Try.prog fid]
    (hf : ∀ x ∈ xs, Does Try.prog fid (.int .i64 x :: caps) psC hpC (fun _ : Unit => .bool (p x)) (fun _ => []) (fun _ => hpC)) :
    Does Try.prog 66 [.slice ao xs.length cap, .func (.func fid) #[] caps.toArray] (Sl Ty.int ao cap xs :: psC) hpC (fun _ : Unit => .int .i64 (idxF p xs)) (fun _ => []) (fun _ => hpC) := by
  refine enter Try.func66 rfl Try.ntmps66 rfl fun b => ?_
  refine sln ao fun hl1 hl2 _ => ?_
  repeat (first | (apply GX.s_list; first | apply GX.nil | (refine GX.o ?_; first | (apply GX.k_load; first | refine GX.lr ?_ | refine GX.lrA ?_ | refine GX.ln ?_ | refine GX.lb ?_ | refine GX.lh ?_ | (refine GX.ls ?_; intro ao cap _ _) | (refine GX.lA ?_; intro cs) | (refine GX.l0 ?_; intro cs) | refine GX.o1n ?_ | refine GX.o1b ?_ | refine GX.o1h ?_ | (refine GX.o1s ?_; intro ao cap _ _) | refine GX.omn ?_ | refine GX.omb ?_ | refine GX.omh ?_ | (refine GX.oms ?_; intro ao cap _ _) | refine GX.ofn ?_ | refine GX.ofb ?_ | refine GX.ofh ?_ | (refine GX.ofs ?_; intro ao cap _ _) | (refine GX.oA ?_; intro cs)) | (apply GX.k_move; refine GX.m ?_) | (apply GX.k_indexAddr; first | refine GX.io1 ?_ | refine GX.ioh ?_ | refine GX.i1 ?_ | refine GX.ih ?_ | (refine GX.ix ?_; intro bl o)) | (apply GX.k_binOp_lss; refine GX.b_lss ?_) | (apply GX.k_binOp_add; first | refine GX.b_inc ?_ | refine GX.b_add ?_ | refine GX.b_addw ?_) | (apply GX.k_assign; refine GX.a ?_) | (apply GX.k_call; refine GX.c_len ?_)) | refine GX.gt ?_ | refine GX.gf ?_ | refine GX.gbt ?_ | refine GX.gbf ?_ | refine GX.un ?_ | refine GX.un0 ?_) | apply GX.then_normal | apply GX.seq | apply GX.region | (apply GX.s_cond; first | refine GX.ct ?_ | refine GX.cf ?_ | refine GX.cdf ?_ | refine GX.cdt ?_ | refine GX.cbt ?_ | refine GX.cbf ?_) | apply GX.skip | apply GX.block | apply GX.inBlock_normal | apply GX.exit | apply GX.then_exit | apply GX.inBlock_exit | refine GX.ibo ?_ | apply GX.ret | apply GX.then_ret | apply GX.inBlock_ret)
  refine GX.loop (σ := Nat) (fun i => [(0, .slice ao xs.length cap), (1, .func (.func fid) #[] caps.toArray), (7, .int .i64 (xs.length : Int)), (8, .int .i64 (i : Int))]) (fun _ => []) (fun _ => hpC)
    (fun i => i ≤ xs.length ∧ ∀ y ∈ xs.take i, p y = false) (fun i => xs.length - i) 0 ⟨rfl, rfl, rfl, rfl, trivial⟩ ⟨by omega, by simp⟩ (fun i hi => ?_) (h2 := SelR.all _)
  obtain ⟨hi, hn⟩ := hi
  by_cases hlt : i < xs.length
  · obtain ⟨x, hx⟩ := get_lt hlt
    repeat (first | (apply GX.s_list; first | apply GX.nil | (refine GX.o ?_; first | (apply GX.k_load; first | refine GX.lr ?_ | refine GX.lrA ?_ | refine GX.ln ?_ | refine GX.lb ?_ | refine GX.lh ?_ | (refine GX.ls ?_; intro ao cap _ _) | (refine GX.lA ?_; intro cs) | (refine GX.l0 ?_; intro cs) | refine GX.o1n ?_ | refine GX.o1b ?_ | refine GX.o1h ?_ | (refine GX.o1s ?_; intro ao cap _ _) | refine GX.omn ?_ | refine GX.omb ?_ | refine GX.omh ?_ | (refine GX.oms ?_; intro ao cap _ _) | refine GX.ofn ?_ | refine GX.ofb ?_ | refine GX.ofh ?_ | (refine GX.ofs ?_; intro ao cap _ _) | (refine GX.oA ?_; intro cs)) | (apply GX.k_move; refine GX.m ?_) | (apply GX.k_indexAddr; first | refine GX.io1 ?_ | refine GX.ioh ?_ | refine GX.i1 ?_ | refine GX.ih ?_ | (refine GX.ix ?_; intro bl o)) | (apply GX.k_binOp_lss; refine GX.b_lss ?_) | (apply GX.k_binOp_add; first | refine GX.b_inc ?_ | refine GX.b_add ?_ | refine GX.b_addw ?_) | (apply GX.k_assign; refine GX.a ?_) | (apply GX.k_call; refine GX.c_len ?_)) | refine GX.gt ?_ | refine GX.gf ?_ | refine GX.gbt ?_ | refine GX.gbf ?_ | refine GX.un ?_ | refine GX.un0 ?_) | apply GX.then_normal | apply GX.seq | apply GX.region | (apply GX.s_cond; first | refine GX.ct ?_ | refine GX.cf ?_ | refine GX.cdf ?_ | refine GX.cdt ?_ | refine GX.cbt ?_ | refine GX.cbf ?_) | apply GX.skip | apply GX.block | apply GX.inBlock_normal | apply GX.exit | apply GX.then_exit | apply GX.inBlock_exit | refine GX.ibo ?_ | apply GX.ret | apply GX.then_ret | apply GX.inBlock_ret)
    refine GX.o (clvA (fs := []) (vs := [.int .i64 x]) (cs := caps) (hf x (List.mem_of_getElem? hx)) fun _ => ?_)
    by_cases hp : p x = true
    · repeat (first | (apply GX.s_list; first | apply GX.nil | (refine GX.o ?_; first | (apply GX.k_load; first | refine GX.lr ?_ | refine GX.lrA ?_ | refine GX.ln ?_ | refine GX.lb ?_ | refine GX.lh ?_ | (refine GX.ls ?_; intro ao cap _ _) | (refine GX.lA ?_; intro cs) | (refine GX.l0 ?_; intro cs) | refine GX.o1n ?_ | refine GX.o1b ?_ | refine GX.o1h ?_ | (refine GX.o1s ?_; intro ao cap _ _) | refine GX.omn ?_ | refine GX.omb ?_ | refine GX.omh ?_ | (refine GX.oms ?_; intro ao cap _ _) | refine GX.ofn ?_ | refine GX.ofb ?_ | refine GX.ofh ?_ | (refine GX.ofs ?_; intro ao cap _ _) | (refine GX.oA ?_; intro cs)) | (apply GX.k_move; refine GX.m ?_) | (apply GX.k_indexAddr; first | refine GX.io1 ?_ | refine GX.ioh ?_ | refine GX.i1 ?_ | refine GX.ih ?_ | (refine GX.ix ?_; intro bl o)) | (apply GX.k_binOp_lss; refine GX.b_lss ?_) | (apply GX.k_binOp_add; first | refine GX.b_inc ?_ | refine GX.b_add ?_ | refine GX.b_addw ?_) | (apply GX.k_assign; refine GX.a ?_) | (apply GX.k_call; refine GX.c_len ?_)) | refine GX.gt ?_ | refine GX.gf ?_ | refine GX.gbt ?_ | refine GX.gbf ?_ | refine GX.un ?_ | refine GX.un0 ?_) | apply GX.then_normal | apply GX.seq | apply GX.region | (apply GX.s_cond; first | refine GX.ct ?_ | refine GX.cf ?_ | refine GX.cdf ?_ | refine GX.cdt ?_ | refine GX.cbt ?_ | refine GX.cbf ?_) | apply GX.skip | apply GX.block | apply GX.inBlock_normal | apply GX.exit | apply GX.then_exit | apply GX.inBlock_exit | refine GX.ibo ?_ | apply GX.ret | apply GX.then_ret | apply GX.inBlock_ret)
      exact rt1 () (congrArg (Value.int .i64) (idxF_some hx hp hn)) (h2 := SelR.all _)
    · have hp : p x = false := by simpa using hp
      repeat (first | (apply GX.s_list; first | apply GX.nil | (refine GX.o ?_; first | (apply GX.k_load; first | refine GX.lr ?_ | refine GX.lrA ?_ | refine GX.ln ?_ | refine GX.lb ?_ | refine GX.lh ?_ | (refine GX.ls ?_; intro ao cap _ _) | (refine GX.lA ?_; intro cs) | (refine GX.l0 ?_; intro cs) | refine GX.o1n ?_ | refine GX.o1b ?_ | refine GX.o1h ?_ | (refine GX.o1s ?_; intro ao cap _ _) | refine GX.omn ?_ | refine GX.omb ?_ | refine GX.omh ?_ | (refine GX.oms ?_; intro ao cap _ _) | refine GX.ofn ?_ | refine GX.ofb ?_ | refine GX.ofh ?_ | (refine GX.ofs ?_; intro ao cap _ _) | (refine GX.oA ?_; intro cs)) | (apply GX.k_move; refine GX.m ?_) | (apply GX.k_indexAddr; first | refine GX.io1 ?_ | refine GX.ioh ?_ | refine GX.i1 ?_ | refine GX.ih ?_ | (refine GX.ix ?_; intro bl o)) | (apply GX.k_binOp_lss; refine GX.b_lss ?_) | (apply GX.k_binOp_add; first | refine GX.b_inc ?_ | refine GX.b_add ?_ | refine GX.b_addw ?_) | (apply GX.k_assign; refine GX.a ?_) | (apply GX.k_call; refine GX.c_len ?_)) | refine GX.gt ?_ | refine GX.gf ?_ | refine GX.gbt ?_ | refine GX.gbf ?_ | refine GX.un ?_ | refine GX.un0 ?_) | apply GX.then_normal | apply GX.seq | apply GX.region | (apply GX.s_cond; first | refine GX.ct ?_ | refine GX.cf ?_ | refine GX.cdf ?_ | refine GX.cdt ?_ | refine GX.cbt ?_ | refine GX.cbf ?_) | apply GX.skip | apply GX.block | apply GX.inBlock_normal | apply GX.exit | apply GX.then_exit | apply GX.inBlock_exit | refine GX.ibo ?_ | apply GX.ret | apply GX.then_ret | apply GX.inBlock_ret)
      exact again (i + 1) ⟨rfl, rfl, rfl, rfl, trivial⟩ ⟨by omega, take_all_succ hx hp hn⟩ (by omega) (h2 := SelR.all _)
  · have hil : i = xs.length := by omega
    subst hil
    repeat (first | (apply GX.s_list; first | apply GX.nil | (refine GX.o ?_; first | (apply GX.k_load; first | refine GX.lr ?_ | refine GX.lrA ?_ | refine GX.ln ?_ | refine GX.lb ?_ | refine GX.lh ?_ | (refine GX.ls ?_; intro ao cap _ _) | (refine GX.lA ?_; intro cs) | (refine GX.l0 ?_; intro cs) | refine GX.o1n ?_ | refine GX.o1b ?_ | refine GX.o1h ?_ | (refine GX.o1s ?_; intro ao cap _ _) | refine GX.omn ?_ | refine GX.omb ?_ | refine GX.omh ?_ | (refine GX.oms ?_; intro ao cap _ _) | refine GX.ofn ?_ | refine GX.ofb ?_ | refine GX.ofh ?_ | (refine GX.ofs ?_; intro ao cap _ _) | (refine GX.oA ?_; intro cs)) | (apply GX.k_move; refine GX.m ?_) | (apply GX.k_indexAddr; first | refine GX.io1 ?_ | refine GX.ioh ?_ | refine GX.i1 ?_ | refine GX.ih ?_ | (refine GX.ix ?_; intro bl o)) | (apply GX.k_binOp_lss; refine GX.b_lss ?_) | (apply GX.k_binOp_add; first | refine GX.b_inc ?_ | refine GX.b_add ?_ | refine GX.b_addw ?_) | (apply GX.k_assign; refine GX.a ?_) | (apply GX.k_call; refine GX.c_len ?_)) | refine GX.gt ?_ | refine GX.gf ?_ | refine GX.gbt ?_ | refine GX.gbf ?_ | refine GX.un ?_ | refine GX.un0 ?_) | apply GX.then_normal | apply GX.seq | apply GX.region | (apply GX.s_cond; first | refine GX.ct ?_ | refine GX.cf ?_ | refine GX.cdf ?_ | refine GX.cdt ?_ | refine GX.cbt ?_ | refine GX.cbf ?_) | apply GX.skip | apply GX.block | apply GX.inBlock_normal | apply GX.exit | apply GX.then_exit | apply GX.inBlock_exit | refine GX.ibo ?_ | apply GX.ret | apply GX.then_ret | apply GX.inBlock_ret)
    rw [List.take_length] at hn
    exact rt1 () (congrArg (Value.int .i64) (idxF_none hn)) (h2 := SelR.all _)
end Go.Proofs.Ytdkhfjcbhpfkoaa

/- slices.ContainsFunc over lists of ints. -/
namespace Go.Proofs.Ytdkhfjcbhpfkoaa
open Go Go.RR Go.RX Go.GX
attribute [local irreducible] wpList Code.wp wpPlan Exit.then Exit.inBlock bodyPost NoPanic Went GX.Post GX.Again GX.Meet GX.RowR GX.Own GX.Owns GX.Box GX.Sl GX.Pt GX.Ag GX.MapR GX.Kept GX.Pin

theorem containsFunc_spec (ao : Option Addr) (cap : Nat) (xs : List Int) (fid : Nat) (caps : List Value) (psC : List Pf) (hpC : List Res) (p : Int → Bool) [UFunc Try.prog fid]
    (hf : ∀ x ∈ xs, Does Try.prog fid (.int .i64 x :: caps) psC hpC (fun _ : Unit => .bool (p x)) (fun _ => []) (fun _ => hpC)) :
    Does Try.prog 57 [.slice ao xs.length cap, .func (.func fid) #[] caps.toArray] (Sl Ty.int ao cap xs :: psC) hpC (fun _ : Unit => .bool (xs.any p)) (fun _ => []) (fun _ => hpC) := by
  refine enter Try.func57 rfl Try.ntmps57 rfl fun b => ?_
  repeat (first | (apply GX.s_list; first | apply GX.nil | (refine GX.o ?_; first | (apply GX.k_move; refine GX.m ?_) | (apply GX.k_assign; refine GX.a ?_) | (apply GX.k_binOp_geq; refine GX.b_geq ?_)) | refine GX.gt ?_ | refine GX.gf ?_ | refine GX.gbt ?_ | refine GX.gbf ?_ | refine GX.un ?_ | refine GX.un0 ?_) | apply GX.then_normal | apply GX.seq | apply GX.region | (apply GX.s_cond; first | refine GX.ct ?_ | refine GX.cf ?_ | refine GX.cdf ?_ | refine GX.cdt ?_ | refine GX.cbt ?_ | refine GX.cbf ?_) | apply GX.skip | apply GX.block | apply GX.inBlock_normal | apply GX.exit | apply GX.then_exit | apply GX.inBlock_exit | refine GX.ibo ?_ | apply GX.ret | apply GX.then_ret | apply GX.inBlock_ret)
  refine GX.o (clA (indexFunc_spec ao cap xs fid caps psC hpC p hf) fun _ => ?_)
  rw [← idxF_any]
  repeat (first | (apply GX.s_list; first | apply GX.nil | (refine GX.o ?_; first | (apply GX.k_move; refine GX.m ?_) | (apply GX.k_assign; refine GX.a ?_) | (apply GX.k_binOp_geq; refine GX.b_geq ?_)) | refine GX.gt ?_ | refine GX.gf ?_ | refine GX.gbt ?_ | refine GX.gbf ?_ | refine GX.un ?_ | refine GX.un0 ?_) | apply GX.then_normal | apply GX.seq | apply GX.region | (apply GX.s_cond; first | refine GX.ct ?_ | refine GX.cf ?_ | refine GX.cdf ?_ | refine GX.cdt ?_ | refine GX.cbt ?_ | refine GX.cbf ?_) | apply GX.skip | apply GX.block | apply GX.inBlock_normal | apply GX.exit | apply GX.then_exit | apply GX.inBlock_exit | refine GX.ibo ?_ | apply GX.ret | apply GX.then_ret | apply GX.inBlock_ret)
  exact rt1 () rfl (h2 := SelR.all _)
end Go.Proofs.Ytdkhfjcbhpfkoaa

/- slices.Index and slices.Contains over ints. -/
namespace Go.Proofs.Ytdkhfjcbhpfkoaa
open Go Go.RR Go.RX Go.GX
attribute [local irreducible] wpList Code.wp wpPlan Exit.then Exit.inBlock bodyPost NoPanic Went GX.Post GX.Again GX.Meet GX.RowR GX.Own GX.Owns GX.Box GX.Sl GX.Pt GX.Ag GX.MapR GX.Kept GX.Pin

theorem index_spec (ao : Option Addr) (cap : Nat) (l : List Int) (v : Int) : Does Try.prog 83 [.slice ao l.length cap, .int .i64 v] [Sl Ty.int ao cap l] []
    (fun _ : Unit => .int .i64 (idxF (fun x => decide (v = x)) l)) (fun _ => []) (fun _ => []) := by
  refine enter Try.func83 rfl Try.ntmps83 rfl fun b => ?_
  refine sln ao fun h1 h2 _ => ?_
  repeat (first | (apply GX.s_list; first | apply GX.nil | (refine GX.o ?_; first | (apply GX.k_load; first | refine GX.lr ?_ | refine GX.lrA ?_ | refine GX.ln ?_ | refine GX.lb ?_ | refine GX.lh ?_ | (refine GX.ls ?_; intro ao cap _ _) | (refine GX.lA ?_; intro cs) | (refine GX.l0 ?_; intro cs) | refine GX.o1n ?_ | refine GX.o1b ?_ | refine GX.o1h ?_ | (refine GX.o1s ?_; intro ao cap _ _) | refine GX.omn ?_ | refine GX.omb ?_ | refine GX.omh ?_ | (refine GX.oms ?_; intro ao cap _ _) | refine GX.ofn ?_ | refine GX.ofb ?_ | refine GX.ofh ?_ | (refine GX.ofs ?_; intro ao cap _ _) | (refine GX.oA ?_; intro cs)) | (apply GX.k_move; refine GX.m ?_) | (apply GX.k_indexAddr; first | refine GX.io1 ?_ | refine GX.ioh ?_ | refine GX.i1 ?_ | refine GX.ih ?_ | (refine GX.ix ?_; intro bl o)) | (apply GX.k_binOp_lss; refine GX.b_lss ?_) | (apply GX.k_binOp_add; first | refine GX.b_inc ?_ | refine GX.b_add ?_ | refine GX.b_addw ?_) | (apply GX.k_assign; refine GX.a ?_) | (apply GX.k_call; refine GX.c_len ?_) | (apply GX.k_binOp_eql; first | refine GX.b_eql ?_ | refine GX.b_pn ?_ | refine GX.b_nn ?_ | refine GX.b_snn ?_ | refine GX.b_sns ?_ | refine GX.b_eqls ?_ | refine GX.b_eqltf ?_ | refine GX.b_eqlft ?_ | refine GX.b_eqlb ?_)) | refine GX.gt ?_ | refine GX.gf ?_ | refine GX.gbt ?_ | refine GX.gbf ?_ | refine GX.un ?_ | refine GX.un0 ?_) | apply GX.then_normal | apply GX.seq | apply GX.region | (apply GX.s_cond; first | refine GX.ct ?_ | refine GX.cf ?_ | refine GX.cdf ?_ | refine GX.cdt ?_ | refine GX.cbt ?_ | refine GX.cbf ?_) | apply GX.skip | apply GX.block | apply GX.inBlock_normal | apply GX.exit | apply GX.then_exit | apply GX.inBlock_exit | refine GX.ibo ?_ | apply GX.ret | apply GX.then_ret | apply GX.inBlock_ret)
  refine GX.loop (σ := Nat) (fun i => [(0, .slice ao l.length cap), (1, .int .i64 v), (7, .int .i64 (l.length : Int)), (8, .int .i64 (i : Int))]) (fun _ => []) (fun _ => [])
    (fun i => i ≤ l.length ∧ ∀ y ∈ l.take i, decide (v = y) = false) (fun i => l.length - i) 0 ⟨rfl, rfl, rfl, rfl, trivial⟩ ⟨by omega, by simp⟩ (fun i hi => ?_)
  obtain ⟨hi, hn⟩ := hi
  by_cases hlt : i < l.length
  · obtain ⟨x, hx⟩ := get_lt hlt
    by_cases hxv : v = x
    · repeat (first | (apply GX.s_list; first | apply GX.nil | (refine GX.o ?_; first | (apply GX.k_load; first | refine GX.lr ?_ | refine GX.lrA ?_ | refine GX.ln ?_ | refine GX.lb ?_ | refine GX.lh ?_ | (refine GX.ls ?_; intro ao cap _ _) | (refine GX.lA ?_; intro cs) | (refine GX.l0 ?_; intro cs) | refine GX.o1n ?_ | refine GX.o1b ?_ | refine GX.o1h ?_ | (refine GX.o1s ?_; intro ao cap _ _) | refine GX.omn ?_ | refine GX.omb ?_ | refine GX.omh ?_ | (refine GX.oms ?_; intro ao cap _ _) | refine GX.ofn ?_ | refine GX.ofb ?_ | refine GX.ofh ?_ | (refine GX.ofs ?_; intro ao cap _ _) | (refine GX.oA ?_; intro cs)) | (apply GX.k_move; refine GX.m ?_) | (apply GX.k_indexAddr; first | refine GX.io1 ?_ | refine GX.ioh ?_ | refine GX.i1 ?_ | refine GX.ih ?_ | (refine GX.ix ?_; intro bl o)) | (apply GX.k_binOp_lss; refine GX.b_lss ?_) | (apply GX.k_binOp_add; first | refine GX.b_inc ?_ | refine GX.b_add ?_ | refine GX.b_addw ?_) | (apply GX.k_assign; refine GX.a ?_) | (apply GX.k_call; refine GX.c_len ?_) | (apply GX.k_binOp_eql; first | refine GX.b_eql ?_ | refine GX.b_pn ?_ | refine GX.b_nn ?_ | refine GX.b_snn ?_ | refine GX.b_sns ?_ | refine GX.b_eqls ?_ | refine GX.b_eqltf ?_ | refine GX.b_eqlft ?_ | refine GX.b_eqlb ?_)) | refine GX.gt ?_ | refine GX.gf ?_ | refine GX.gbt ?_ | refine GX.gbf ?_ | refine GX.un ?_ | refine GX.un0 ?_) | apply GX.then_normal | apply GX.seq | apply GX.region | (apply GX.s_cond; first | refine GX.ct ?_ | refine GX.cf ?_ | refine GX.cdf ?_ | refine GX.cdt ?_ | refine GX.cbt ?_ | refine GX.cbf ?_) | apply GX.skip | apply GX.block | apply GX.inBlock_normal | apply GX.exit | apply GX.then_exit | apply GX.inBlock_exit | refine GX.ibo ?_ | apply GX.ret | apply GX.then_ret | apply GX.inBlock_ret)
      exact rt1 () (congrArg (Value.int .i64) (idxF_some hx (decide_eq_true hxv) hn))
    · repeat (first | (apply GX.s_list; first | apply GX.nil | (refine GX.o ?_; first | (apply GX.k_load; first | refine GX.lr ?_ | refine GX.lrA ?_ | refine GX.ln ?_ | refine GX.lb ?_ | refine GX.lh ?_ | (refine GX.ls ?_; intro ao cap _ _) | (refine GX.lA ?_; intro cs) | (refine GX.l0 ?_; intro cs) | refine GX.o1n ?_ | refine GX.o1b ?_ | refine GX.o1h ?_ | (refine GX.o1s ?_; intro ao cap _ _) | refine GX.omn ?_ | refine GX.omb ?_ | refine GX.omh ?_ | (refine GX.oms ?_; intro ao cap _ _) | refine GX.ofn ?_ | refine GX.ofb ?_ | refine GX.ofh ?_ | (refine GX.ofs ?_; intro ao cap _ _) | (refine GX.oA ?_; intro cs)) | (apply GX.k_move; refine GX.m ?_) | (apply GX.k_indexAddr; first | refine GX.io1 ?_ | refine GX.ioh ?_ | refine GX.i1 ?_ | refine GX.ih ?_ | (refine GX.ix ?_; intro bl o)) | (apply GX.k_binOp_lss; refine GX.b_lss ?_) | (apply GX.k_binOp_add; first | refine GX.b_inc ?_ | refine GX.b_add ?_ | refine GX.b_addw ?_) | (apply GX.k_assign; refine GX.a ?_) | (apply GX.k_call; refine GX.c_len ?_) | (apply GX.k_binOp_eql; first | refine GX.b_eql ?_ | refine GX.b_pn ?_ | refine GX.b_nn ?_ | refine GX.b_snn ?_ | refine GX.b_sns ?_ | refine GX.b_eqls ?_ | refine GX.b_eqltf ?_ | refine GX.b_eqlft ?_ | refine GX.b_eqlb ?_)) | refine GX.gt ?_ | refine GX.gf ?_ | refine GX.gbt ?_ | refine GX.gbf ?_ | refine GX.un ?_ | refine GX.un0 ?_) | apply GX.then_normal | apply GX.seq | apply GX.region | (apply GX.s_cond; first | refine GX.ct ?_ | refine GX.cf ?_ | refine GX.cdf ?_ | refine GX.cdt ?_ | refine GX.cbt ?_ | refine GX.cbf ?_) | apply GX.skip | apply GX.block | apply GX.inBlock_normal | apply GX.exit | apply GX.then_exit | apply GX.inBlock_exit | refine GX.ibo ?_ | apply GX.ret | apply GX.then_ret | apply GX.inBlock_ret)
      exact again (i + 1) ⟨rfl, rfl, rfl, rfl, trivial⟩ ⟨by omega, take_all_succ (p := fun y => decide (v = y)) hx (decide_eq_false hxv) hn⟩ (by omega)
  · have hil : i = l.length := by omega
    subst hil
    rw [List.take_length] at hn
    repeat (first | (apply GX.s_list; first | apply GX.nil | (refine GX.o ?_; first | (apply GX.k_load; first | refine GX.lr ?_ | refine GX.lrA ?_ | refine GX.ln ?_ | refine GX.lb ?_ | refine GX.lh ?_ | (refine GX.ls ?_; intro ao cap _ _) | (refine GX.lA ?_; intro cs) | (refine GX.l0 ?_; intro cs) | refine GX.o1n ?_ | refine GX.o1b ?_ | refine GX.o1h ?_ | (refine GX.o1s ?_; intro ao cap _ _) | refine GX.omn ?_ | refine GX.omb ?_ | refine GX.omh ?_ | (refine GX.oms ?_; intro ao cap _ _) | refine GX.ofn ?_ | refine GX.ofb ?_ | refine GX.ofh ?_ | (refine GX.ofs ?_; intro ao cap _ _) | (refine GX.oA ?_; intro cs)) | (apply GX.k_move; refine GX.m ?_) | (apply GX.k_indexAddr; first | refine GX.io1 ?_ | refine GX.ioh ?_ | refine GX.i1 ?_ | refine GX.ih ?_ | (refine GX.ix ?_; intro bl o)) | (apply GX.k_binOp_lss; refine GX.b_lss ?_) | (apply GX.k_binOp_add; first | refine GX.b_inc ?_ | refine GX.b_add ?_ | refine GX.b_addw ?_) | (apply GX.k_assign; refine GX.a ?_) | (apply GX.k_call; refine GX.c_len ?_) | (apply GX.k_binOp_eql; first | refine GX.b_eql ?_ | refine GX.b_pn ?_ | refine GX.b_nn ?_ | refine GX.b_snn ?_ | refine GX.b_sns ?_ | refine GX.b_eqls ?_ | refine GX.b_eqltf ?_ | refine GX.b_eqlft ?_ | refine GX.b_eqlb ?_)) | refine GX.gt ?_ | refine GX.gf ?_ | refine GX.gbt ?_ | refine GX.gbf ?_ | refine GX.un ?_ | refine GX.un0 ?_) | apply GX.then_normal | apply GX.seq | apply GX.region | (apply GX.s_cond; first | refine GX.ct ?_ | refine GX.cf ?_ | refine GX.cdf ?_ | refine GX.cdt ?_ | refine GX.cbt ?_ | refine GX.cbf ?_) | apply GX.skip | apply GX.block | apply GX.inBlock_normal | apply GX.exit | apply GX.then_exit | apply GX.inBlock_exit | refine GX.ibo ?_ | apply GX.ret | apply GX.then_ret | apply GX.inBlock_ret)
    exact rt1 () (congrArg (Value.int .i64) (idxF_none hn))
theorem contains_spec (ao : Option Addr) (cap : Nat) (l : List Int) (v : Int) : Does Try.prog 72 [.slice ao l.length cap, .int .i64 v] [Sl Ty.int ao cap l] []
    (fun _ : Unit => .bool (decide (v ∈ l))) (fun _ => []) (fun _ => []) := by
  refine enter Try.func72 rfl Try.ntmps72 rfl fun b => ?_
  repeat (first | (apply GX.s_list; first | apply GX.nil | (refine GX.o ?_; first | (apply GX.k_move; refine GX.m ?_) | (apply GX.k_assign; refine GX.a ?_) | (apply GX.k_binOp_geq; refine GX.b_geq ?_)) | refine GX.gt ?_ | refine GX.gf ?_ | refine GX.gbt ?_ | refine GX.gbf ?_ | refine GX.un ?_ | refine GX.un0 ?_) | apply GX.then_normal | apply GX.seq | apply GX.region | (apply GX.s_cond; first | refine GX.ct ?_ | refine GX.cf ?_ | refine GX.cdf ?_ | refine GX.cdt ?_ | refine GX.cbt ?_ | refine GX.cbf ?_) | apply GX.skip | apply GX.block | apply GX.inBlock_normal | apply GX.exit | apply GX.then_exit | apply GX.inBlock_exit | refine GX.ibo ?_ | apply GX.ret | apply GX.then_ret | apply GX.inBlock_ret)
  refine GX.o (cl (index_spec ao cap l v) fun _ => ?_)
  have e : decide (v ∈ l) = decide (0 ≤ idxF (fun x => decide (v = x)) l) := by
    rw [idxF_any, Bool.eq_iff_iff, List.any_eq_true]
    simp
  rw [e]
  repeat (first | (apply GX.s_list; first | apply GX.nil | (refine GX.o ?_; first | (apply GX.k_move; refine GX.m ?_) | (apply GX.k_assign; refine GX.a ?_) | (apply GX.k_binOp_geq; refine GX.b_geq ?_)) | refine GX.gt ?_ | refine GX.gf ?_ | refine GX.gbt ?_ | refine GX.gbf ?_ | refine GX.un ?_ | refine GX.un0 ?_) | apply GX.then_normal | apply GX.seq | apply GX.region | (apply GX.s_cond; first | refine GX.ct ?_ | refine GX.cf ?_ | refine GX.cdf ?_ | refine GX.cdt ?_ | refine GX.cbt ?_ | refine GX.cbf ?_) | apply GX.skip | apply GX.block | apply GX.inBlock_normal | apply GX.exit | apply GX.then_exit | apply GX.inBlock_exit | refine GX.ibo ?_ | apply GX.ret | apply GX.then_ret | apply GX.inBlock_ret)
  exact rt1 () rfl
end Go.Proofs.Ytdkhfjcbhpfkoaa

/- Rising lists of ints: what put, sorting and striking out make of them. No program in sight. -/
namespace Go.RiseM
open Go

/-- A list that rises. -/
def Rise (l : List Int) : Prop := l.Pairwise (· < ·)
instance (l : List Int) : Decidable (Rise l) := by unfold Rise; infer_instance
theorem Rise.eq : ∀ {l m : List Int}, Rise l → Rise m → (∀ x, x ∈ l ↔ x ∈ m) → l = m
  | [], [], _, _, _ => rfl
  | [], y :: m, _, _, h => absurd ((h y).2 (by simp)) (by simp)
  | x :: l, [], _, _, h => absurd ((h x).1 (by simp)) (by simp)
  | x :: l, y :: m, h1, h2, h => by
    have a1 := List.pairwise_cons.1 h1
    have a2 := List.pairwise_cons.1 h2
    have e : x = y := by
      rcases List.mem_cons.1 ((h x).1 (by simp)) with c | c
      · exact c
      · rcases List.mem_cons.1 ((h y).2 (by simp)) with d | d
        · exact d.symm
        · have := a2.1 x c; have := a1.1 y d; omega
    subst e
    congr 1
    refine Rise.eq a1.2 a2.2 fun z => ⟨fun hz => ?_, fun hz => ?_⟩
    · rcases List.mem_cons.1 ((h z).1 (List.mem_cons_of_mem _ hz)) with c | c
      · subst c; have := a1.1 z hz; omega
      · exact c
    · rcases List.mem_cons.1 ((h z).2 (List.mem_cons_of_mem _ hz)) with c | c
      · subst c; have := a2.1 z hz; omega
      · exact c
theorem compactUpTo_rise {xs : List Int} (h : xs.Pairwise (· ≤ ·)) : ∀ m, m ≤ xs.length → Rise (Lib.compactUpTo xs.toArray m) ∧ (∀ x, x ∈ Lib.compactUpTo xs.toArray m ↔ x ∈ xs.take m) := by
  intro m
  induction m with
  | zero => intro _; exact ⟨List.Pairwise.nil, by simp [Lib.compactUpTo]⟩
  | succ m ih =>
    intro hm
    obtain ⟨h1, h2⟩ := ih (by omega)
    have hx : xs.toArray[m]! = xs[m] := by rw [getElem!_pos xs.toArray m (by simp; omega)]; simp
    have ht : xs.take (m + 1) = xs.take m ++ [xs[m]] := by rw [List.take_add_one, List.getElem?_eq_getElem (by omega)]; rfl
    have hle : ∀ y ∈ xs.take m, y ≤ xs[m] := fun y hy => by
      obtain ⟨j, hj, rfl⟩ := List.mem_take_iff_getElem.1 hy
      exact List.pairwise_iff_getElem.1 h j m (by omega) (by omega) (by omega)
    rw [Lib.compactUpTo_succ, ht, hx]
    by_cases hk : Lib.keeps xs.toArray m = true
    · rw [if_pos hk]
      refine ⟨List.pairwise_append.2 ⟨h1, by simp, fun a ha c hc => ?_⟩, fun x => by rw [List.mem_append, List.mem_append, h2]⟩
      obtain rfl : c = xs[m] := by simpa using hc
      have ha2 := (h2 a).1 ha
      obtain ⟨j, hj, rfl⟩ := List.mem_take_iff_getElem.1 ha2
      simp only [Lib.keeps, decide_eq_true_eq] at hk
      have hm0 : m ≠ 0 := by omega
      have hne : xs.toArray[m]! ≠ xs.toArray[m - 1]! := by rcases hk with c | c; exact absurd c hm0; exact c
      rw [hx, getElem!_pos xs.toArray (m - 1) (by simp; omega)] at hne
      have hne : xs[m] ≠ xs[m - 1] := by simpa using hne
      have h3 := List.pairwise_iff_getElem.1 h (m - 1) m (by omega) (by omega) (by omega)
      have h4 : xs[j] ≤ xs[m - 1] := by
        by_cases e : j = m - 1
        · subst e; exact Int.le_refl _
        · exact List.pairwise_iff_getElem.1 h j (m - 1) (by omega) (by omega) (by omega)
      omega
    · rw [if_neg hk, List.append_nil]
      refine ⟨h1, fun x => ?_⟩
      rw [h2, List.mem_append]
      refine ⟨.inl, fun hx2 => ?_⟩
      rcases hx2 with c | c
      · exact c
      · obtain rfl : x = xs[m] := by simpa using c
        simp only [Lib.keeps, decide_eq_true_eq] at hk
        have hm0 : m ≠ 0 := fun e => hk (.inl e)
        have he : xs.toArray[m]! = xs.toArray[m - 1]! := Classical.not_not.1 fun e => hk (.inr e)
        rw [hx, getElem!_pos xs.toArray (m - 1) (by simp; omega)] at he
        have he : xs[m] = xs[m - 1] := by simpa using he
        rw [he]
        exact List.mem_take_iff_getElem.2 ⟨m - 1, by omega, rfl⟩
theorem compact_rise {xs : List Int} (h : xs.Pairwise (· ≤ ·)) : Rise (Lib.compact xs) ∧ ∀ x, x ∈ Lib.compact xs ↔ x ∈ xs := by
  have := compactUpTo_rise h xs.length (Nat.le_refl _)
  rwa [List.take_length] at this

/-- A number into a rising list, once. -/
def put (l : List Int) (v : Int) : List Int := if v ∈ l then l else l.filter (· < v) ++ v :: l.filter (v < ·)
theorem put_mem {l : List Int} {v x : Int} : x ∈ put l v ↔ x = v ∨ x ∈ l := by
  unfold put
  split
  · rename_i h
    constructor
    · exact .inr
    · rintro (rfl | h2)
      · exact h
      · exact h2
  · rename_i h
    rw [List.mem_append, List.mem_cons, List.mem_filter, List.mem_filter]
    simp only [decide_eq_true_eq]
    constructor
    · rintro (⟨h1, _⟩ | h1 | ⟨h1, _⟩)
      · exact .inr h1
      · exact .inl h1
      · exact .inr h1
    · rintro (h1 | h1)
      · exact .inr (.inl h1)
      · rcases Int.lt_trichotomy x v with c | c | c
        · exact .inl ⟨h1, c⟩
        · exact .inr (.inl c)
        · exact .inr (.inr ⟨h1, c⟩)
theorem Rise.put {l : List Int} (h : Rise l) (v : Int) : Rise (put l v) := by
  unfold RiseM.put
  split
  · exact h
  · refine List.pairwise_append.2 ⟨h.filter _, List.pairwise_cons.2 ⟨fun x hx => ?_, h.filter _⟩, fun a ha c hc => ?_⟩
    · simpa using (List.mem_filter.1 hx).2
    · have h1 : a < v := by simpa using (List.mem_filter.1 ha).2
      rcases List.mem_cons.1 hc with rfl | hc
      · exact h1
      · have h2 : v < c := by simpa using (List.mem_filter.1 hc).2
        omega
/-- How 'put' finds the place. -/
theorem put_at {l : List Int} (h : Rise l) {v : Int} {k : Nat} (h1 : ∀ x ∈ l.take k, x < v) (h2 : ∀ x ∈ l.drop k, v < x) : put l v = l.take k ++ v :: l.drop k := by
  have hn : v ∉ l := fun hv => by
    rw [← List.take_append_drop k l, List.mem_append] at hv
    rcases hv with c | c
    · have := h1 v c; omega
    · have := h2 v c; omega
  unfold put
  rw [if_neg hn]
  have e1 : l.filter (· < v) = l.take k := by
    conv => lhs; rw [← List.take_append_drop k l]
    rw [List.filter_append, List.filter_eq_self.2 (fun x hx => by simpa using h1 x hx), List.filter_eq_nil_iff.2 (fun x hx => by have := h2 x hx; simp; omega), List.append_nil]
  have e2 : l.filter (v < ·) = l.drop k := by
    conv => lhs; rw [← List.take_append_drop k l]
    have a1 : (l.drop k).filter (v < ·) = l.drop k := List.filter_eq_self.2 (fun x hx => by simpa using h2 x hx)
    have a2 : (l.take k).filter (v < ·) = [] := List.filter_eq_nil_iff.2 (fun x hx => by have := h1 x hx; simp; omega)
    rw [List.filter_append, a1, a2, List.nil_append]
  rw [e1, e2]
theorem put_len (l : List Int) (v : Int) : (put l v).length ≤ l.length + 1 := by
  unfold put
  split
  · omega
  · rw [List.length_append, List.length_cons]
    have e2 : ∀ (l : List Int), (l.filter fun x => decide (x < v)).length + (l.filter fun x => decide (v < x)).length ≤ l.length := by
      intro l
      induction l with
      | nil => simp
      | cons z l ih =>
        rw [List.filter_cons, List.filter_cons]
        by_cases c : z < v
        · have : ¬ v < z := by omega
          simp [c, this]; omega
        · by_cases c2 : v < z
          · simp [c, c2]; omega
          · simp [c, c2]; omega
    have := e2 l
    omega
/-- All of a list, one after the other. -/
def puts (l : List Int) : List Int := l.foldl put []
theorem puts_snoc (l : List Int) (x : Int) : puts (l ++ [x]) = put (puts l) x := by simp [puts, List.foldl_append]
theorem puts_spec (l : List Int) : Rise (puts l) ∧ ∀ x, x ∈ puts l ↔ x ∈ l := by
  have key : ∀ (l acc : List Int), Rise acc → Rise (l.foldl put acc) ∧ ∀ x, x ∈ l.foldl put acc ↔ x ∈ acc ∨ x ∈ l := by
    intro l
    induction l with
    | nil => intro acc h; exact ⟨h, by simp⟩
    | cons y l ih =>
      intro acc h
      obtain ⟨h1, h2⟩ := ih (put acc y) (h.put y)
      refine ⟨h1, fun x => ?_⟩
      rw [List.foldl_cons, h2, put_mem, List.mem_cons]
      constructor
      · rintro ((h | h) | h)
        · exact .inr (.inl h)
        · exact .inl h
        · exact .inr (.inr h)
      · rintro (h | h | h)
        · exact .inl (.inr h)
        · exact .inl (.inl h)
        · exact .inr h
  obtain ⟨h1, h2⟩ := key l [] List.Pairwise.nil
  exact ⟨h1, fun x => by rw [puts, h2]; simp⟩
end Go.RiseM

/- What is reached in a graph that is told by lists. No program in sight. -/
namespace Go.ReachM
open Go.RiseM

/-- What is reached from some roots. -/
inductive RC (f : List (List Int)) (roots : List Int) : Nat → Prop where
  | root {c : Nat} : (c : Int) ∈ roots → c < f.length → RC f roots c
  | step {c d : Nat} {l : List Int} : RC f roots c → f[c]? = some l → (d : Int) ∈ l → d < f.length → RC f roots d
theorem RC.lt {f : List (List Int)} {r : List Int} {c : Nat} (h : RC f r c) : c < f.length := by
  cases h with
  | root _ h => exact h
  | step _ _ _ h => exact h
theorem RC.sub {f : List (List Int)} {r s : List Int} {c : Nat} (h : RC f r c) (hs : ∀ x ∈ r, x ∈ s) : RC f s c := by
  induction h with
  | root h1 h2 => exact .root (hs _ h1) h2
  | step _ h2 h3 h4 ih => exact .step ih h2 h3 h4
/-- The marked ones of the first i, as numbers. -/
def marked (m : List Bool) (i : Nat) : List Int := ((List.range i).filter fun c => decide (m[c]? = some true)).map fun c : Nat => (c : Int)
theorem marked_succ (m : List Bool) (i : Nat) : marked m (i + 1) = marked m i ++ (if m[i]? = some true then [(i : Int)] else []) := by
  unfold marked
  rw [List.range_succ, List.filter_append, List.map_append]
  congr 1
  by_cases h : m[i]? = some true <;> simp [h]
theorem marked_len (m : List Bool) (i : Nat) : (marked m i).length ≤ i := by
  have := List.length_filter_le (fun c => decide (m[c]? = some true)) (List.range i)
  unfold marked; rw [List.length_map]; rw [List.length_range] at this; exact this
open Classical in
noncomputable def fromL (f : List (List Int)) (r : List Int) : List Int := ((List.range f.length).filter fun c => decide (RC f r c)).map fun c : Nat => (c : Int)
theorem fromL_mem {f : List (List Int)} {r : List Int} {x : Int} : x ∈ fromL f r ↔ ∃ c : Nat, x = c ∧ RC f r c := by
  unfold fromL
  simp only [List.mem_map, List.mem_filter, List.mem_range, decide_eq_true_eq]
  constructor
  · rintro ⟨c, ⟨_, h⟩, rfl⟩; exact ⟨c, rfl, h⟩
  · rintro ⟨c, rfl, h⟩; exact ⟨c, ⟨h.lt, h⟩, rfl⟩
theorem fromL_mem' {f : List (List Int)} {r : List Int} {c : Nat} : (c : Int) ∈ fromL f r ↔ RC f r c := by
  rw [fromL_mem]
  constructor
  · rintro ⟨d, e, h⟩; obtain rfl : c = d := by omega
    exact h
  · intro h; exact ⟨c, rfl, h⟩
theorem rise_range {p : Nat → Bool} (n : Nat) : Rise (((List.range n).filter p).map fun c : Nat => (c : Int)) := by
  unfold Rise
  rw [List.pairwise_map]
  exact (List.Pairwise.filter p List.pairwise_lt_range).imp (by intro a b h; omega)
theorem fromL_rise (f : List (List Int)) (r : List Int) : Rise (fromL f r) := rise_range _
theorem fromL_len (f : List (List Int)) (r : List Int) : (fromL f r).length ≤ f.length := by
  unfold fromL
  rw [List.length_map]
  have := List.length_filter_le (fun c => @decide (RC f r c) (Classical.propDecidable _)) (List.range f.length)
  rw [List.length_range] at this; exact this
theorem fromL_in {f : List (List Int)} {r : List Int} {x : Int} (h : x ∈ fromL f r) : 0 ≤ x ∧ x < f.length := by
  obtain ⟨c, rfl, h2⟩ := fromL_mem.1 h
  have := h2.lt; omega
theorem fromL_congr {f : List (List Int)} {r s : List Int} (h : ∀ x, x ∈ r ↔ x ∈ s) : fromL f r = fromL f s := by
  refine Rise.eq (fromL_rise _ _) (fromL_rise _ _) fun x => ?_
  rw [fromL_mem, fromL_mem]
  exact ⟨fun ⟨c, e, hc⟩ => ⟨c, e, hc.sub fun y hy => (h y).1 hy⟩, fun ⟨c, e, hc⟩ => ⟨c, e, hc.sub fun y hy => (h y).2 hy⟩⟩
theorem fromL_nil {f : List (List Int)} {r : List Int} (h : ∀ x ∈ r, ¬ (0 ≤ x ∧ x < f.length)) : fromL f r = [] := by
  have key : ∀ c, ¬ RC f r c := by
    intro c hc
    induction hc with
    | root h1 h2 => exact h _ h1 ⟨by omega, by omega⟩
    | step _ _ _ _ ih => exact ih
  refine Rise.eq (fromL_rise _ _) List.Pairwise.nil fun x => ?_
  rw [fromL_mem]
  constructor
  · rintro ⟨c, _, hc⟩; exact absurd hc (key c)
  · intro h; simp at h
theorem marked_from {f : List (List Int)} {r : List Int} {m : List Bool} (hl : m.length = f.length) (h : ∀ c, m[c]? = some true ↔ RC f r c) : marked m m.length = fromL f r := by
  refine Rise.eq (rise_range _) (fromL_rise _ _) fun x => ?_
  rw [fromL_mem]
  unfold marked
  simp only [List.mem_map, List.mem_filter, List.mem_range, decide_eq_true_eq]
  constructor
  · rintro ⟨c, ⟨_, h1⟩, rfl⟩; exact ⟨c, rfl, (h c).1 h1⟩
  · rintro ⟨c, rfl, h1⟩; exact ⟨c, ⟨by rw [hl]; exact h1.lt, (h c).2 h1⟩, rfl⟩

/-- How much the unmarked ones may yet bring. -/
def wt : List (List Int) → List Bool → Nat
  | l :: f, b :: m => (if b = true then 0 else l.length) + wt f m
  | _, _ => 0
theorem wt_set : ∀ {f : List (List Int)} {m : List Bool} {c : Nat} {l : List Int}, f[c]? = some l → m[c]? = some false → wt f (m.set c true) + l.length = wt f m
  | [], _, _, _, h, _ => by simp at h
  | _ :: _, [], _, _, _, h => by simp at h
  | k :: f, b :: m, 0, l, h1, h2 => by
    simp at h1 h2; subst h1; subst h2
    simp [wt]; omega
  | k :: f, b :: m, c + 1, l, h1, h2 => by
    have := wt_set (f := f) (m := m) (c := c) (l := l) (by simpa using h1) (by simpa using h2)
    simp only [List.set_cons_succ, wt]; omega
theorem wt_rep (f : List (List Int)) (n : Nat) : wt f (List.replicate n false) ≤ (f.map List.length).sum := by
  induction f generalizing n with
  | nil => simp [wt]
  | cons l f ih =>
    cases n with
    | zero => simp [wt]
    | succ n => rw [List.replicate_succ, wt, List.map_cons, List.sum_cons]; have := ih n; simp; omega
theorem cnt_set : ∀ {m : List Bool} {k : Nat}, m[k]? = some false → (m.set k true).count false + 1 = m.count false
  | [], _, h => by simp at h
  | b :: m, 0, h => by simp at h; subst h; simp
  | b :: m, k + 1, h => by
    have := cnt_set (m := m) (k := k) (by simpa using h)
    rw [List.set_cons_succ, List.count_cons, List.count_cons]; omega
theorem set_true {m : List Bool} {y k : Nat} (h : m[k]? = some true) : (m.set y true)[k]? = some true := by
  by_cases e : k = y
  · subst e; rw [List.getElem?_set_self (List.getElem?_eq_some_iff.1 h).1]
  · rw [List.getElem?_set_ne (by omega)]; exact h
theorem set_back {m : List Bool} {y k : Nat} (h : (m.set y true)[k]? = some true) : k = y ∨ m[k]? = some true := by
  by_cases e : k = y
  · exact .inl e
  · rw [List.getElem?_set_ne (by omega)] at h; exact .inr h

/-- Marks, and what is yet to be looked at. -/
structure Wk (f : List (List Int)) (r : List Int) (m : List Bool) (w : List Int) : Prop where
  len : m.length = f.length
  sound : ∀ c : Nat, m[c]? = some true → RC f r c
  work : ∀ c : Nat, (c : Int) ∈ w → c < f.length → RC f r c
  roots : ∀ c : Nat, (c : Int) ∈ r → c < f.length → m[c]? = some true ∨ (c : Int) ∈ w
  closed : ∀ (c d : Nat) (l : List Int), m[c]? = some true → f[c]? = some l → (d : Int) ∈ l → d < f.length → m[d]? = some true ∨ (d : Int) ∈ w
theorem Wk.first (f : List (List Int)) (r : List Int) : Wk f r (List.replicate f.length false) r where
  len := by simp
  sound c h := by rw [List.getElem?_replicate] at h; split at h <;> simp at h
  work c h1 h2 := .root h1 h2
  roots c h1 _ := .inr h1
  closed c d l h := by rw [List.getElem?_replicate] at h; split at h <;> simp at h
theorem Wk.drop {f : List (List Int)} {r : List Int} {m : List Bool} {w : List Int} {x : Int} (h : Wk f r m (w ++ [x])) (hx : ∀ c : Nat, x = c → c < f.length → m[c]? = some true) : Wk f r m w where
  len := h.len
  sound := h.sound
  work c h1 := h.work c (by simp [h1])
  roots c h1 h2 := by
    rcases h.roots c h1 h2 with h3 | h3
    · exact .inl h3
    · rw [List.mem_append, List.mem_singleton] at h3
      exact h3.elim .inr fun e => .inl (hx c e.symm h2)
  closed c d l h1 h2 h3 h4 := by
    rcases h.closed c d l h1 h2 h3 h4 with h5 | h5
    · exact .inl h5
    · rw [List.mem_append, List.mem_singleton] at h5
      exact h5.elim .inr fun e => .inl (hx d e.symm h4)
theorem Wk.mark {f : List (List Int)} {r : List Int} {m : List Bool} {w : List Int} {c : Nat} {l : List Int} (h : Wk f r m (w ++ [(c : Int)])) (hl : f[c]? = some l) : Wk f r (m.set c true) (w ++ l) := by
  have hc : c < f.length := (List.getElem?_eq_some_iff.1 hl).1
  have hs : (m.set c true)[c]? = some true := by rw [List.getElem?_set_self (by rw [h.len]; exact hc)]
  have hrc : RC f r c := h.work c (by simp) hc
  have key : ∀ d : Nat, (m[d]? = some true ∨ (d : Int) ∈ w ++ [(c : Int)]) → (m.set c true)[d]? = some true ∨ (d : Int) ∈ w ++ l := fun d hd => by
    rw [List.mem_append, List.mem_singleton] at hd
    rcases hd with h1 | h1 | h1
    · exact .inl (set_true h1)
    · exact .inr (by simp [h1])
    · obtain rfl : d = c := by omega
      exact .inl hs
  refine ⟨by rw [List.length_set]; exact h.len, fun d hd => ?_, fun d hd hdl => ?_, fun d h1 h2 => key d (h.roots d h1 h2), fun d e k h1 h2 h3 h4 => ?_⟩
  · rcases set_back hd with rfl | hd
    · exact hrc
    · exact h.sound d hd
  · rw [List.mem_append] at hd
    rcases hd with hd | hd
    · exact h.work d (by simp [hd]) hdl
    · exact .step hrc hl hd hdl
  · rcases set_back h1 with rfl | h1
    · rw [hl] at h2; cases h2; exact .inr (by simp [h3])
    · exact key e (h.closed d e k h1 h2 h3 h4)
theorem Wk.done {f : List (List Int)} {r : List Int} {m : List Bool} (h : Wk f r m []) : marked m m.length = fromL f r := by
  refine marked_from h.len fun c => ⟨h.sound c, fun hc => ?_⟩
  induction hc with
  | root h1 h2 => exact (h.roots _ h1 h2).elim id (fun h => by simp at h)
  | step _ h2 h3 h4 ih => exact (h.closed _ _ _ ih h2 h3 h4).elim id (fun h => by simp at h)

/-- Marks in a pass over all of them, at the first k of what c leads to. -/
structure Ps (f : List (List Int)) (r : List Int) (c0 : Nat) (more : Bool) (m : List Bool) (c k : Nat) : Prop where
  len : m.length = f.length
  sound : ∀ c : Nat, m[c]? = some true → RC f r c
  roots : ∀ c : Nat, (c : Int) ∈ r → c < f.length → m[c]? = some true
  shut : more = false → (∀ (a d : Nat) (l : List Int), a < c → m[a]? = some true → f[a]? = some l → (d : Int) ∈ l → d < f.length → m[d]? = some true) ∧
    ∀ (d : Nat) (l : List Int), m[c]? = some true → f[c]? = some l → (d : Int) ∈ l.take k → d < f.length → m[d]? = some true
  less : if more = true then m.count false < c0 else m.count false = c0
theorem Ps.begin {f : List (List Int)} {r : List Int} {m : List Bool} (h1 : m.length = f.length) (h2 : ∀ c : Nat, m[c]? = some true → RC f r c) (h3 : ∀ c : Nat, (c : Int) ∈ r → c < f.length → m[c]? = some true) : Ps f r (m.count false) false m 0 0 :=
  ⟨h1, h2, h3, fun _ => ⟨fun a d l h => by omega, fun d l _ _ h => by simp at h⟩, by simp⟩
theorem Ps.fin {f : List (List Int)} {r : List Int} {c0 : Nat} {more : Bool} {m : List Bool} {c k : Nat} (h : Ps f r c0 more m c k) (hk : m[c]? = some true → ∀ l, f[c]? = some l → l.length ≤ k) : Ps f r c0 more m (c + 1) 0 :=
  ⟨h.len, h.sound, h.roots, fun e => ⟨fun a d l h1 h2 h3 h4 h5 => by
    by_cases e2 : a = c
    · subst e2
      refine (h.shut e).2 d l h2 h3 ?_ h5
      rw [List.take_of_length_le (hk h2 l h3)]; exact h4
    · exact (h.shut e).1 a d l (by omega) h2 h3 h4 h5, fun d l _ _ h => by simp at h⟩, h.less⟩
theorem Ps.old {f : List (List Int)} {r : List Int} {c0 : Nat} {more : Bool} {m : List Bool} {c k : Nat} {l : List Int} {x : Int} (h : Ps f r c0 more m c k) (hl : f[c]? = some l) (hx : l[k]? = some x) (hm : ∀ d : Nat, x = d → d < f.length → m[d]? = some true) : Ps f r c0 more m c (k + 1) :=
  ⟨h.len, h.sound, h.roots, fun e => ⟨(h.shut e).1, fun d l' h1 h2 h3 h4 => by
    rw [hl] at h2; cases h2
    rw [List.take_add_one, hx, List.mem_append] at h3
    rcases h3 with h3 | h3
    · exact (h.shut e).2 d l h1 hl h3 h4
    · exact hm d (by have h5 := h3; simp at h5; exact h5.symm) h4⟩, h.less⟩
theorem Ps.new {f : List (List Int)} {r : List Int} {c0 : Nat} {more : Bool} {m : List Bool} {c k : Nat} {l : List Int} {y : Nat} (h : Ps f r c0 more m c k) (hl : f[c]? = some l) (hx : l[k]? = some (y : Int)) (hc : m[c]? = some true) (hm : m[y]? = some false) : Ps f r c0 true (m.set y true) c (k + 1) := by
  have hy : y < f.length := by rw [← h.len]; exact (List.getElem?_eq_some_iff.1 hm).1
  refine ⟨by rw [List.length_set]; exact h.len, fun d hd => ?_, fun d h1 h2 => set_true (h.roots d h1 h2), fun e => by simp at e, ?_⟩
  · rcases set_back hd with rfl | hd
    · exact .step (h.sound c hc) hl (List.mem_of_getElem? hx) hy
    · exact h.sound d hd
  · have h1 := cnt_set hm
    have h2 := h.less
    rw [if_pos rfl]
    split at h2 <;> omega
theorem Ps.done {f : List (List Int)} {r : List Int} {c0 : Nat} {m : List Bool} (h : Ps f r c0 false m f.length 0) : marked m m.length = fromL f r := by
  refine marked_from h.len fun c => ⟨h.sound c, fun hc => ?_⟩
  induction hc with
  | root h1 h2 => exact h.roots _ h1 h2
  | step hc h2 h3 h4 ih => exact (h.shut rfl).1 _ _ _ hc.lt ih h2 h3 h4
end Go.ReachM
