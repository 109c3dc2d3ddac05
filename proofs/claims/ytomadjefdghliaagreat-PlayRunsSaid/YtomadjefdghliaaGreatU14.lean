import Derived.Test.YtomadjefdghliaaGreatU9
import Derived.Test.YtomadjefdghliaaGreatU10
import Derived.Test.YtomadjefdghliaaGreatU11
import Derived.Test.YtomadjefdghliaaGreatU13
namespace Go.Proofs.YtomadjefdghliaaGreat
def idxF (p : Int → Bool) (xs : List Int) : Int := match xs.findIdx? p with | some i => (i : Int) | none => -1
theorem idxF_some {p : Int → Bool} {xs : List Int} {i : Nat} {x : Int} (hx : xs[i]? = some x) (hp : p x = true) (hn : ∀ y ∈ xs.take i, p y = false) : idxF p xs = i := by
 have hl := (List.getElem?_eq_some_iff.1 hx).1
 have : xs.findIdx? p = some i := by
  rw [List.findIdx?_eq_some_iff_getElem]
  refine ⟨hl, by rw [(List.getElem?_eq_some_iff.1 hx).2]; exact hp, fun j hj => ?_⟩
  have := hn (xs[j]'(by omega)) (List.mem_take_iff_getElem.2 ⟨j, by omega, rfl⟩)
  simp [this]
 unfold idxF; rw [this]
theorem idxF_none {p : Int → Bool} {xs : List Int} (hn : ∀ y ∈ xs, p y = false) : idxF p xs = -1 := by
 have : xs.findIdx? p = none := List.findIdx?_eq_none_iff.2 hn
 unfold idxF; rw [this]
theorem idxF_any (p : Int → Bool) (xs : List Int) : decide (0 ≤ idxF p xs) = xs.any p := by
 unfold idxF
 cases h : xs.findIdx? p with
 | none =>
  have := List.findIdx?_eq_none_iff.1 h
  have e : xs.any p = false := List.any_eq_false.2 fun x hx => by simp [this x hx]
  rw [e]; rfl
 | some i =>
  obtain ⟨hl, hp, _⟩ := List.findIdx?_eq_some_iff_getElem.1 h
  have e : xs.any p = true := List.any_eq_true.2 ⟨_, List.getElem_mem hl, hp⟩
  rw [e]; simp
theorem take_all_succ {p : Int → Bool} {xs : List Int} {i : Nat} {x : Int} (hx : xs[i]? = some x) (hp : p x = false) (hn : ∀ y ∈ xs.take i, p y = false) : ∀ y ∈ xs.take (i + 1), p y = false := by
 intro y hy
 rw [List.take_add_one, hx, List.mem_append] at hy
 rcases hy with hy | hy
 ·exact hn y hy
 ·simp at hy; subst hy; exact hp
end Go.Proofs.YtomadjefdghliaaGreat
namespace Go.Proofs.YtomadjefdghliaaGreat
open Go Go.RR Go.RX Go.GX
attribute [local irreducible] wpList Code.wp wpPlan Exit.then Exit.inBlock bodyPost NoPanic Went GX.Post GX.Again GX.Meet GX.RowR GX.Own GX.Owns GX.Box GX.Sl GX.Pt GX.Ag GX.MapR GX.Kept GX.Pin
theorem indexFunc_spec (ao : Option Addr) (cap : Nat) (xs : List Int) (fid : Nat) (caps : List Value) (psC : List Pf) (hpC : List Res) (p : Int → Bool) [UFunc Tryz.prog fid]
  (hf : ∀ x ∈ xs, Does Tryz.prog fid (.int .i64 x :: caps) psC hpC (fun _ : Unit => .bool (p x)) (fun _ => []) (fun _ => hpC)) :
  Does Tryz.prog 126 [.slice ao xs.length cap, .func (.func fid) #[] caps.toArray] (Sl Ty.int ao cap xs :: psC) hpC (fun _ : Unit => .int .i64 (idxF p xs)) (fun _ => []) (fun _ => hpC) := by
 refine enter Tryz.func126 rfl Tryz.ntmps126 rfl fun b => ?_
 refine sln ao fun hl1 hl2 _ => ?_
 repeat (first | (apply GX.s_list; first | apply GX.nil | (refine GX.o ?_; first | (apply GX.k_load; first | refine GX.lr ?_ | refine GX.lrA ?_ | refine GX.ln ?_ | refine GX.lb ?_ | refine GX.lh ?_ | (refine GX.ls ?_; intro ao cap _ _) | (refine GX.lA ?_; intro cs) | (refine GX.l0 ?_; intro cs) | refine GX.o1n ?_ | refine GX.o1b ?_ | refine GX.o1h ?_ | (refine GX.o1s ?_; intro ao cap _ _) | refine GX.omn ?_ | refine GX.omb ?_ | refine GX.omh ?_ | (refine GX.oms ?_; intro ao cap _ _) | refine GX.ofn ?_ | refine GX.ofb ?_ | refine GX.ofh ?_ | (refine GX.ofs ?_; intro ao cap _ _) | (refine GX.oA ?_; intro cs)) | (apply GX.k_move; refine GX.m ?_) | (apply GX.k_indexAddr; first | refine GX.io1 ?_ | refine GX.ioh ?_ | refine GX.i1 ?_ | refine GX.ih ?_ | (refine GX.ix ?_; intro bl o)) | (apply GX.k_binOp_lss; refine GX.b_lss ?_) | (apply GX.k_binOp_add; first | refine GX.b_inc ?_ | refine GX.b_add ?_ | refine GX.b_addw ?_) | (apply GX.k_assign; refine GX.a ?_) | (apply GX.k_call; refine GX.c_len ?_)) | refine GX.gt ?_ | refine GX.gf ?_ | refine GX.gbt ?_ | refine GX.gbf ?_ | refine GX.un ?_ | refine GX.un0 ?_) | apply GX.then_normal | apply GX.seq | apply GX.region | (apply GX.s_cond; first | refine GX.ct ?_ | refine GX.cf ?_ | refine GX.cdf ?_ | refine GX.cdt ?_ | refine GX.cbt ?_ | refine GX.cbf ?_) | apply GX.skip | apply GX.block | apply GX.inBlock_normal | apply GX.exit | apply GX.then_exit | apply GX.inBlock_exit | refine GX.ibo ?_ | apply GX.ret | apply GX.then_ret | apply GX.inBlock_ret)
 refine GX.loop (σ := Nat) (fun i => [(0, .slice ao xs.length cap), (1, .func (.func fid) #[] caps.toArray), (7, .int .i64 (xs.length : Int)), (8, .int .i64 (i : Int))]) (fun _ => []) (fun _ => hpC)
  (fun i => i ≤ xs.length ∧ ∀ y ∈ xs.take i, p y = false) (fun i => xs.length - i) 0 ⟨rfl, rfl, rfl, rfl, trivial⟩ ⟨by omega, by simp⟩ (fun i hi => ?_) (h2 := SelR.all _)
 obtain ⟨hi, hn⟩ := hi
 by_cases hlt : i < xs.length
 ·obtain ⟨x, hx⟩ := get_lt hlt
  repeat (first | (apply GX.s_list; first | apply GX.nil | (refine GX.o ?_; first | (apply GX.k_load; first | refine GX.lr ?_ | refine GX.lrA ?_ | refine GX.ln ?_ | refine GX.lb ?_ | refine GX.lh ?_ | (refine GX.ls ?_; intro ao cap _ _) | (refine GX.lA ?_; intro cs) | (refine GX.l0 ?_; intro cs) | refine GX.o1n ?_ | refine GX.o1b ?_ | refine GX.o1h ?_ | (refine GX.o1s ?_; intro ao cap _ _) | refine GX.omn ?_ | refine GX.omb ?_ | refine GX.omh ?_ | (refine GX.oms ?_; intro ao cap _ _) | refine GX.ofn ?_ | refine GX.ofb ?_ | refine GX.ofh ?_ | (refine GX.ofs ?_; intro ao cap _ _) | (refine GX.oA ?_; intro cs)) | (apply GX.k_move; refine GX.m ?_) | (apply GX.k_indexAddr; first | refine GX.io1 ?_ | refine GX.ioh ?_ | refine GX.i1 ?_ | refine GX.ih ?_ | (refine GX.ix ?_; intro bl o)) | (apply GX.k_binOp_lss; refine GX.b_lss ?_) | (apply GX.k_binOp_add; first | refine GX.b_inc ?_ | refine GX.b_add ?_ | refine GX.b_addw ?_) | (apply GX.k_assign; refine GX.a ?_) | (apply GX.k_call; refine GX.c_len ?_)) | refine GX.gt ?_ | refine GX.gf ?_ | refine GX.gbt ?_ | refine GX.gbf ?_ | refine GX.un ?_ | refine GX.un0 ?_) | apply GX.then_normal | apply GX.seq | apply GX.region | (apply GX.s_cond; first | refine GX.ct ?_ | refine GX.cf ?_ | refine GX.cdf ?_ | refine GX.cdt ?_ | refine GX.cbt ?_ | refine GX.cbf ?_) | apply GX.skip | apply GX.block | apply GX.inBlock_normal | apply GX.exit | apply GX.then_exit | apply GX.inBlock_exit | refine GX.ibo ?_ | apply GX.ret | apply GX.then_ret | apply GX.inBlock_ret)
  refine GX.o (clvA (fs := []) (vs := [.int .i64 x]) (cs := caps) (hf x (List.mem_of_getElem? hx)) fun _ => ?_)
  by_cases hp : p x = true
  ·repeat (first | (apply GX.s_list; first | apply GX.nil | (refine GX.o ?_; first | (apply GX.k_load; first | refine GX.lr ?_ | refine GX.lrA ?_ | refine GX.ln ?_ | refine GX.lb ?_ | refine GX.lh ?_ | (refine GX.ls ?_; intro ao cap _ _) | (refine GX.lA ?_; intro cs) | (refine GX.l0 ?_; intro cs) | refine GX.o1n ?_ | refine GX.o1b ?_ | refine GX.o1h ?_ | (refine GX.o1s ?_; intro ao cap _ _) | refine GX.omn ?_ | refine GX.omb ?_ | refine GX.omh ?_ | (refine GX.oms ?_; intro ao cap _ _) | refine GX.ofn ?_ | refine GX.ofb ?_ | refine GX.ofh ?_ | (refine GX.ofs ?_; intro ao cap _ _) | (refine GX.oA ?_; intro cs)) | (apply GX.k_move; refine GX.m ?_) | (apply GX.k_indexAddr; first | refine GX.io1 ?_ | refine GX.ioh ?_ | refine GX.i1 ?_ | refine GX.ih ?_ | (refine GX.ix ?_; intro bl o)) | (apply GX.k_binOp_lss; refine GX.b_lss ?_) | (apply GX.k_binOp_add; first | refine GX.b_inc ?_ | refine GX.b_add ?_ | refine GX.b_addw ?_) | (apply GX.k_assign; refine GX.a ?_) | (apply GX.k_call; refine GX.c_len ?_)) | refine GX.gt ?_ | refine GX.gf ?_ | refine GX.gbt ?_ | refine GX.gbf ?_ | refine GX.un ?_ | refine GX.un0 ?_) | apply GX.then_normal | apply GX.seq | apply GX.region | (apply GX.s_cond; first | refine GX.ct ?_ | refine GX.cf ?_ | refine GX.cdf ?_ | refine GX.cdt ?_ | refine GX.cbt ?_ | refine GX.cbf ?_) | apply GX.skip | apply GX.block | apply GX.inBlock_normal | apply GX.exit | apply GX.then_exit | apply GX.inBlock_exit | refine GX.ibo ?_ | apply GX.ret | apply GX.then_ret | apply GX.inBlock_ret)
   exact rt1 () (congrArg (Value.int .i64) (idxF_some hx hp hn)) (h2 := SelR.all _)
  ·have hp : p x = false := by simpa using hp
   repeat (first | (apply GX.s_list; first | apply GX.nil | (refine GX.o ?_; first | (apply GX.k_load; first | refine GX.lr ?_ | refine GX.lrA ?_ | refine GX.ln ?_ | refine GX.lb ?_ | refine GX.lh ?_ | (refine GX.ls ?_; intro ao cap _ _) | (refine GX.lA ?_; intro cs) | (refine GX.l0 ?_; intro cs) | refine GX.o1n ?_ | refine GX.o1b ?_ | refine GX.o1h ?_ | (refine GX.o1s ?_; intro ao cap _ _) | refine GX.omn ?_ | refine GX.omb ?_ | refine GX.omh ?_ | (refine GX.oms ?_; intro ao cap _ _) | refine GX.ofn ?_ | refine GX.ofb ?_ | refine GX.ofh ?_ | (refine GX.ofs ?_; intro ao cap _ _) | (refine GX.oA ?_; intro cs)) | (apply GX.k_move; refine GX.m ?_) | (apply GX.k_indexAddr; first | refine GX.io1 ?_ | refine GX.ioh ?_ | refine GX.i1 ?_ | refine GX.ih ?_ | (refine GX.ix ?_; intro bl o)) | (apply GX.k_binOp_lss; refine GX.b_lss ?_) | (apply GX.k_binOp_add; first | refine GX.b_inc ?_ | refine GX.b_add ?_ | refine GX.b_addw ?_) | (apply GX.k_assign; refine GX.a ?_) | (apply GX.k_call; refine GX.c_len ?_)) | refine GX.gt ?_ | refine GX.gf ?_ | refine GX.gbt ?_ | refine GX.gbf ?_ | refine GX.un ?_ | refine GX.un0 ?_) | apply GX.then_normal | apply GX.seq | apply GX.region | (apply GX.s_cond; first | refine GX.ct ?_ | refine GX.cf ?_ | refine GX.cdf ?_ | refine GX.cdt ?_ | refine GX.cbt ?_ | refine GX.cbf ?_) | apply GX.skip | apply GX.block | apply GX.inBlock_normal | apply GX.exit | apply GX.then_exit | apply GX.inBlock_exit | refine GX.ibo ?_ | apply GX.ret | apply GX.then_ret | apply GX.inBlock_ret)
   exact again (i + 1) ⟨rfl, rfl, rfl, rfl, trivial⟩ ⟨by omega, take_all_succ hx hp hn⟩ (by omega) (h2 := SelR.all _)
 ·have hil : i = xs.length := by omega
  subst hil
  repeat (first | (apply GX.s_list; first | apply GX.nil | (refine GX.o ?_; first | (apply GX.k_load; first | refine GX.lr ?_ | refine GX.lrA ?_ | refine GX.ln ?_ | refine GX.lb ?_ | refine GX.lh ?_ | (refine GX.ls ?_; intro ao cap _ _) | (refine GX.lA ?_; intro cs) | (refine GX.l0 ?_; intro cs) | refine GX.o1n ?_ | refine GX.o1b ?_ | refine GX.o1h ?_ | (refine GX.o1s ?_; intro ao cap _ _) | refine GX.omn ?_ | refine GX.omb ?_ | refine GX.omh ?_ | (refine GX.oms ?_; intro ao cap _ _) | refine GX.ofn ?_ | refine GX.ofb ?_ | refine GX.ofh ?_ | (refine GX.ofs ?_; intro ao cap _ _) | (refine GX.oA ?_; intro cs)) | (apply GX.k_move; refine GX.m ?_) | (apply GX.k_indexAddr; first | refine GX.io1 ?_ | refine GX.ioh ?_ | refine GX.i1 ?_ | refine GX.ih ?_ | (refine GX.ix ?_; intro bl o)) | (apply GX.k_binOp_lss; refine GX.b_lss ?_) | (apply GX.k_binOp_add; first | refine GX.b_inc ?_ | refine GX.b_add ?_ | refine GX.b_addw ?_) | (apply GX.k_assign; refine GX.a ?_) | (apply GX.k_call; refine GX.c_len ?_)) | refine GX.gt ?_ | refine GX.gf ?_ | refine GX.gbt ?_ | refine GX.gbf ?_ | refine GX.un ?_ | refine GX.un0 ?_) | apply GX.then_normal | apply GX.seq | apply GX.region | (apply GX.s_cond; first | refine GX.ct ?_ | refine GX.cf ?_ | refine GX.cdf ?_ | refine GX.cdt ?_ | refine GX.cbt ?_ | refine GX.cbf ?_) | apply GX.skip | apply GX.block | apply GX.inBlock_normal | apply GX.exit | apply GX.then_exit | apply GX.inBlock_exit | refine GX.ibo ?_ | apply GX.ret | apply GX.then_ret | apply GX.inBlock_ret)
  rw [List.take_length] at hn
  exact rt1 () (congrArg (Value.int .i64) (idxF_none hn)) (h2 := SelR.all _)
theorem containsFunc_spec (ao : Option Addr) (cap : Nat) (xs : List Int) (fid : Nat) (caps : List Value) (psC : List Pf) (hpC : List Res) (p : Int → Bool) [UFunc Tryz.prog fid]
  (hf : ∀ x ∈ xs, Does Tryz.prog fid (.int .i64 x :: caps) psC hpC (fun _ : Unit => .bool (p x)) (fun _ => []) (fun _ => hpC)) :
  Does Tryz.prog 94 [.slice ao xs.length cap, .func (.func fid) #[] caps.toArray] (Sl Ty.int ao cap xs :: psC) hpC (fun _ : Unit => .bool (xs.any p)) (fun _ => []) (fun _ => hpC) := by
 refine enter Tryz.func94 rfl Tryz.ntmps94 rfl fun b => ?_
 repeat (first | (apply GX.s_list; first | apply GX.nil | (refine GX.o ?_; first | (apply GX.k_move; refine GX.m ?_) | (apply GX.k_assign; refine GX.a ?_) | (apply GX.k_binOp_geq; refine GX.b_geq ?_)) | refine GX.gt ?_ | refine GX.gf ?_ | refine GX.gbt ?_ | refine GX.gbf ?_ | refine GX.un ?_ | refine GX.un0 ?_) | apply GX.then_normal | apply GX.seq | apply GX.region | (apply GX.s_cond; first | refine GX.ct ?_ | refine GX.cf ?_ | refine GX.cdf ?_ | refine GX.cdt ?_ | refine GX.cbt ?_ | refine GX.cbf ?_) | apply GX.skip | apply GX.block | apply GX.inBlock_normal | apply GX.exit | apply GX.then_exit | apply GX.inBlock_exit | refine GX.ibo ?_ | apply GX.ret | apply GX.then_ret | apply GX.inBlock_ret)
 refine GX.o (clA (indexFunc_spec ao cap xs fid caps psC hpC p hf) fun _ => ?_)
 rw [← idxF_any]
 repeat (first | (apply GX.s_list; first | apply GX.nil | (refine GX.o ?_; first | (apply GX.k_move; refine GX.m ?_) | (apply GX.k_assign; refine GX.a ?_) | (apply GX.k_binOp_geq; refine GX.b_geq ?_)) | refine GX.gt ?_ | refine GX.gf ?_ | refine GX.gbt ?_ | refine GX.gbf ?_ | refine GX.un ?_ | refine GX.un0 ?_) | apply GX.then_normal | apply GX.seq | apply GX.region | (apply GX.s_cond; first | refine GX.ct ?_ | refine GX.cf ?_ | refine GX.cdf ?_ | refine GX.cdt ?_ | refine GX.cbt ?_ | refine GX.cbf ?_) | apply GX.skip | apply GX.block | apply GX.inBlock_normal | apply GX.exit | apply GX.then_exit | apply GX.inBlock_exit | refine GX.ibo ?_ | apply GX.ret | apply GX.then_ret | apply GX.inBlock_ret)
 exact rt1 () rfl (h2 := SelR.all _)
theorem index_spec (ao : Option Addr) (cap : Nat) (l : List Int) (v : Int) : Does Tryz.prog 143 [.slice ao l.length cap, .int .i64 v] [Sl Ty.int ao cap l] []
  (fun _ : Unit => .int .i64 (idxF (fun x => decide (v = x)) l)) (fun _ => []) (fun _ => []) := by
 refine enter Tryz.func143 rfl Tryz.ntmps143 rfl fun b => ?_
 refine sln ao fun h1 h2 _ => ?_
 repeat (first | (apply GX.s_list; first | apply GX.nil | (refine GX.o ?_; first | (apply GX.k_load; first | refine GX.lr ?_ | refine GX.lrA ?_ | refine GX.ln ?_ | refine GX.lb ?_ | refine GX.lh ?_ | (refine GX.ls ?_; intro ao cap _ _) | (refine GX.lA ?_; intro cs) | (refine GX.l0 ?_; intro cs) | refine GX.o1n ?_ | refine GX.o1b ?_ | refine GX.o1h ?_ | (refine GX.o1s ?_; intro ao cap _ _) | refine GX.omn ?_ | refine GX.omb ?_ | refine GX.omh ?_ | (refine GX.oms ?_; intro ao cap _ _) | refine GX.ofn ?_ | refine GX.ofb ?_ | refine GX.ofh ?_ | (refine GX.ofs ?_; intro ao cap _ _) | (refine GX.oA ?_; intro cs)) | (apply GX.k_move; refine GX.m ?_) | (apply GX.k_indexAddr; first | refine GX.io1 ?_ | refine GX.ioh ?_ | refine GX.i1 ?_ | refine GX.ih ?_ | (refine GX.ix ?_; intro bl o)) | (apply GX.k_binOp_lss; refine GX.b_lss ?_) | (apply GX.k_binOp_add; first | refine GX.b_inc ?_ | refine GX.b_add ?_ | refine GX.b_addw ?_) | (apply GX.k_assign; refine GX.a ?_) | (apply GX.k_call; refine GX.c_len ?_) | (apply GX.k_binOp_eql; first | refine GX.b_eql ?_ | refine GX.b_pn ?_ | refine GX.b_nn ?_ | refine GX.b_snn ?_ | refine GX.b_sns ?_ | refine GX.b_eqls ?_ | refine GX.b_eqltf ?_ | refine GX.b_eqlft ?_ | refine GX.b_eqlb ?_)) | refine GX.gt ?_ | refine GX.gf ?_ | refine GX.gbt ?_ | refine GX.gbf ?_ | refine GX.un ?_ | refine GX.un0 ?_) | apply GX.then_normal | apply GX.seq | apply GX.region | (apply GX.s_cond; first | refine GX.ct ?_ | refine GX.cf ?_ | refine GX.cdf ?_ | refine GX.cdt ?_ | refine GX.cbt ?_ | refine GX.cbf ?_) | apply GX.skip | apply GX.block | apply GX.inBlock_normal | apply GX.exit | apply GX.then_exit | apply GX.inBlock_exit | refine GX.ibo ?_ | apply GX.ret | apply GX.then_ret | apply GX.inBlock_ret)
 refine GX.loop (σ := Nat) (fun i => [(0, .slice ao l.length cap), (1, .int .i64 v), (7, .int .i64 (l.length : Int)), (8, .int .i64 (i : Int))]) (fun _ => []) (fun _ => [])
  (fun i => i ≤ l.length ∧ ∀ y ∈ l.take i, decide (v = y) = false) (fun i => l.length - i) 0 ⟨rfl, rfl, rfl, rfl, trivial⟩ ⟨by omega, by simp⟩ (fun i hi => ?_)
 obtain ⟨hi, hn⟩ := hi
 by_cases hlt : i < l.length
 ·obtain ⟨x, hx⟩ := get_lt hlt
  by_cases hxv : v = x
  ·repeat (first | (apply GX.s_list; first | apply GX.nil | (refine GX.o ?_; first | (apply GX.k_load; first | refine GX.lr ?_ | refine GX.lrA ?_ | refine GX.ln ?_ | refine GX.lb ?_ | refine GX.lh ?_ | (refine GX.ls ?_; intro ao cap _ _) | (refine GX.lA ?_; intro cs) | (refine GX.l0 ?_; intro cs) | refine GX.o1n ?_ | refine GX.o1b ?_ | refine GX.o1h ?_ | (refine GX.o1s ?_; intro ao cap _ _) | refine GX.omn ?_ | refine GX.omb ?_ | refine GX.omh ?_ | (refine GX.oms ?_; intro ao cap _ _) | refine GX.ofn ?_ | refine GX.ofb ?_ | refine GX.ofh ?_ | (refine GX.ofs ?_; intro ao cap _ _) | (refine GX.oA ?_; intro cs)) | (apply GX.k_move; refine GX.m ?_) | (apply GX.k_indexAddr; first | refine GX.io1 ?_ | refine GX.ioh ?_ | refine GX.i1 ?_ | refine GX.ih ?_ | (refine GX.ix ?_; intro bl o)) | (apply GX.k_binOp_lss; refine GX.b_lss ?_) | (apply GX.k_binOp_add; first | refine GX.b_inc ?_ | refine GX.b_add ?_ | refine GX.b_addw ?_) | (apply GX.k_assign; refine GX.a ?_) | (apply GX.k_call; refine GX.c_len ?_) | (apply GX.k_binOp_eql; first | refine GX.b_eql ?_ | refine GX.b_pn ?_ | refine GX.b_nn ?_ | refine GX.b_snn ?_ | refine GX.b_sns ?_ | refine GX.b_eqls ?_ | refine GX.b_eqltf ?_ | refine GX.b_eqlft ?_ | refine GX.b_eqlb ?_)) | refine GX.gt ?_ | refine GX.gf ?_ | refine GX.gbt ?_ | refine GX.gbf ?_ | refine GX.un ?_ | refine GX.un0 ?_) | apply GX.then_normal | apply GX.seq | apply GX.region | (apply GX.s_cond; first | refine GX.ct ?_ | refine GX.cf ?_ | refine GX.cdf ?_ | refine GX.cdt ?_ | refine GX.cbt ?_ | refine GX.cbf ?_) | apply GX.skip | apply GX.block | apply GX.inBlock_normal | apply GX.exit | apply GX.then_exit | apply GX.inBlock_exit | refine GX.ibo ?_ | apply GX.ret | apply GX.then_ret | apply GX.inBlock_ret)
   exact rt1 () (congrArg (Value.int .i64) (idxF_some hx (decide_eq_true hxv) hn))
  ·repeat (first | (apply GX.s_list; first | apply GX.nil | (refine GX.o ?_; first | (apply GX.k_load; first | refine GX.lr ?_ | refine GX.lrA ?_ | refine GX.ln ?_ | refine GX.lb ?_ | refine GX.lh ?_ | (refine GX.ls ?_; intro ao cap _ _) | (refine GX.lA ?_; intro cs) | (refine GX.l0 ?_; intro cs) | refine GX.o1n ?_ | refine GX.o1b ?_ | refine GX.o1h ?_ | (refine GX.o1s ?_; intro ao cap _ _) | refine GX.omn ?_ | refine GX.omb ?_ | refine GX.omh ?_ | (refine GX.oms ?_; intro ao cap _ _) | refine GX.ofn ?_ | refine GX.ofb ?_ | refine GX.ofh ?_ | (refine GX.ofs ?_; intro ao cap _ _) | (refine GX.oA ?_; intro cs)) | (apply GX.k_move; refine GX.m ?_) | (apply GX.k_indexAddr; first | refine GX.io1 ?_ | refine GX.ioh ?_ | refine GX.i1 ?_ | refine GX.ih ?_ | (refine GX.ix ?_; intro bl o)) | (apply GX.k_binOp_lss; refine GX.b_lss ?_) | (apply GX.k_binOp_add; first | refine GX.b_inc ?_ | refine GX.b_add ?_ | refine GX.b_addw ?_) | (apply GX.k_assign; refine GX.a ?_) | (apply GX.k_call; refine GX.c_len ?_) | (apply GX.k_binOp_eql; first | refine GX.b_eql ?_ | refine GX.b_pn ?_ | refine GX.b_nn ?_ | refine GX.b_snn ?_ | refine GX.b_sns ?_ | refine GX.b_eqls ?_ | refine GX.b_eqltf ?_ | refine GX.b_eqlft ?_ | refine GX.b_eqlb ?_)) | refine GX.gt ?_ | refine GX.gf ?_ | refine GX.gbt ?_ | refine GX.gbf ?_ | refine GX.un ?_ | refine GX.un0 ?_) | apply GX.then_normal | apply GX.seq | apply GX.region | (apply GX.s_cond; first | refine GX.ct ?_ | refine GX.cf ?_ | refine GX.cdf ?_ | refine GX.cdt ?_ | refine GX.cbt ?_ | refine GX.cbf ?_) | apply GX.skip | apply GX.block | apply GX.inBlock_normal | apply GX.exit | apply GX.then_exit | apply GX.inBlock_exit | refine GX.ibo ?_ | apply GX.ret | apply GX.then_ret | apply GX.inBlock_ret)
   exact again (i + 1) ⟨rfl, rfl, rfl, rfl, trivial⟩ ⟨by omega, take_all_succ (p := fun y => decide (v = y)) hx (decide_eq_false hxv) hn⟩ (by omega)
 ·have hil : i = l.length := by omega
  subst hil
  rw [List.take_length] at hn
  repeat (first | (apply GX.s_list; first | apply GX.nil | (refine GX.o ?_; first | (apply GX.k_load; first | refine GX.lr ?_ | refine GX.lrA ?_ | refine GX.ln ?_ | refine GX.lb ?_ | refine GX.lh ?_ | (refine GX.ls ?_; intro ao cap _ _) | (refine GX.lA ?_; intro cs) | (refine GX.l0 ?_; intro cs) | refine GX.o1n ?_ | refine GX.o1b ?_ | refine GX.o1h ?_ | (refine GX.o1s ?_; intro ao cap _ _) | refine GX.omn ?_ | refine GX.omb ?_ | refine GX.omh ?_ | (refine GX.oms ?_; intro ao cap _ _) | refine GX.ofn ?_ | refine GX.ofb ?_ | refine GX.ofh ?_ | (refine GX.ofs ?_; intro ao cap _ _) | (refine GX.oA ?_; intro cs)) | (apply GX.k_move; refine GX.m ?_) | (apply GX.k_indexAddr; first | refine GX.io1 ?_ | refine GX.ioh ?_ | refine GX.i1 ?_ | refine GX.ih ?_ | (refine GX.ix ?_; intro bl o)) | (apply GX.k_binOp_lss; refine GX.b_lss ?_) | (apply GX.k_binOp_add; first | refine GX.b_inc ?_ | refine GX.b_add ?_ | refine GX.b_addw ?_) | (apply GX.k_assign; refine GX.a ?_) | (apply GX.k_call; refine GX.c_len ?_) | (apply GX.k_binOp_eql; first | refine GX.b_eql ?_ | refine GX.b_pn ?_ | refine GX.b_nn ?_ | refine GX.b_snn ?_ | refine GX.b_sns ?_ | refine GX.b_eqls ?_ | refine GX.b_eqltf ?_ | refine GX.b_eqlft ?_ | refine GX.b_eqlb ?_)) | refine GX.gt ?_ | refine GX.gf ?_ | refine GX.gbt ?_ | refine GX.gbf ?_ | refine GX.un ?_ | refine GX.un0 ?_) | apply GX.then_normal | apply GX.seq | apply GX.region | (apply GX.s_cond; first | refine GX.ct ?_ | refine GX.cf ?_ | refine GX.cdf ?_ | refine GX.cdt ?_ | refine GX.cbt ?_ | refine GX.cbf ?_) | apply GX.skip | apply GX.block | apply GX.inBlock_normal | apply GX.exit | apply GX.then_exit | apply GX.inBlock_exit | refine GX.ibo ?_ | apply GX.ret | apply GX.then_ret | apply GX.inBlock_ret)
  exact rt1 () (congrArg (Value.int .i64) (idxF_none hn))
theorem contains_spec (ao : Option Addr) (cap : Nat) (l : List Int) (v : Int) : Does Tryz.prog 131 [.slice ao l.length cap, .int .i64 v] [Sl Ty.int ao cap l] []
  (fun _ : Unit => .bool (decide (v ∈ l))) (fun _ => []) (fun _ => []) := by
 refine enter Tryz.func131 rfl Tryz.ntmps131 rfl fun b => ?_
 repeat (first | (apply GX.s_list; first | apply GX.nil | (refine GX.o ?_; first | (apply GX.k_move; refine GX.m ?_) | (apply GX.k_assign; refine GX.a ?_) | (apply GX.k_binOp_geq; refine GX.b_geq ?_)) | refine GX.gt ?_ | refine GX.gf ?_ | refine GX.gbt ?_ | refine GX.gbf ?_ | refine GX.un ?_ | refine GX.un0 ?_) | apply GX.then_normal | apply GX.seq | apply GX.region | (apply GX.s_cond; first | refine GX.ct ?_ | refine GX.cf ?_ | refine GX.cdf ?_ | refine GX.cdt ?_ | refine GX.cbt ?_ | refine GX.cbf ?_) | apply GX.skip | apply GX.block | apply GX.inBlock_normal | apply GX.exit | apply GX.then_exit | apply GX.inBlock_exit | refine GX.ibo ?_ | apply GX.ret | apply GX.then_ret | apply GX.inBlock_ret)
 refine GX.o (cl (index_spec ao cap l v) fun _ => ?_)
 have e : decide (v ∈ l) = decide (0 ≤ idxF (fun x => decide (v = x)) l) := by
  rw [idxF_any, Bool.eq_iff_iff, List.any_eq_true]
  simp
 rw [e]
 repeat (first | (apply GX.s_list; first | apply GX.nil | (refine GX.o ?_; first | (apply GX.k_move; refine GX.m ?_) | (apply GX.k_assign; refine GX.a ?_) | (apply GX.k_binOp_geq; refine GX.b_geq ?_)) | refine GX.gt ?_ | refine GX.gf ?_ | refine GX.gbt ?_ | refine GX.gbf ?_ | refine GX.un ?_ | refine GX.un0 ?_) | apply GX.then_normal | apply GX.seq | apply GX.region | (apply GX.s_cond; first | refine GX.ct ?_ | refine GX.cf ?_ | refine GX.cdf ?_ | refine GX.cdt ?_ | refine GX.cbt ?_ | refine GX.cbf ?_) | apply GX.skip | apply GX.block | apply GX.inBlock_normal | apply GX.exit | apply GX.then_exit | apply GX.inBlock_exit | refine GX.ibo ?_ | apply GX.ret | apply GX.then_ret | apply GX.inBlock_ret)
 exact rt1 () rfl
end Go.Proofs.YtomadjefdghliaaGreat
namespace Go.Proofs.YtomadjefdghliaaGreat
open Go Go.RR Go.RX Go.GX Go.Api Go.RiseM Go.ReachM Go.RtM
attribute [local irreducible] wpList Code.wp wpPlan Exit.then Exit.inBlock bodyPost NoPanic Went GX.Post GX.Again GX.Meet GX.RowR GX.Own GX.Owns GX.Box GX.Sl GX.Pt GX.Ag GX.MapR GX.Kept GX.Pin wpT GoK AtEnd Both
theorem vY {P : Prop} [Decidable P] (h : P) : Value.bool (decide P) = .bool true := by rw [decide_eq_true h]
theorem vN {P : Prop} [Decidable P] (h : ¬ P) : Value.bool (decide P) = .bool false := by rw [decide_eq_false h]
theorem vI {P Q : Prop} [Decidable P] [Decidable Q] (h : P ↔ Q) : Value.bool (decide P) = .bool (decide Q) := by rw [decide_eq_decide.2 h]
theorem any_dec {P : Int → Prop} [DecidablePred P] (l : List Int) : (l.any fun x => decide (¬ P x)) = decide (¬ ∀ n ∈ l, P n) := by
 rw [Bool.eq_iff_iff, List.any_eq_true, decide_eq_true_eq]
 simp only [decide_eq_true_eq, Classical.not_forall, exists_prop]
theorem isClass_spec (cs : List Value) (t : RTg) (n : Int) : Does Tryz.prog 127 [.agg cs.toArray, .int .i64 n] [Ag tyRTg cs t] [] (fun _ : Unit => .bool (decide (IsClass t n))) (fun _ => []) (fun _ => []) := by
 refine enter Tryz.func127 rfl Tryz.ntmps127 rfl fun b => ?_
 by_cases h : 0 ≤ n
 ·refine GX.wR ?_; intros
  exact rt1 () (vI ⟨fun h => h.2, fun h2 => ⟨h, h2⟩⟩)
 ·refine GX.wR ?_; intros
  exact rt1 () (vN fun h2 => h h2.1)
theorem isEntry_spec (cs : List Value) (t : RTg) (n : Int) : Does Tryz.prog 96 [.agg cs.toArray, .int .i64 n] [Ag tyRTg cs t] [] (fun _ : Unit => .bool (decide (IsEntry t n))) (fun _ => []) (fun _ => []) := by
 refine enter Tryz.func96 rfl Tryz.ntmps96 rfl fun b => ?_
 refine GX.wR ?_; intros
 refine GX.o (cl (isClass_spec _ t n) fun _ => ?_)
 by_cases h : IsClass t n
 ·refine GX.wR ?_; intros
  exact rt1 () (vY (.inl h))
 ·by_cases h2 : n = -1
  ·refine GX.wR ?_; intros
   exact rt1 () (vY (.inr (.inl h2)))
  ·refine GX.wR ?_; intros
   exact rt1 () (vI ⟨fun h3 => h3.elim (fun h3 => absurd h3 h) fun h3 => h3.elim (fun h3 => absurd h3 h2) id, fun h3 => .inr (.inr h3)⟩)
theorem entries1_spec (bl : Nat) (t : RTg) (n : Int) : Does Tryz.prog 95 [.int .i64 n, .pointer (some ⟨bl, 0, none⟩)] [Pt tyRTg bl 0 t] [] (fun _ : Unit => .bool (decide (¬ IsEntry t n))) (fun _ => []) (fun _ => []) := by
 refine enter Tryz.func95 rfl Tryz.ntmps95 rfl fun b => ?_
 refine GX.wR ?_; intros
 refine GX.o (cl (isEntry_spec _ t n) fun _ => ?_)
 refine GX.wR ?_; intros
 exact rt1 () rfl
theorem entries_spec (cs : List Value) (t : RTg) (ao : Option Addr) (cap : Nat) (l : List Int) : Does Tryz.prog 39 [.agg cs.toArray, .slice ao l.length cap] [Sl Ty.int ao cap l, Ag tyRTg cs t] [] (fun _ : Unit => .bool (decide (Entries t l))) (fun _ => []) (fun _ => []) := by
 refine enter Tryz.func39 rfl Tryz.ntmps39 rfl fun b => ?_
 refine GX.wR ?_; intros
 refine GX.nmP 2 ?_; rintro b2 rfl
 refine GX.o (cl (containsFunc_spec ao cap l 95 [.pointer (some ⟨b2, 0, none⟩)] [Pt tyRTg b2 0 t] [] (fun n => decide (¬ IsEntry t n)) (fun n _ => entries1_spec b2 t n)) fun _ => ?_)
 rw [any_dec]
 refine GX.wR ?_; intros
 exact rt1 () (vI Classical.not_not.symm)
theorem isRef_spec (e : Int) : Does Tryz.prog 158 [.int .i64 e] [] [] (fun _ : Unit => .bool (decide (IsRef e))) (fun _ => []) (fun _ => []) := by
 refine enter Tryz.func158 rfl Tryz.ntmps158 rfl fun b => ?_
 refine GX.wR ?_; intros
 exact rt1 () rfl
theorem into_spec (a c : Int) : Does Tryz.prog 147 [.int .i64 a, .int .i64 c] [] [] (fun _ : Unit => .bool (decide (Into a c))) (fun _ => []) (fun _ => []) := by
 refine enter Tryz.func147 rfl Tryz.ntmps147 rfl fun b => ?_
 refine GX.wR ?_; intros
 refine GX.o (cl (isRef_spec a) fun _ => ?_)
 have e : Into a c ↔ if -1 ≤ a then -1 ≤ c ∧ (c = a ∨ c = -1) else a = -2 ∧ c = -2 := Iff.rfl
 by_cases h : IsRef a
 ·rw [if_pos h] at e
  refine GX.wR ?_; intros
  refine GX.o (cl (isRef_spec c) fun _ => ?_)
  by_cases h2 : IsRef c
  ·by_cases h3 : c = a
   ·refine GX.wR ?_; intros
    exact rt1 () (vY (e.2 ⟨h2, .inl h3⟩))
   ·refine GX.wR ?_; intros
    exact rt1 () (vI (e.trans ⟨fun h4 => h4.2.elim (fun h5 => absurd h5 h3) id, fun h4 => ⟨h2, .inr h4⟩⟩))
  ·refine GX.wR ?_; intros
   exact rt1 () (vN fun h4 => h2 (e.1 h4).1)
 ·rw [if_neg h] at e
  by_cases h2 : a = -2
  ·refine GX.wR ?_; intros
   exact rt1 () (vI (e.trans ⟨fun h3 => h3.2, fun h3 => ⟨h2, h3⟩⟩))
  ·refine GX.wR ?_; intros
   exact rt1 () (vN fun h4 => h2 (e.1 h4).1)
theorem of_spec (cs : List Value) (v : RtView) (n : Int) : Does Tryz.prog 148 [.agg cs.toArray, .int .i64 n] [Ag tyRtView cs v] [] (fun _ : Unit => .int .i64 (RtM.of v.u n)) (fun _ => []) (fun _ => []) := by
 refine enter Tryz.func148 rfl Tryz.ntmps148 rfl fun b => ?_
 by_cases h : n < 0
 ·have e : RtM.of v.u n = -3 := by unfold RtM.of; rw [gt_out (.inl h)]; rfl
  rw [e]
  refine GX.wR ?_; intros
  exact rt1 () rfl
 ·by_cases h2 : (v.u.vars.length : Int) ≤ n
  ·have e : RtM.of v.u n = -3 := by unfold RtM.of; rw [gt_out (.inr h2)]; rfl
   rw [e]
   refine GX.wR ?_; intros
   exact rt1 () rfl
  ·obtain ⟨x, hx, k, rfl, hk, hx2⟩ := gt_in (l := v.u.vars) (n := n) ⟨by omega, by omega⟩
   have e : RtM.of v.u k = x := by unfold RtM.of; rw [hx]; rfl
   rw [e]
   refine GX.wR ?_; intros
   exact rt1 () rfl
theorem plain1_spec (bl : Nat) (v : RtView) (n : Int) : Does Tryz.prog 156 [.int .i64 n, .pointer (some ⟨bl, 0, none⟩)] [Pt tyRtView bl 0 v] [] (fun _ : Unit => .bool (decide (¬ RtM.of v.u n = -2))) (fun _ => []) (fun _ => []) := by
 refine enter Tryz.func156 rfl Tryz.ntmps156 rfl fun b => ?_
 refine GX.wR ?_; intros
 refine GX.o (cl (of_spec _ v n) fun _ => ?_)
 refine GX.wR ?_; intros
 exact rt1 () rfl
theorem refs1_spec (bl : Nat) (v : RtView) (n : Int) : Does Tryz.prog 157 [.int .i64 n, .pointer (some ⟨bl, 0, none⟩)] [Pt tyRtView bl 0 v] [] (fun _ : Unit => .bool (decide (¬ IsRef (RtM.of v.u n)))) (fun _ => []) (fun _ => []) := by
 refine enter Tryz.func157 rfl Tryz.ntmps157 rfl fun b => ?_
 refine GX.wR ?_; intros
 refine GX.o (cl (of_spec _ v n) fun _ => ?_)
 refine GX.wR ?_; intros
 refine GX.o (cl (isRef_spec _) fun _ => ?_)
 refine GX.wR ?_; intros
 exact rt1 () rfl
theorem plain_spec (cs : List Value) (v : RtView) (ao : Option Addr) (cap m : Nat) (l : List Int) (hm : m = l.length) : Does Tryz.prog 145 [.agg cs.toArray, .slice ao m cap] [Sl Ty.int ao cap l, Ag tyRtView cs v] [] (fun _ : Unit => .bool (decide (Plain v.u l))) (fun _ => []) (fun _ => []) := by
 subst hm
 refine enter Tryz.func145 rfl Tryz.ntmps145 rfl fun b => ?_
 refine GX.wR ?_; intros
 refine GX.nmP 2 ?_; rintro b2 rfl
 refine GX.o (cl (containsFunc_spec ao cap l 156 [.pointer (some ⟨b2, 0, none⟩)] [Pt tyRtView b2 0 v] [] (fun n => decide (¬ RtM.of v.u n = -2)) (fun n _ => plain1_spec b2 v n)) fun _ => ?_)
 rw [any_dec]
 refine GX.wR ?_; intros
 exact rt1 () (vI Classical.not_not.symm)
theorem refs_spec (cs : List Value) (v : RtView) (ao : Option Addr) (cap m : Nat) (l : List Int) (hm : m = l.length) : Does Tryz.prog 146 [.agg cs.toArray, .slice ao m cap] [Sl Ty.int ao cap l, Ag tyRtView cs v] [] (fun _ : Unit => .bool (decide (Refs v.u l))) (fun _ => []) (fun _ => []) := by
 subst hm
 refine enter Tryz.func146 rfl Tryz.ntmps146 rfl fun b => ?_
 refine GX.wR ?_; intros
 refine GX.nmP 2 ?_; rintro b2 rfl
 refine GX.o (cl (containsFunc_spec ao cap l 157 [.pointer (some ⟨b2, 0, none⟩)] [Pt tyRtView b2 0 v] [] (fun n => decide (¬ IsRef (RtM.of v.u n))) (fun n _ => refs1_spec b2 v n)) fun _ => ?_)
 rw [any_dec]
 refine GX.wR ?_; intros
 exact rt1 () (vI Classical.not_not.symm)
theorem place_spec (cs : List Value) (v : RtView) (n : Int) : Does Tryz.prog 161 [.agg cs.toArray, .int .i64 n] [Ag tyRtView cs v] [] (fun _ : Unit => .bool (decide (RtM.Place v.u n))) (fun _ => []) (fun _ => []) := by
 refine enter Tryz.func161 rfl Tryz.ntmps161 rfl fun b => ?_
 by_cases h : 0 ≤ n
 ·refine GX.wR ?_; intros
  exact rt1 () (vI ⟨fun h => h.2, fun h2 => ⟨h, h2⟩⟩)
 ·refine GX.wR ?_; intros
  exact rt1 () (vN fun h2 => h h2.1)
end Go.Proofs.YtomadjefdghliaaGreat
namespace Go.Proofs.YtomadjefdghliaaGreat
open Go Go.RR Go.RX Go.GX Go.Api Go.RtM
attribute [local irreducible] wpList Code.wp wpPlan Exit.then Exit.inBlock bodyPost NoPanic Went GX.Post GX.Again GX.Meet GX.RowR GX.Own GX.Owns GX.Box GX.Sl GX.Pt GX.Ag GX.MapR GX.Star GX.Kept GX.Pin wpT GoK AtEnd Both
structure MK where
 aC : Option Addr
 cC : Nat
 aG : Option Addr
 cG : Nat
 aU : Option Addr
 cU : Nat
 aL : Option Addr
 cL : Nat
 tp : Nat
 gb : Nat
 om : Nat
structure MV where
 ai : Option Addr
 ni : Nat
 ci : Nat
 af : Option Addr
 nf : Nat
 cf : Nat
 bound : Int
 en : Int
 code : Int
 ao : Option Addr
 no : Nat
 co : Nat
 steps : Int
 slack : Int
structure FrC where
 bl : Nat
 vb : Nat
 n : Nat
 mb : Nat
 mp : Int → Option Value
def trapV (v : MV) (c : Int) : MV := if c = 0 then v else if c = -1 then { v with en := 4, code := 0 } else { v with en := 2, code := c }
theorem ends_spec (t : RTg) (p : Nat) (k : MK) (v : MV) (e c : Int) : Does Tryz.prog 65 [.pointer (some ⟨p, 0, none⟩), .int .i64 e, .int .i64 c] [] [RowR p 57 [.slice k.aC t.classes.length k.cC, .slice k.aG t.globals.length k.cG, .slice k.aU t.units.length k.cU, .int .i64 t.main, .slice k.aL (glob t).length k.cL, .pointer (some ⟨k.tp, 0, none⟩), .int .i64 1, .slice v.ai v.ni v.ci, .slice (some ⟨k.gb, 0, none⟩) t.globals.length t.globals.length, .slice v.af v.nf v.cf, .int .i64 v.bound, .map (some k.om), .int .i64 v.en, .int .i64 v.code, .slice v.ao v.no v.co, .int .i64 v.steps, .int .i64 0, .int .i64 0, .int .i64 0, .int .i64 0, .int .i64 v.slack, .int .i64 0]]
  (fun _ : Unit => .tuple #[]) (fun _ => []) (fun _ => [RowR p 57 [.slice k.aC t.classes.length k.cC, .slice k.aG t.globals.length k.cG, .slice k.aU t.units.length k.cU, .int .i64 t.main, .slice k.aL (glob t).length k.cL, .pointer (some ⟨k.tp, 0, none⟩), .int .i64 1, .slice v.ai v.ni v.ci, .slice (some ⟨k.gb, 0, none⟩) t.globals.length t.globals.length, .slice v.af v.nf v.cf, .int .i64 v.bound, .map (some k.om), .int .i64 e, .int .i64 c, .slice v.ao v.no v.co, .int .i64 v.steps, .int .i64 0, .int .i64 0, .int .i64 0, .int .i64 0, .int .i64 v.slack, .int .i64 0]]) := by
 refine enter Tryz.func65 rfl Tryz.ntmps65 rfl fun _ => ?_
 refine GX.wp_R ?_; intros
 exact en0 ()
theorem trap_spec (t : RTg) (p : Nat) (k : MK) (v : MV) (c : Int) : Does Tryz.prog 106 [.pointer (some ⟨p, 0, none⟩), .int .i64 c] [] [RowR p 57 [.slice k.aC t.classes.length k.cC, .slice k.aG t.globals.length k.cG, .slice k.aU t.units.length k.cU, .int .i64 t.main, .slice k.aL (glob t).length k.cL, .pointer (some ⟨k.tp, 0, none⟩), .int .i64 1, .slice v.ai v.ni v.ci, .slice (some ⟨k.gb, 0, none⟩) t.globals.length t.globals.length, .slice v.af v.nf v.cf, .int .i64 v.bound, .map (some k.om), .int .i64 v.en, .int .i64 v.code, .slice v.ao v.no v.co, .int .i64 v.steps, .int .i64 0, .int .i64 0, .int .i64 0, .int .i64 0, .int .i64 v.slack, .int .i64 0]]
  (fun _ : Unit => .bool (decide (c ≠ 0))) (fun _ => []) (fun _ => [RowR p 57 [.slice k.aC t.classes.length k.cC, .slice k.aG t.globals.length k.cG, .slice k.aU t.units.length k.cU, .int .i64 t.main, .slice k.aL (glob t).length k.cL, .pointer (some ⟨k.tp, 0, none⟩), .int .i64 1, .slice (trapV v c).ai (trapV v c).ni (trapV v c).ci, .slice (some ⟨k.gb, 0, none⟩) t.globals.length t.globals.length, .slice (trapV v c).af (trapV v c).nf (trapV v c).cf, .int .i64 (trapV v c).bound, .map (some k.om), .int .i64 (trapV v c).en, .int .i64 (trapV v c).code, .slice (trapV v c).ao (trapV v c).no (trapV v c).co, .int .i64 (trapV v c).steps, .int .i64 0, .int .i64 0, .int .i64 0, .int .i64 0, .int .i64 (trapV v c).slack, .int .i64 0]]) := by
 refine enter Tryz.func106 rfl Tryz.ntmps106 rfl fun _ => ?_
 by_cases h0 : c = 0
 ·rw [show trapV v c = v from if_pos h0]
  refine GX.wp_R ?_; intros
  exact rt1 () (vN fun h => h h0)
 by_cases h1 : c = -1
 ·rw [show trapV v c = { v with en := 4, code := 0 } by unfold trapV; rw [if_neg h0, if_pos h1]]
  refine GX.wp_R ?_; intros
  refine GX.o (cl (ends_spec t p k v 4 0) fun _ => ?_)
  refine GX.wp_R ?_; intros
  exact rt1 () (vY h0)
 ·rw [show trapV v c = { v with en := 2, code := c } by unfold trapV; rw [if_neg h0, if_neg h1]]
  refine GX.wp_R ?_; intros
  refine GX.o (cl (ends_spec t p k v 2 c) fun _ => ?_)
  refine GX.wp_R ?_; intros
  exact rt1 () (vY h0)
theorem top_spec (t : RTg) (p : Nat) (k : MK) (v : MV) (l : List (Option Addr)) (x : Option Addr) (hn : v.nf = l.length + 1) (hb : l.length ≤ 1000) : Does Tryz.prog 66 [.pointer (some ⟨p, 0, none⟩)] [] [RowR p 57 [.slice k.aC t.classes.length k.cC, .slice k.aG t.globals.length k.cG, .slice k.aU t.units.length k.cU, .int .i64 t.main, .slice k.aL (glob t).length k.cL, .pointer (some ⟨k.tp, 0, none⟩), .int .i64 1, .slice v.ai v.ni v.ci, .slice (some ⟨k.gb, 0, none⟩) t.globals.length t.globals.length, .slice v.af v.nf v.cf, .int .i64 v.bound, .map (some k.om), .int .i64 v.en, .int .i64 v.code, .slice v.ao v.no v.co, .int .i64 v.steps, .int .i64 0, .int .i64 0, .int .i64 0, .int .i64 0, .int .i64 v.slack, .int .i64 0], GX.Own 60 Ty.ptr v.af v.cf (l ++ [x])]
  (fun _ : Unit => .pointer x) (fun _ => []) (fun _ => [RowR p 57 [.slice k.aC t.classes.length k.cC, .slice k.aG t.globals.length k.cG, .slice k.aU t.units.length k.cU, .int .i64 t.main, .slice k.aL (glob t).length k.cL, .pointer (some ⟨k.tp, 0, none⟩), .int .i64 1, .slice v.ai v.ni v.ci, .slice (some ⟨k.gb, 0, none⟩) t.globals.length t.globals.length, .slice v.af v.nf v.cf, .int .i64 v.bound, .map (some k.om), .int .i64 v.en, .int .i64 v.code, .slice v.ao v.no v.co, .int .i64 v.steps, .int .i64 0, .int .i64 0, .int .i64 0, .int .i64 0, .int .i64 v.slack, .int .i64 0], GX.Own 60 Ty.ptr v.af v.cf (l ++ [x])]) := by
 refine enter Tryz.func66 rfl Tryz.ntmps66 rfl fun _ => ?_
 have hx : (l ++ [x])[l.length]? = some x := by simp
 have hl : (l ++ [x]).length = l.length + 1 := by simp
 refine GX.opn v.af fun _ _ ha => ?_
 obtain ⟨h9, _⟩ | ⟨g, hg⟩ := ha
 ·simp at h9
 rw [hg, hn]
 refine GX.wp_R ?_; intros
 refine GX.drawn2 (RowR p 57 _) (GX.Own 60 Ty.ptr (some ⟨g, 0, none⟩) v.cf (l ++ [x])) (fun j => !(List.contains [] j)) [(0, true), (1, true), (2, true), (3, true), (4, true), (5, true), (6, true), (7, true), (8, true), (9, true), (10, true), (11, true), (12, true)] rfl (by kernel_rfl) (by kernel_rfl) GX.sA ?_; intro wd F hW hR
 refine GX.wp_T ?_; intros
 refine GX.unpin (RowR p 57 _) ?_
 refine GX.unpin (GX.Own 60 Ty.ptr (some ⟨g, 0, none⟩) v.cf (l ++ [x])) ?_
 refine GX.wp_R ?_; intros
 exact rt1 () rfl
theorem v_spec (t : RTg) (p : Nat) (k : MK) (v : MV) (l : List (Option Addr)) (x : FrC) (f : Fr) (i : Nat) (y : Int) (hn : v.nf = l.length + 1) (hb : l.length ≤ 1000) (hy : f.vars[i]? = some y) (hl : f.vars.length = x.n) :
  Does Tryz.prog 101 [.pointer (some ⟨p, 0, none⟩), .int .i64 (i : Int)] [] [RowR p 57 [.slice k.aC t.classes.length k.cC, .slice k.aG t.globals.length k.cG, .slice k.aU t.units.length k.cU, .int .i64 t.main, .slice k.aL (glob t).length k.cL, .pointer (some ⟨k.tp, 0, none⟩), .int .i64 1, .slice v.ai v.ni v.ci, .slice (some ⟨k.gb, 0, none⟩) t.globals.length t.globals.length, .slice v.af v.nf v.cf, .int .i64 v.bound, .map (some k.om), .int .i64 v.en, .int .i64 v.code, .slice v.ao v.no v.co, .int .i64 v.steps, .int .i64 0, .int .i64 0, .int .i64 0, .int .i64 0, .int .i64 v.slack, .int .i64 0], GX.Own 60 Ty.ptr v.af v.cf (l ++ [some ⟨x.bl, 0, none⟩]), RowR x.bl 93 [.int .i64 f.u, .int .i64 f.pc, .slice (some ⟨x.vb, 0, none⟩) x.n x.n, .int .i64 f.into, .map (some x.mb)], GX.Own 3 Ty.int (some ⟨x.vb, 0, none⟩) x.n f.vars]
  (fun _ : Unit => .int .i64 y) (fun _ => []) (fun _ => [RowR p 57 [.slice k.aC t.classes.length k.cC, .slice k.aG t.globals.length k.cG, .slice k.aU t.units.length k.cU, .int .i64 t.main, .slice k.aL (glob t).length k.cL, .pointer (some ⟨k.tp, 0, none⟩), .int .i64 1, .slice v.ai v.ni v.ci, .slice (some ⟨k.gb, 0, none⟩) t.globals.length t.globals.length, .slice v.af v.nf v.cf, .int .i64 v.bound, .map (some k.om), .int .i64 v.en, .int .i64 v.code, .slice v.ao v.no v.co, .int .i64 v.steps, .int .i64 0, .int .i64 0, .int .i64 0, .int .i64 0, .int .i64 v.slack, .int .i64 0], GX.Own 60 Ty.ptr v.af v.cf (l ++ [some ⟨x.bl, 0, none⟩]), RowR x.bl 93 [.int .i64 f.u, .int .i64 f.pc, .slice (some ⟨x.vb, 0, none⟩) x.n x.n, .int .i64 f.into, .map (some x.mb)], GX.Own 3 Ty.int (some ⟨x.vb, 0, none⟩) x.n f.vars]) := by
 refine enter Tryz.func101 rfl Tryz.ntmps101 rfl fun _ => ?_
 refine GX.wp_R ?_; intros
 refine GX.o (cl (top_spec t p k v l _ hn hb) fun _ => ?_)
 refine GX.wp_R ?_; intros
 exact rt1 () rfl
theorem set_spec (t : RTg) (p : Nat) (k : MK) (v : MV) (l : List (Option Addr)) (x : FrC) (f : Fr) (i : Nat) (y : Int) (hn : v.nf = l.length + 1) (hb : l.length ≤ 1000) (hi : i < x.n) (hl : f.vars.length = x.n) :
  Does Tryz.prog 100 [.pointer (some ⟨p, 0, none⟩), .int .i64 (i : Int), .int .i64 y] [] [RowR p 57 [.slice k.aC t.classes.length k.cC, .slice k.aG t.globals.length k.cG, .slice k.aU t.units.length k.cU, .int .i64 t.main, .slice k.aL (glob t).length k.cL, .pointer (some ⟨k.tp, 0, none⟩), .int .i64 1, .slice v.ai v.ni v.ci, .slice (some ⟨k.gb, 0, none⟩) t.globals.length t.globals.length, .slice v.af v.nf v.cf, .int .i64 v.bound, .map (some k.om), .int .i64 v.en, .int .i64 v.code, .slice v.ao v.no v.co, .int .i64 v.steps, .int .i64 0, .int .i64 0, .int .i64 0, .int .i64 0, .int .i64 v.slack, .int .i64 0], GX.Own 60 Ty.ptr v.af v.cf (l ++ [some ⟨x.bl, 0, none⟩]), RowR x.bl 93 [.int .i64 f.u, .int .i64 f.pc, .slice (some ⟨x.vb, 0, none⟩) x.n x.n, .int .i64 f.into, .map (some x.mb)], GX.Own 3 Ty.int (some ⟨x.vb, 0, none⟩) x.n f.vars]
  (fun _ : Unit => .tuple #[]) (fun _ => []) (fun _ => [RowR p 57 [.slice k.aC t.classes.length k.cC, .slice k.aG t.globals.length k.cG, .slice k.aU t.units.length k.cU, .int .i64 t.main, .slice k.aL (glob t).length k.cL, .pointer (some ⟨k.tp, 0, none⟩), .int .i64 1, .slice v.ai v.ni v.ci, .slice (some ⟨k.gb, 0, none⟩) t.globals.length t.globals.length, .slice v.af v.nf v.cf, .int .i64 v.bound, .map (some k.om), .int .i64 v.en, .int .i64 v.code, .slice v.ao v.no v.co, .int .i64 v.steps, .int .i64 0, .int .i64 0, .int .i64 0, .int .i64 0, .int .i64 v.slack, .int .i64 0], GX.Own 60 Ty.ptr v.af v.cf (l ++ [some ⟨x.bl, 0, none⟩]), RowR x.bl 93 [.int .i64 f.u, .int .i64 f.pc, .slice (some ⟨x.vb, 0, none⟩) x.n x.n, .int .i64 f.into, .map (some x.mb)], GX.Own 3 Ty.int (some ⟨x.vb, 0, none⟩) x.n (f.vars.set i y)]) := by
 refine enter Tryz.func100 rfl Tryz.ntmps100 rfl fun _ => ?_
 refine GX.wp_R ?_; intros
 refine GX.o (cl (top_spec t p k v l _ hn hb) fun _ => ?_)
 refine GX.wp_R ?_; intros
 exact en0 ()
end Go.Proofs.YtomadjefdghliaaGreat
