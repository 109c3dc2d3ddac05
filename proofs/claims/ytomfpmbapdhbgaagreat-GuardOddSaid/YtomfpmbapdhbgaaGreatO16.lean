import Derived.Test.YtomfpmbapdhbgaaGreatO10
import Derived.Test.YtomfpmbapdhbgaaGreatO13
import Derived.Test.YtomfpmbapdhbgaaGreatO14
import Derived.Test.YtomfpmbapdhbgaaGreatO15
/- slices.IndexFunc and slices.DeleteFunc over a list of ints of one's own. -/
namespace Go.Proofs.YtomfpmbapdhbgaaGreat
open Go Go.RR Go.RX Go.GX
attribute [local irreducible] wpList Code.wp wpPlan Exit.then Exit.inBlock bodyPost NoPanic Went GX.Post GX.Again GX.Meet GX.RowR GX.Own GX.Owns GX.Box GX.Sl GX.Pt GX.Ag GX.MapR GX.Kept GX.Pin

theorem indexFunc_own (ao : Option Addr) (cap : Nat) (xs : List Int) (fid : Nat) (caps : List Value) (psC : List Pf) (hpC : List Res) (p : Int → Bool) [UFunc Tryz.prog fid]
    (hf : ∀ x ∈ xs, Does Tryz.prog fid (.int .i64 x :: caps) psC hpC (fun _ : Unit => .bool (p x)) (fun _ => []) (fun _ => hpC)) :
    Does Tryz.prog 69 [.slice ao xs.length cap, .func (.func fid) #[] caps.toArray] psC (GX.Own 3 Ty.int ao cap xs :: hpC) (fun _ : Unit => .int .i64 (idxF p xs)) (fun _ => []) (fun _ => GX.Own 3 Ty.int ao cap xs :: hpC) := by
  refine enter Tryz.func69 rfl Tryz.ntmps69 rfl fun b => ?_
  refine GX.opn ao fun hl1 hl2 ha => ?_
  repeat (first | (apply GX.s_list; first | apply GX.nil | (refine GX.o ?_; first | (apply GX.k_load; first | refine GX.lr ?_ | refine GX.lrA ?_ | refine GX.ln ?_ | refine GX.lb ?_ | refine GX.lh ?_ | (refine GX.ls ?_; intro ao cap _ _) | (refine GX.lA ?_; intro cs) | (refine GX.l0 ?_; intro cs) | refine GX.o1n ?_ | refine GX.o1b ?_ | refine GX.o1h ?_ | (refine GX.o1s ?_; intro ao cap _ _) | refine GX.omn ?_ | refine GX.omb ?_ | refine GX.omh ?_ | (refine GX.oms ?_; intro ao cap _ _) | refine GX.ofn ?_ | refine GX.ofb ?_ | refine GX.ofh ?_ | (refine GX.ofs ?_; intro ao cap _ _) | (refine GX.oA ?_; intro cs)) | (apply GX.k_move; refine GX.m ?_) | (apply GX.k_indexAddr; first | refine GX.io1 ?_ | refine GX.ioh ?_ | refine GX.i1 ?_ | refine GX.ih ?_ | (refine GX.ix ?_; intro bl o)) | (apply GX.k_binOp_lss; refine GX.b_lss ?_) | (apply GX.k_binOp_add; first | refine GX.b_inc ?_ | refine GX.b_add ?_ | refine GX.b_addw ?_) | (apply GX.k_assign; refine GX.a ?_) | (apply GX.k_call; refine GX.c_len ?_)) | refine GX.gt ?_ | refine GX.gf ?_ | refine GX.gbt ?_ | refine GX.gbf ?_ | refine GX.un ?_ | refine GX.un0 ?_) | apply GX.then_normal | apply GX.seq | apply GX.region | (apply GX.s_cond; first | refine GX.ct ?_ | refine GX.cf ?_ | refine GX.cdf ?_ | refine GX.cdt ?_ | refine GX.cbt ?_ | refine GX.cbf ?_) | apply GX.skip | apply GX.block | apply GX.inBlock_normal | apply GX.exit | apply GX.then_exit | apply GX.inBlock_exit | refine GX.ibo ?_ | apply GX.ret | apply GX.then_ret | apply GX.inBlock_ret)
  refine GX.loop (σ := Nat) (fun i => [(0, .slice ao xs.length cap), (1, .func (.func fid) #[] caps.toArray), (7, .int .i64 (xs.length : Int)), (8, .int .i64 (i : Int))]) (fun _ => []) (fun _ => GX.Own 3 Ty.int ao cap xs :: hpC)
    (fun i => i ≤ xs.length ∧ ∀ y ∈ xs.take i, p y = false) (fun i => xs.length - i) 0 ⟨rfl, rfl, rfl, rfl, trivial⟩ ⟨by omega, by simp⟩ (fun i hi => ?_) (h2 := SelR.all _)
  obtain ⟨hi, hn⟩ := hi
  by_cases hlt : i < xs.length
  · obtain ⟨x, hx⟩ := get_lt hlt
    obtain ⟨h0, _⟩ | ⟨g, rfl⟩ := ha
    · subst h0; simp at hlt
    repeat (first | (apply GX.s_list; first | apply GX.nil | (refine GX.o ?_; first | (apply GX.k_load; first | refine GX.lr ?_ | refine GX.lrA ?_ | refine GX.ln ?_ | refine GX.lb ?_ | refine GX.lh ?_ | (refine GX.ls ?_; intro ao cap _ _) | (refine GX.lA ?_; intro cs) | (refine GX.l0 ?_; intro cs) | refine GX.o1n ?_ | refine GX.o1b ?_ | refine GX.o1h ?_ | (refine GX.o1s ?_; intro ao cap _ _) | refine GX.omn ?_ | refine GX.omb ?_ | refine GX.omh ?_ | (refine GX.oms ?_; intro ao cap _ _) | refine GX.ofn ?_ | refine GX.ofb ?_ | refine GX.ofh ?_ | (refine GX.ofs ?_; intro ao cap _ _) | (refine GX.oA ?_; intro cs)) | (apply GX.k_move; refine GX.m ?_) | (apply GX.k_indexAddr; first | refine GX.io1 ?_ | refine GX.ioh ?_ | refine GX.i1 ?_ | refine GX.ih ?_ | (refine GX.ix ?_; intro bl o)) | (apply GX.k_binOp_lss; refine GX.b_lss ?_) | (apply GX.k_binOp_add; first | refine GX.b_inc ?_ | refine GX.b_add ?_ | refine GX.b_addw ?_) | (apply GX.k_assign; refine GX.a ?_) | (apply GX.k_call; refine GX.c_len ?_)) | refine GX.gt ?_ | refine GX.gf ?_ | refine GX.gbt ?_ | refine GX.gbf ?_ | refine GX.un ?_ | refine GX.un0 ?_) | apply GX.then_normal | apply GX.seq | apply GX.region | (apply GX.s_cond; first | refine GX.ct ?_ | refine GX.cf ?_ | refine GX.cdf ?_ | refine GX.cdt ?_ | refine GX.cbt ?_ | refine GX.cbf ?_) | apply GX.skip | apply GX.block | apply GX.inBlock_normal | apply GX.exit | apply GX.then_exit | apply GX.inBlock_exit | refine GX.ibo ?_ | apply GX.ret | apply GX.then_ret | apply GX.inBlock_ret)
    refine GX.o (clvR (fs := []) (vs := [.int .i64 x]) (cs := caps) (hf x (List.mem_of_getElem? hx)) fun _ => ?_)
    by_cases hp : p x = true
    · repeat (first | (apply GX.s_list; first | apply GX.nil | (refine GX.o ?_; first | (apply GX.k_load; first | refine GX.lr ?_ | refine GX.lrA ?_ | refine GX.ln ?_ | refine GX.lb ?_ | refine GX.lh ?_ | (refine GX.ls ?_; intro ao cap _ _) | (refine GX.lA ?_; intro cs) | (refine GX.l0 ?_; intro cs) | refine GX.o1n ?_ | refine GX.o1b ?_ | refine GX.o1h ?_ | (refine GX.o1s ?_; intro ao cap _ _) | refine GX.omn ?_ | refine GX.omb ?_ | refine GX.omh ?_ | (refine GX.oms ?_; intro ao cap _ _) | refine GX.ofn ?_ | refine GX.ofb ?_ | refine GX.ofh ?_ | (refine GX.ofs ?_; intro ao cap _ _) | (refine GX.oA ?_; intro cs)) | (apply GX.k_move; refine GX.m ?_) | (apply GX.k_indexAddr; first | refine GX.io1 ?_ | refine GX.ioh ?_ | refine GX.i1 ?_ | refine GX.ih ?_ | (refine GX.ix ?_; intro bl o)) | (apply GX.k_binOp_lss; refine GX.b_lss ?_) | (apply GX.k_binOp_add; first | refine GX.b_inc ?_ | refine GX.b_add ?_ | refine GX.b_addw ?_) | (apply GX.k_assign; refine GX.a ?_) | (apply GX.k_call; refine GX.c_len ?_)) | refine GX.gt ?_ | refine GX.gf ?_ | refine GX.gbt ?_ | refine GX.gbf ?_ | refine GX.un ?_ | refine GX.un0 ?_) | apply GX.then_normal | apply GX.seq | apply GX.region | (apply GX.s_cond; first | refine GX.ct ?_ | refine GX.cf ?_ | refine GX.cdf ?_ | refine GX.cdt ?_ | refine GX.cbt ?_ | refine GX.cbf ?_) | apply GX.skip | apply GX.block | apply GX.inBlock_normal | apply GX.exit | apply GX.then_exit | apply GX.inBlock_exit | refine GX.ibo ?_ | apply GX.ret | apply GX.then_ret | apply GX.inBlock_ret)
      exact rt1 () (congrArg (Value.int .i64) (idxF_some hx hp hn)) (h2 := SelR.all _)
    · have hp : p x = false := by simpa using hp
      repeat (first | (apply GX.s_list; first | apply GX.nil | (refine GX.o ?_; first | (apply GX.k_load; first | refine GX.lr ?_ | refine GX.lrA ?_ | refine GX.ln ?_ | refine GX.lb ?_ | refine GX.lh ?_ | (refine GX.ls ?_; intro ao cap _ _) | (refine GX.lA ?_; intro cs) | (refine GX.l0 ?_; intro cs) | refine GX.o1n ?_ | refine GX.o1b ?_ | refine GX.o1h ?_ | (refine GX.o1s ?_; intro ao cap _ _) | refine GX.omn ?_ | refine GX.omb ?_ | refine GX.omh ?_ | (refine GX.oms ?_; intro ao cap _ _) | refine GX.ofn ?_ | refine GX.ofb ?_ | refine GX.ofh ?_ | (refine GX.ofs ?_; intro ao cap _ _) | (refine GX.oA ?_; intro cs)) | (apply GX.k_move; refine GX.m ?_) | (apply GX.k_indexAddr; first | refine GX.io1 ?_ | refine GX.ioh ?_ | refine GX.i1 ?_ | refine GX.ih ?_ | (refine GX.ix ?_; intro bl o)) | (apply GX.k_binOp_lss; refine GX.b_lss ?_) | (apply GX.k_binOp_add; first | refine GX.b_inc ?_ | refine GX.b_add ?_ | refine GX.b_addw ?_) | (apply GX.k_assign; refine GX.a ?_) | (apply GX.k_call; refine GX.c_len ?_)) | refine GX.gt ?_ | refine GX.gf ?_ | refine GX.gbt ?_ | refine GX.gbf ?_ | refine GX.un ?_ | refine GX.un0 ?_) | apply GX.then_normal | apply GX.seq | apply GX.region | (apply GX.s_cond; first | refine GX.ct ?_ | refine GX.cf ?_ | refine GX.cdf ?_ | refine GX.cdt ?_ | refine GX.cbt ?_ | refine GX.cbf ?_) | apply GX.skip | apply GX.block | apply GX.inBlock_normal | apply GX.exit | apply GX.then_exit | apply GX.inBlock_exit | refine GX.ibo ?_ | apply GX.ret | apply GX.then_ret | apply GX.inBlock_ret)
      exact again (i + 1) ⟨rfl, rfl, rfl, rfl, trivial⟩ ⟨by omega, take_all_succ hx hp hn⟩ (by omega) (h2 := SelR.all _)
  · have hil : i = xs.length := by omega
    subst hil
    repeat (first | (apply GX.s_list; first | apply GX.nil | (refine GX.o ?_; first | (apply GX.k_load; first | refine GX.lr ?_ | refine GX.lrA ?_ | refine GX.ln ?_ | refine GX.lb ?_ | refine GX.lh ?_ | (refine GX.ls ?_; intro ao cap _ _) | (refine GX.lA ?_; intro cs) | (refine GX.l0 ?_; intro cs) | refine GX.o1n ?_ | refine GX.o1b ?_ | refine GX.o1h ?_ | (refine GX.o1s ?_; intro ao cap _ _) | refine GX.omn ?_ | refine GX.omb ?_ | refine GX.omh ?_ | (refine GX.oms ?_; intro ao cap _ _) | refine GX.ofn ?_ | refine GX.ofb ?_ | refine GX.ofh ?_ | (refine GX.ofs ?_; intro ao cap _ _) | (refine GX.oA ?_; intro cs)) | (apply GX.k_move; refine GX.m ?_) | (apply GX.k_indexAddr; first | refine GX.io1 ?_ | refine GX.ioh ?_ | refine GX.i1 ?_ | refine GX.ih ?_ | (refine GX.ix ?_; intro bl o)) | (apply GX.k_binOp_lss; refine GX.b_lss ?_) | (apply GX.k_binOp_add; first | refine GX.b_inc ?_ | refine GX.b_add ?_ | refine GX.b_addw ?_) | (apply GX.k_assign; refine GX.a ?_) | (apply GX.k_call; refine GX.c_len ?_)) | refine GX.gt ?_ | refine GX.gf ?_ | refine GX.gbt ?_ | refine GX.gbf ?_ | refine GX.un ?_ | refine GX.un0 ?_) | apply GX.then_normal | apply GX.seq | apply GX.region | (apply GX.s_cond; first | refine GX.ct ?_ | refine GX.cf ?_ | refine GX.cdf ?_ | refine GX.cdt ?_ | refine GX.cbt ?_ | refine GX.cbf ?_) | apply GX.skip | apply GX.block | apply GX.inBlock_normal | apply GX.exit | apply GX.then_exit | apply GX.inBlock_exit | refine GX.ibo ?_ | apply GX.ret | apply GX.then_ret | apply GX.inBlock_ret)
    rw [List.take_length] at hn
    exact rt1 () (congrArg (Value.int .i64) (idxF_none hn)) (h2 := SelR.all _)

/-- What is kept of the first i. -/
def kept (p : Int → Bool) (xs : List Int) (i : Nat) : List Int := (xs.take i).filter fun x => !p x
theorem kept_succ {p : Int → Bool} {xs : List Int} {i : Nat} {x : Int} (hx : xs[i]? = some x) : kept p xs (i + 1) = kept p xs i ++ (if p x = true then [] else [x]) := by
  unfold kept
  rw [List.take_add_one, hx, List.filter_append]
  congr 1
  by_cases h : p x = true
  · simp [h]
  · have h : p x = false := by simpa using h
    simp [h]
theorem kept_len (p : Int → Bool) (xs : List Int) (i : Nat) (hi : i ≤ xs.length) : (kept p xs i).length ≤ i := by
  have := List.length_filter_le (fun x => !p x) (xs.take i)
  unfold kept
  rw [List.length_take] at this; omega
theorem deleteFunc_spec (ao : Option Addr) (cap : Nat) (xs : List Int) (fid : Nat) (caps : List Value) (psC : List Pf) (hpC : List Res) (p : Int → Bool) [UFunc Tryz.prog fid]
    (hf : ∀ x ∈ xs, Does Tryz.prog fid (.int .i64 x :: caps) psC hpC (fun _ : Unit => .bool (p x)) (fun _ => []) (fun _ => hpC)) :
    Does Tryz.prog 49 [.slice ao xs.length cap, .func (.func fid) #[] caps.toArray] psC (GX.Own 3 Ty.int ao cap xs :: hpC) (fun _ : Unit => .slice ao (kept p xs xs.length).length cap) (fun _ => []) (fun _ => GX.Own 3 Ty.int ao cap (kept p xs xs.length) :: hpC) := by
  refine enter Tryz.func49 rfl Tryz.ntmps49 rfl fun b => ?_
  refine GX.opn ao fun hl1 hl2 ha => ?_
  repeat (first | (apply GX.s_list; first | apply GX.nil | (refine GX.o ?_; first | (apply GX.k_load; first | refine GX.lr ?_ | refine GX.lrA ?_ | refine GX.ln ?_ | refine GX.lb ?_ | refine GX.lh ?_ | (refine GX.ls ?_; intro ao cap _ _) | (refine GX.lA ?_; intro cs) | (refine GX.l0 ?_; intro cs) | refine GX.o1n ?_ | refine GX.o1b ?_ | refine GX.o1h ?_ | (refine GX.o1s ?_; intro ao cap _ _) | refine GX.omn ?_ | refine GX.omb ?_ | refine GX.omh ?_ | (refine GX.oms ?_; intro ao cap _ _) | refine GX.ofn ?_ | refine GX.ofb ?_ | refine GX.ofh ?_ | (refine GX.ofs ?_; intro ao cap _ _) | (refine GX.oA ?_; intro cs)) | (apply GX.k_move; refine GX.m ?_) | (apply GX.k_indexAddr; first | refine GX.io1 ?_ | refine GX.ioh ?_ | refine GX.i1 ?_ | refine GX.ih ?_ | (refine GX.ix ?_; intro bl o)) | (apply GX.k_binOp_lss; refine GX.b_lss ?_) | (apply GX.k_binOp_add; first | refine GX.b_inc ?_ | refine GX.b_add ?_ | refine GX.b_addw ?_) | (apply GX.k_assign; refine GX.a ?_) | (apply GX.k_call; refine GX.c_len ?_) | (apply GX.k_store; first | refine GX.stW ?_ | refine GX.stB ?_ | refine GX.stR ?_ | refine GX.stRW ?_ | refine GX.so1 ?_ | refine GX.som ?_ | refine GX.sof ?_ | refine GX.sog ?_) | (apply GX.k_slice; first | (refine GX.ch ?_; intro q) | (refine GX.cl_ ?_; intro q) | (refine GX.cb_ ?_; intro q)) | (apply GX.k_unOp; first | refine GX.nt ?_ | refine GX.nf ?_ | refine GX.nd ?_ | refine GX.n_ ?_) | (apply GX.k_binOp_eql; first | refine GX.b_eql ?_ | refine GX.b_pn ?_ | refine GX.b_nn ?_ | refine GX.b_snn ?_ | refine GX.b_sns ?_ | refine GX.b_eqls ?_ | refine GX.b_eqltf ?_ | refine GX.b_eqlft ?_ | refine GX.b_eqlb ?_)) | refine GX.gt ?_ | refine GX.gf ?_ | refine GX.gbt ?_ | refine GX.gbf ?_ | refine GX.un ?_ | refine GX.un0 ?_) | apply GX.then_normal | apply GX.seq | apply GX.region | (apply GX.s_cond; first | refine GX.ct ?_ | refine GX.cf ?_ | refine GX.cdf ?_ | refine GX.cdt ?_ | refine GX.cbt ?_ | refine GX.cbf ?_) | apply GX.skip | apply GX.block | apply GX.inBlock_normal | apply GX.exit | apply GX.then_exit | apply GX.inBlock_exit | refine GX.ibo ?_ | apply GX.ret | apply GX.then_ret | apply GX.inBlock_ret)
  refine GX.o (clR (indexFunc_own ao cap xs fid caps psC hpC p hf) fun _ => ?_)
  rcases hfi : xs.findIdx? p with _ | i0
  · have h1 : idxF p xs = -1 := by unfold idxF; rw [hfi]
    have h2 : kept p xs xs.length = xs := by
      unfold kept; rw [List.take_length, List.filter_eq_self]
      intro x hx; have := List.findIdx?_eq_none_iff.1 hfi x hx; simp [this]
    rw [h1, h2]
    repeat (first | (apply GX.s_list; first | apply GX.nil | (refine GX.o ?_; first | (apply GX.k_load; first | refine GX.lr ?_ | refine GX.lrA ?_ | refine GX.ln ?_ | refine GX.lb ?_ | refine GX.lh ?_ | (refine GX.ls ?_; intro ao cap _ _) | (refine GX.lA ?_; intro cs) | (refine GX.l0 ?_; intro cs) | refine GX.o1n ?_ | refine GX.o1b ?_ | refine GX.o1h ?_ | (refine GX.o1s ?_; intro ao cap _ _) | refine GX.omn ?_ | refine GX.omb ?_ | refine GX.omh ?_ | (refine GX.oms ?_; intro ao cap _ _) | refine GX.ofn ?_ | refine GX.ofb ?_ | refine GX.ofh ?_ | (refine GX.ofs ?_; intro ao cap _ _) | (refine GX.oA ?_; intro cs)) | (apply GX.k_move; refine GX.m ?_) | (apply GX.k_indexAddr; first | refine GX.io1 ?_ | refine GX.ioh ?_ | refine GX.i1 ?_ | refine GX.ih ?_ | (refine GX.ix ?_; intro bl o)) | (apply GX.k_binOp_lss; refine GX.b_lss ?_) | (apply GX.k_binOp_add; first | refine GX.b_inc ?_ | refine GX.b_add ?_ | refine GX.b_addw ?_) | (apply GX.k_assign; refine GX.a ?_) | (apply GX.k_call; refine GX.c_len ?_) | (apply GX.k_store; first | refine GX.stW ?_ | refine GX.stB ?_ | refine GX.stR ?_ | refine GX.stRW ?_ | refine GX.so1 ?_ | refine GX.som ?_ | refine GX.sof ?_ | refine GX.sog ?_) | (apply GX.k_slice; first | (refine GX.ch ?_; intro q) | (refine GX.cl_ ?_; intro q) | (refine GX.cb_ ?_; intro q)) | (apply GX.k_unOp; first | refine GX.nt ?_ | refine GX.nf ?_ | refine GX.nd ?_ | refine GX.n_ ?_) | (apply GX.k_binOp_eql; first | refine GX.b_eql ?_ | refine GX.b_pn ?_ | refine GX.b_nn ?_ | refine GX.b_snn ?_ | refine GX.b_sns ?_ | refine GX.b_eqls ?_ | refine GX.b_eqltf ?_ | refine GX.b_eqlft ?_ | refine GX.b_eqlb ?_)) | refine GX.gt ?_ | refine GX.gf ?_ | refine GX.gbt ?_ | refine GX.gbf ?_ | refine GX.un ?_ | refine GX.un0 ?_) | apply GX.then_normal | apply GX.seq | apply GX.region | (apply GX.s_cond; first | refine GX.ct ?_ | refine GX.cf ?_ | refine GX.cdf ?_ | refine GX.cdt ?_ | refine GX.cbt ?_ | refine GX.cbf ?_) | apply GX.skip | apply GX.block | apply GX.inBlock_normal | apply GX.exit | apply GX.then_exit | apply GX.inBlock_exit | refine GX.ibo ?_ | apply GX.ret | apply GX.then_ret | apply GX.inBlock_ret)
    exact rt1 () rfl (h2 := SelR.all _)
  · have h1 : idxF p xs = (i0 : Int) := by unfold idxF; rw [hfi]
    obtain ⟨hl, hp0, hb0⟩ := List.findIdx?_eq_some_iff_getElem.1 hfi
    have hk0 : kept p xs (i0 + 1) = xs.take i0 := by
      rw [kept_succ (List.getElem?_eq_getElem hl), if_pos hp0, List.append_nil]
      unfold kept; rw [List.filter_eq_self]
      intro x hx
      obtain ⟨j, hj, rfl⟩ := List.mem_take_iff_getElem.1 hx
      have := hb0 j (by omega); simp [this]
    have hk0l : (kept p xs (i0 + 1)).length = i0 := by rw [hk0, List.length_take]; omega
    obtain ⟨h0, _⟩ | ⟨g, rfl⟩ := ha
    · subst h0; simp at hl
    rw [h1]
    repeat (first | (apply GX.s_list; first | apply GX.nil | (refine GX.o ?_; first | (apply GX.k_load; first | refine GX.lr ?_ | refine GX.lrA ?_ | refine GX.ln ?_ | refine GX.lb ?_ | refine GX.lh ?_ | (refine GX.ls ?_; intro ao cap _ _) | (refine GX.lA ?_; intro cs) | (refine GX.l0 ?_; intro cs) | refine GX.o1n ?_ | refine GX.o1b ?_ | refine GX.o1h ?_ | (refine GX.o1s ?_; intro ao cap _ _) | refine GX.omn ?_ | refine GX.omb ?_ | refine GX.omh ?_ | (refine GX.oms ?_; intro ao cap _ _) | refine GX.ofn ?_ | refine GX.ofb ?_ | refine GX.ofh ?_ | (refine GX.ofs ?_; intro ao cap _ _) | (refine GX.oA ?_; intro cs)) | (apply GX.k_move; refine GX.m ?_) | (apply GX.k_indexAddr; first | refine GX.io1 ?_ | refine GX.ioh ?_ | refine GX.i1 ?_ | refine GX.ih ?_ | (refine GX.ix ?_; intro bl o)) | (apply GX.k_binOp_lss; refine GX.b_lss ?_) | (apply GX.k_binOp_add; first | refine GX.b_inc ?_ | refine GX.b_add ?_ | refine GX.b_addw ?_) | (apply GX.k_assign; refine GX.a ?_) | (apply GX.k_call; refine GX.c_len ?_) | (apply GX.k_store; first | refine GX.stW ?_ | refine GX.stB ?_ | refine GX.stR ?_ | refine GX.stRW ?_ | refine GX.so1 ?_ | refine GX.som ?_ | refine GX.sof ?_ | refine GX.sog ?_) | (apply GX.k_slice; first | (refine GX.ch ?_; intro q) | (refine GX.cl_ ?_; intro q) | (refine GX.cb_ ?_; intro q)) | (apply GX.k_unOp; first | refine GX.nt ?_ | refine GX.nf ?_ | refine GX.nd ?_ | refine GX.n_ ?_) | (apply GX.k_binOp_eql; first | refine GX.b_eql ?_ | refine GX.b_pn ?_ | refine GX.b_nn ?_ | refine GX.b_snn ?_ | refine GX.b_sns ?_ | refine GX.b_eqls ?_ | refine GX.b_eqltf ?_ | refine GX.b_eqlft ?_ | refine GX.b_eqlb ?_)) | refine GX.gt ?_ | refine GX.gf ?_ | refine GX.gbt ?_ | refine GX.gbf ?_ | refine GX.un ?_ | refine GX.un0 ?_) | apply GX.then_normal | apply GX.seq | apply GX.region | (apply GX.s_cond; first | refine GX.ct ?_ | refine GX.cf ?_ | refine GX.cdf ?_ | refine GX.cdt ?_ | refine GX.cbt ?_ | refine GX.cbf ?_) | apply GX.skip | apply GX.block | apply GX.inBlock_normal | apply GX.exit | apply GX.then_exit | apply GX.inBlock_exit | refine GX.ibo ?_ | apply GX.ret | apply GX.then_ret | apply GX.inBlock_ret)
    refine GX.loop (σ := Nat × List Int) (fun s => [(0, .slice (some ⟨g, 0, none⟩) xs.length cap), (1, .func (.func fid) #[] caps.toArray), (5, .int .i64 ((kept p xs s.1).length : Int)), (6, .int .i64 (s.1 : Int))]) (fun _ => []) (fun s => GX.Own 3 Ty.int (some ⟨g, 0, none⟩) cap s.2 :: hpC)
      (fun s => s.1 ≤ xs.length ∧ s.2.length = xs.length ∧ s.2.take (kept p xs s.1).length = kept p xs s.1 ∧ s.2.drop s.1 = xs.drop s.1) (fun s => xs.length - s.1) (i0 + 1, xs) ⟨rfl, rfl, by rw [hk0l]; rfl, rfl, trivial⟩ ⟨by dsimp only; omega, rfl, by dsimp only; rw [hk0l, hk0], rfl⟩ (fun s hs => ?_) (h2 := SelR.all _)
    obtain ⟨i, ys⟩ := s
    obtain ⟨hi, hyl, htk, hdr⟩ := hs
    dsimp only at *
    have hkl := kept_len p xs i hi
    by_cases hlt : i < xs.length
    · obtain ⟨x, hx⟩ := get_lt hlt
      have hy : ys[i]? = some x := by
        have := congrArg (·[0]?) hdr
        simpa [List.getElem?_drop, hx] using this
      have hks := kept_succ (p := p) hx
      repeat (first | (apply GX.s_list; first | apply GX.nil | (refine GX.o ?_; first | (apply GX.k_load; first | refine GX.lr ?_ | refine GX.lrA ?_ | refine GX.ln ?_ | refine GX.lb ?_ | refine GX.lh ?_ | (refine GX.ls ?_; intro ao cap _ _) | (refine GX.lA ?_; intro cs) | (refine GX.l0 ?_; intro cs) | refine GX.o1n ?_ | refine GX.o1b ?_ | refine GX.o1h ?_ | (refine GX.o1s ?_; intro ao cap _ _) | refine GX.omn ?_ | refine GX.omb ?_ | refine GX.omh ?_ | (refine GX.oms ?_; intro ao cap _ _) | refine GX.ofn ?_ | refine GX.ofb ?_ | refine GX.ofh ?_ | (refine GX.ofs ?_; intro ao cap _ _) | (refine GX.oA ?_; intro cs)) | (apply GX.k_move; refine GX.m ?_) | (apply GX.k_indexAddr; first | refine GX.io1 ?_ | refine GX.ioh ?_ | refine GX.i1 ?_ | refine GX.ih ?_ | (refine GX.ix ?_; intro bl o)) | (apply GX.k_binOp_lss; refine GX.b_lss ?_) | (apply GX.k_binOp_add; first | refine GX.b_inc ?_ | refine GX.b_add ?_ | refine GX.b_addw ?_) | (apply GX.k_assign; refine GX.a ?_) | (apply GX.k_call; refine GX.c_len ?_) | (apply GX.k_store; first | refine GX.stW ?_ | refine GX.stB ?_ | refine GX.stR ?_ | refine GX.stRW ?_ | refine GX.so1 ?_ | refine GX.som ?_ | refine GX.sof ?_ | refine GX.sog ?_) | (apply GX.k_slice; first | (refine GX.ch ?_; intro q) | (refine GX.cl_ ?_; intro q) | (refine GX.cb_ ?_; intro q)) | (apply GX.k_unOp; first | refine GX.nt ?_ | refine GX.nf ?_ | refine GX.nd ?_ | refine GX.n_ ?_) | (apply GX.k_binOp_eql; first | refine GX.b_eql ?_ | refine GX.b_pn ?_ | refine GX.b_nn ?_ | refine GX.b_snn ?_ | refine GX.b_sns ?_ | refine GX.b_eqls ?_ | refine GX.b_eqltf ?_ | refine GX.b_eqlft ?_ | refine GX.b_eqlb ?_)) | refine GX.gt ?_ | refine GX.gf ?_ | refine GX.gbt ?_ | refine GX.gbf ?_ | refine GX.un ?_ | refine GX.un0 ?_) | apply GX.then_normal | apply GX.seq | apply GX.region | (apply GX.s_cond; first | refine GX.ct ?_ | refine GX.cf ?_ | refine GX.cdf ?_ | refine GX.cdt ?_ | refine GX.cbt ?_ | refine GX.cbf ?_) | apply GX.skip | apply GX.block | apply GX.inBlock_normal | apply GX.exit | apply GX.then_exit | apply GX.inBlock_exit | refine GX.ibo ?_ | apply GX.ret | apply GX.then_ret | apply GX.inBlock_ret)
      refine GX.o (clvR (fs := []) (vs := [.int .i64 x]) (cs := caps) (hf x (List.mem_of_getElem? hx)) fun _ => ?_)
      by_cases hp : p x = true
      · rw [if_pos hp, List.append_nil] at hks
        have hpn : (!p x) = false := by rw [hp]; rfl
        repeat (first | (apply GX.s_list; first | apply GX.nil | (refine GX.o ?_; first | (apply GX.k_load; first | refine GX.lr ?_ | refine GX.lrA ?_ | refine GX.ln ?_ | refine GX.lb ?_ | refine GX.lh ?_ | (refine GX.ls ?_; intro ao cap _ _) | (refine GX.lA ?_; intro cs) | (refine GX.l0 ?_; intro cs) | refine GX.o1n ?_ | refine GX.o1b ?_ | refine GX.o1h ?_ | (refine GX.o1s ?_; intro ao cap _ _) | refine GX.omn ?_ | refine GX.omb ?_ | refine GX.omh ?_ | (refine GX.oms ?_; intro ao cap _ _) | refine GX.ofn ?_ | refine GX.ofb ?_ | refine GX.ofh ?_ | (refine GX.ofs ?_; intro ao cap _ _) | (refine GX.oA ?_; intro cs)) | (apply GX.k_move; refine GX.m ?_) | (apply GX.k_indexAddr; first | refine GX.io1 ?_ | refine GX.ioh ?_ | refine GX.i1 ?_ | refine GX.ih ?_ | (refine GX.ix ?_; intro bl o)) | (apply GX.k_binOp_lss; refine GX.b_lss ?_) | (apply GX.k_binOp_add; first | refine GX.b_inc ?_ | refine GX.b_add ?_ | refine GX.b_addw ?_) | (apply GX.k_assign; refine GX.a ?_) | (apply GX.k_call; refine GX.c_len ?_) | (apply GX.k_store; first | refine GX.stW ?_ | refine GX.stB ?_ | refine GX.stR ?_ | refine GX.stRW ?_ | refine GX.so1 ?_ | refine GX.som ?_ | refine GX.sof ?_ | refine GX.sog ?_) | (apply GX.k_slice; first | (refine GX.ch ?_; intro q) | (refine GX.cl_ ?_; intro q) | (refine GX.cb_ ?_; intro q)) | (apply GX.k_unOp; first | refine GX.nt ?_ | refine GX.nf ?_ | refine GX.nd ?_ | refine GX.n_ ?_) | (apply GX.k_binOp_eql; first | refine GX.b_eql ?_ | refine GX.b_pn ?_ | refine GX.b_nn ?_ | refine GX.b_snn ?_ | refine GX.b_sns ?_ | refine GX.b_eqls ?_ | refine GX.b_eqltf ?_ | refine GX.b_eqlft ?_ | refine GX.b_eqlb ?_)) | refine GX.gt ?_ | refine GX.gf ?_ | refine GX.gbt ?_ | refine GX.gbf ?_ | refine GX.un ?_ | refine GX.un0 ?_) | apply GX.then_normal | apply GX.seq | apply GX.region | (apply GX.s_cond; first | refine GX.ct ?_ | refine GX.cf ?_ | refine GX.cdf ?_ | refine GX.cdt ?_ | refine GX.cbt ?_ | refine GX.cbf ?_) | apply GX.skip | apply GX.block | apply GX.inBlock_normal | apply GX.exit | apply GX.then_exit | apply GX.inBlock_exit | refine GX.ibo ?_ | apply GX.ret | apply GX.then_ret | apply GX.inBlock_ret)
        refine again (i + 1, ys) ⟨rfl, rfl, by dsimp only; rw [hks]; rfl, rfl, trivial⟩ ⟨by dsimp only; omega, hyl, by dsimp only; rw [hks]; exact htk, ?_⟩ (by dsimp only; omega) (h2 := SelR.all _)
        dsimp only
        rw [← List.drop_drop, hdr, List.drop_drop]
      · have hp : p x = false := by simpa using hp
        rw [if_neg (by rw [hp]; simp)] at hks
        have hkl2 : (kept p xs (i + 1)).length = (kept p xs i).length + 1 := by rw [hks]; simp
        have hpn : (!p x) = true := by rw [hp]; rfl
        repeat (first | (apply GX.s_list; first | apply GX.nil | (refine GX.o ?_; first | (apply GX.k_load; first | refine GX.lr ?_ | refine GX.lrA ?_ | refine GX.ln ?_ | refine GX.lb ?_ | refine GX.lh ?_ | (refine GX.ls ?_; intro ao cap _ _) | (refine GX.lA ?_; intro cs) | (refine GX.l0 ?_; intro cs) | refine GX.o1n ?_ | refine GX.o1b ?_ | refine GX.o1h ?_ | (refine GX.o1s ?_; intro ao cap _ _) | refine GX.omn ?_ | refine GX.omb ?_ | refine GX.omh ?_ | (refine GX.oms ?_; intro ao cap _ _) | refine GX.ofn ?_ | refine GX.ofb ?_ | refine GX.ofh ?_ | (refine GX.ofs ?_; intro ao cap _ _) | (refine GX.oA ?_; intro cs)) | (apply GX.k_move; refine GX.m ?_) | (apply GX.k_indexAddr; first | refine GX.io1 ?_ | refine GX.ioh ?_ | refine GX.i1 ?_ | refine GX.ih ?_ | (refine GX.ix ?_; intro bl o)) | (apply GX.k_binOp_lss; refine GX.b_lss ?_) | (apply GX.k_binOp_add; first | refine GX.b_inc ?_ | refine GX.b_add ?_ | refine GX.b_addw ?_) | (apply GX.k_assign; refine GX.a ?_) | (apply GX.k_call; refine GX.c_len ?_) | (apply GX.k_store; first | refine GX.stW ?_ | refine GX.stB ?_ | refine GX.stR ?_ | refine GX.stRW ?_ | refine GX.so1 ?_ | refine GX.som ?_ | refine GX.sof ?_ | refine GX.sog ?_) | (apply GX.k_slice; first | (refine GX.ch ?_; intro q) | (refine GX.cl_ ?_; intro q) | (refine GX.cb_ ?_; intro q)) | (apply GX.k_unOp; first | refine GX.nt ?_ | refine GX.nf ?_ | refine GX.nd ?_ | refine GX.n_ ?_) | (apply GX.k_binOp_eql; first | refine GX.b_eql ?_ | refine GX.b_pn ?_ | refine GX.b_nn ?_ | refine GX.b_snn ?_ | refine GX.b_sns ?_ | refine GX.b_eqls ?_ | refine GX.b_eqltf ?_ | refine GX.b_eqlft ?_ | refine GX.b_eqlb ?_)) | refine GX.gt ?_ | refine GX.gf ?_ | refine GX.gbt ?_ | refine GX.gbf ?_ | refine GX.un ?_ | refine GX.un0 ?_) | apply GX.then_normal | apply GX.seq | apply GX.region | (apply GX.s_cond; first | refine GX.ct ?_ | refine GX.cf ?_ | refine GX.cdf ?_ | refine GX.cdt ?_ | refine GX.cbt ?_ | refine GX.cbf ?_) | apply GX.skip | apply GX.block | apply GX.inBlock_normal | apply GX.exit | apply GX.then_exit | apply GX.inBlock_exit | refine GX.ibo ?_ | apply GX.ret | apply GX.then_ret | apply GX.inBlock_ret)
        refine again (i + 1, ys.set (kept p xs i).length x) ⟨rfl, rfl, by dsimp only; rw [hkl2]; rfl, rfl, trivial⟩ ⟨by dsimp only; omega, by simpa using hyl, ?_, ?_⟩ (by dsimp only; omega) (h2 := SelR.all _)
        · dsimp only
          rw [hkl2, List.take_add_one, List.getElem?_set_self (by omega), List.take_set_of_le (Nat.le_refl _), htk, hks]; rfl
        · dsimp only
          rw [List.drop_set_of_lt (by omega), ← List.drop_drop, hdr, List.drop_drop]
    · have hil : i = xs.length := by omega
      subst hil
      repeat (first | (apply GX.s_list; first | apply GX.nil | (refine GX.o ?_; first | (apply GX.k_load; first | refine GX.lr ?_ | refine GX.lrA ?_ | refine GX.ln ?_ | refine GX.lb ?_ | refine GX.lh ?_ | (refine GX.ls ?_; intro ao cap _ _) | (refine GX.lA ?_; intro cs) | (refine GX.l0 ?_; intro cs) | refine GX.o1n ?_ | refine GX.o1b ?_ | refine GX.o1h ?_ | (refine GX.o1s ?_; intro ao cap _ _) | refine GX.omn ?_ | refine GX.omb ?_ | refine GX.omh ?_ | (refine GX.oms ?_; intro ao cap _ _) | refine GX.ofn ?_ | refine GX.ofb ?_ | refine GX.ofh ?_ | (refine GX.ofs ?_; intro ao cap _ _) | (refine GX.oA ?_; intro cs)) | (apply GX.k_move; refine GX.m ?_) | (apply GX.k_indexAddr; first | refine GX.io1 ?_ | refine GX.ioh ?_ | refine GX.i1 ?_ | refine GX.ih ?_ | (refine GX.ix ?_; intro bl o)) | (apply GX.k_binOp_lss; refine GX.b_lss ?_) | (apply GX.k_binOp_add; first | refine GX.b_inc ?_ | refine GX.b_add ?_ | refine GX.b_addw ?_) | (apply GX.k_assign; refine GX.a ?_) | (apply GX.k_call; refine GX.c_len ?_) | (apply GX.k_store; first | refine GX.stW ?_ | refine GX.stB ?_ | refine GX.stR ?_ | refine GX.stRW ?_ | refine GX.so1 ?_ | refine GX.som ?_ | refine GX.sof ?_ | refine GX.sog ?_) | (apply GX.k_slice; first | (refine GX.ch ?_; intro q) | (refine GX.cl_ ?_; intro q) | (refine GX.cb_ ?_; intro q)) | (apply GX.k_unOp; first | refine GX.nt ?_ | refine GX.nf ?_ | refine GX.nd ?_ | refine GX.n_ ?_) | (apply GX.k_binOp_eql; first | refine GX.b_eql ?_ | refine GX.b_pn ?_ | refine GX.b_nn ?_ | refine GX.b_snn ?_ | refine GX.b_sns ?_ | refine GX.b_eqls ?_ | refine GX.b_eqltf ?_ | refine GX.b_eqlft ?_ | refine GX.b_eqlb ?_)) | refine GX.gt ?_ | refine GX.gf ?_ | refine GX.gbt ?_ | refine GX.gbf ?_ | refine GX.un ?_ | refine GX.un0 ?_) | apply GX.then_normal | apply GX.seq | apply GX.region | (apply GX.s_cond; first | refine GX.ct ?_ | refine GX.cf ?_ | refine GX.cdf ?_ | refine GX.cdt ?_ | refine GX.cbt ?_ | refine GX.cbf ?_) | apply GX.skip | apply GX.block | apply GX.inBlock_normal | apply GX.exit | apply GX.then_exit | apply GX.inBlock_exit | refine GX.ibo ?_ | apply GX.ret | apply GX.then_ret | apply GX.inBlock_ret)
      refine GX.o (ol fun o2 ho2 => ?_)
      refine GX.o (clr (k0 := (kept p xs xs.length).length) (xs := ys) (fun zs hzl hzt => ?_) rfl rfl rfl rfl (by omega))
      refine GX.nil ?_
      refine ownTake (some ⟨g, 0, none⟩) (kept p xs xs.length).length ?_
      rw [hzt, htk]
      repeat (first | (apply GX.s_list; first | apply GX.nil | (refine GX.o ?_; first | (apply GX.k_load; first | refine GX.lr ?_ | refine GX.lrA ?_ | refine GX.ln ?_ | refine GX.lb ?_ | refine GX.lh ?_ | (refine GX.ls ?_; intro ao cap _ _) | (refine GX.lA ?_; intro cs) | (refine GX.l0 ?_; intro cs) | refine GX.o1n ?_ | refine GX.o1b ?_ | refine GX.o1h ?_ | (refine GX.o1s ?_; intro ao cap _ _) | refine GX.omn ?_ | refine GX.omb ?_ | refine GX.omh ?_ | (refine GX.oms ?_; intro ao cap _ _) | refine GX.ofn ?_ | refine GX.ofb ?_ | refine GX.ofh ?_ | (refine GX.ofs ?_; intro ao cap _ _) | (refine GX.oA ?_; intro cs)) | (apply GX.k_move; refine GX.m ?_) | (apply GX.k_indexAddr; first | refine GX.io1 ?_ | refine GX.ioh ?_ | refine GX.i1 ?_ | refine GX.ih ?_ | (refine GX.ix ?_; intro bl o)) | (apply GX.k_binOp_lss; refine GX.b_lss ?_) | (apply GX.k_binOp_add; first | refine GX.b_inc ?_ | refine GX.b_add ?_ | refine GX.b_addw ?_) | (apply GX.k_assign; refine GX.a ?_) | (apply GX.k_call; refine GX.c_len ?_) | (apply GX.k_store; first | refine GX.stW ?_ | refine GX.stB ?_ | refine GX.stR ?_ | refine GX.stRW ?_ | refine GX.so1 ?_ | refine GX.som ?_ | refine GX.sof ?_ | refine GX.sog ?_) | (apply GX.k_slice; first | (refine GX.ch ?_; intro q) | (refine GX.cl_ ?_; intro q) | (refine GX.cb_ ?_; intro q)) | (apply GX.k_unOp; first | refine GX.nt ?_ | refine GX.nf ?_ | refine GX.nd ?_ | refine GX.n_ ?_) | (apply GX.k_binOp_eql; first | refine GX.b_eql ?_ | refine GX.b_pn ?_ | refine GX.b_nn ?_ | refine GX.b_snn ?_ | refine GX.b_sns ?_ | refine GX.b_eqls ?_ | refine GX.b_eqltf ?_ | refine GX.b_eqlft ?_ | refine GX.b_eqlb ?_)) | refine GX.gt ?_ | refine GX.gf ?_ | refine GX.gbt ?_ | refine GX.gbf ?_ | refine GX.un ?_ | refine GX.un0 ?_) | apply GX.then_normal | apply GX.seq | apply GX.region | (apply GX.s_cond; first | refine GX.ct ?_ | refine GX.cf ?_ | refine GX.cdf ?_ | refine GX.cdt ?_ | refine GX.cbt ?_ | refine GX.cbf ?_) | apply GX.skip | apply GX.block | apply GX.inBlock_normal | apply GX.exit | apply GX.then_exit | apply GX.inBlock_exit | refine GX.ibo ?_ | apply GX.ret | apply GX.then_ret | apply GX.inBlock_ret)
      refine GX.o (oh ?_)
      repeat (first | (apply GX.s_list; first | apply GX.nil | (refine GX.o ?_; first | (apply GX.k_load; first | refine GX.lr ?_ | refine GX.lrA ?_ | refine GX.ln ?_ | refine GX.lb ?_ | refine GX.lh ?_ | (refine GX.ls ?_; intro ao cap _ _) | (refine GX.lA ?_; intro cs) | (refine GX.l0 ?_; intro cs) | refine GX.o1n ?_ | refine GX.o1b ?_ | refine GX.o1h ?_ | (refine GX.o1s ?_; intro ao cap _ _) | refine GX.omn ?_ | refine GX.omb ?_ | refine GX.omh ?_ | (refine GX.oms ?_; intro ao cap _ _) | refine GX.ofn ?_ | refine GX.ofb ?_ | refine GX.ofh ?_ | (refine GX.ofs ?_; intro ao cap _ _) | (refine GX.oA ?_; intro cs)) | (apply GX.k_move; refine GX.m ?_) | (apply GX.k_indexAddr; first | refine GX.io1 ?_ | refine GX.ioh ?_ | refine GX.i1 ?_ | refine GX.ih ?_ | (refine GX.ix ?_; intro bl o)) | (apply GX.k_binOp_lss; refine GX.b_lss ?_) | (apply GX.k_binOp_add; first | refine GX.b_inc ?_ | refine GX.b_add ?_ | refine GX.b_addw ?_) | (apply GX.k_assign; refine GX.a ?_) | (apply GX.k_call; refine GX.c_len ?_) | (apply GX.k_store; first | refine GX.stW ?_ | refine GX.stB ?_ | refine GX.stR ?_ | refine GX.stRW ?_ | refine GX.so1 ?_ | refine GX.som ?_ | refine GX.sof ?_ | refine GX.sog ?_) | (apply GX.k_slice; first | (refine GX.ch ?_; intro q) | (refine GX.cl_ ?_; intro q) | (refine GX.cb_ ?_; intro q)) | (apply GX.k_unOp; first | refine GX.nt ?_ | refine GX.nf ?_ | refine GX.nd ?_ | refine GX.n_ ?_) | (apply GX.k_binOp_eql; first | refine GX.b_eql ?_ | refine GX.b_pn ?_ | refine GX.b_nn ?_ | refine GX.b_snn ?_ | refine GX.b_sns ?_ | refine GX.b_eqls ?_ | refine GX.b_eqltf ?_ | refine GX.b_eqlft ?_ | refine GX.b_eqlb ?_)) | refine GX.gt ?_ | refine GX.gf ?_ | refine GX.gbt ?_ | refine GX.gbf ?_ | refine GX.un ?_ | refine GX.un0 ?_) | apply GX.then_normal | apply GX.seq | apply GX.region | (apply GX.s_cond; first | refine GX.ct ?_ | refine GX.cf ?_ | refine GX.cdf ?_ | refine GX.cdt ?_ | refine GX.cbt ?_ | refine GX.cbf ?_) | apply GX.skip | apply GX.block | apply GX.inBlock_normal | apply GX.exit | apply GX.then_exit | apply GX.inBlock_exit | refine GX.ibo ?_ | apply GX.ret | apply GX.then_ret | apply GX.inBlock_ret)
      exact rt1 () rfl (h2 := SelR.all _)
end Go.Proofs.YtomfpmbapdhbgaaGreat

/- The walks over guard's small functions: some, all, minus. -/
namespace Go.Proofs.YtomfpmbapdhbgaaGreat
open Go Go.RR Go.RX Go.GX Go.Api Go.GuaM
attribute [local irreducible] wpList Code.wp wpPlan Exit.then Exit.inBlock bodyPost NoPanic Went GX.Post GX.Again GX.Meet GX.RowR GX.Own GX.Owns GX.Box GX.Sl GX.Pt GX.Ag GX.MapR GX.Kept GX.Pin wpT GoK AtEnd Both
theorem any_dec' {P : Int → Prop} [DecidablePred P] (l : List Int) : (l.any fun x => decide (P x)) = decide (∃ n ∈ l, P n) := by
  rw [Bool.eq_iff_iff, List.any_eq_true, decide_eq_true_eq]
  simp only [decide_eq_true_eq]
theorem kept_minus (xs ys : List Int) : kept (fun n => decide (n ∈ ys)) xs xs.length = minus xs ys := by
  unfold kept minus
  rw [List.take_length]
  congr 1
  funext n
  by_cases h : n ∈ ys <;> simp [h]
theorem some1_spec (bl : Nat) (l : List Int) (n : Int) : Does Tryz.prog 116 [.int .i64 n, .pointer (some ⟨bl, 0, none⟩)] [Pt (Ty.slice Ty.int) bl 0 l] [] (fun _ : Unit => .bool (decide (n ∈ l))) (fun _ => []) (fun _ => []) := by
  refine enter Tryz.func116 rfl Tryz.ntmps116 rfl fun b => ?_
  refine GX.wR ?_; intros
  refine GX.o (cl (contains_spec _ _ l n) fun _ => ?_)
  refine GX.wR ?_; intros
  exact rt1 () rfl
theorem all1_spec (bl : Nat) (l : List Int) (n : Int) : Does Tryz.prog 123 [.int .i64 n, .pointer (some ⟨bl, 0, none⟩)] [Pt (Ty.slice Ty.int) bl 0 l] [] (fun _ : Unit => .bool (decide (¬ n ∈ l))) (fun _ => []) (fun _ => []) := by
  refine enter Tryz.func123 rfl Tryz.ntmps123 rfl fun b => ?_
  refine GX.wR ?_; intros
  refine GX.o (cl (contains_spec _ _ l n) fun _ => ?_)
  refine GX.wR ?_; intros
  exact rt1 () rfl
theorem minus1_spec (bl : Nat) (l : List Int) (n : Int) : Does Tryz.prog 122 [.int .i64 n, .pointer (some ⟨bl, 0, none⟩)] [Pt (Ty.slice Ty.int) bl 0 l] [] (fun _ : Unit => .bool (decide (n ∈ l))) (fun _ => []) (fun _ => []) := by
  refine enter Tryz.func122 rfl Tryz.ntmps122 rfl fun b => ?_
  refine GX.wR ?_; intros
  refine GX.o (cl (contains_spec _ _ l n) fun _ => ?_)
  refine GX.wR ?_; intros
  exact rt1 () rfl
theorem gsome_spec (a1 a2 : Option Addr) (c1 c2 : Nat) (l m : List Int) : Does Tryz.prog 85 [.slice a1 l.length c1, .slice a2 m.length c2] [Sl Ty.int a1 c1 l, Sl Ty.int a2 c2 m] []
    (fun _ : Unit => .bool (decide (∃ n ∈ l, n ∈ m))) (fun _ => []) (fun _ => []) := by
  refine enter Tryz.func85 rfl Tryz.ntmps85 rfl fun b => ?_
  refine GX.wR ?_; intros
  refine GX.nmP 3 ?_; rintro b3 rfl
  refine frzS b3 Ty.int m ?_
  refine GX.o (cl (containsFunc_spec a1 c1 l 116 [.pointer (some ⟨b3, 0, none⟩)] [Pt (Ty.slice Ty.int) b3 0 m] [] (fun n => decide (n ∈ m)) (fun n _ => some1_spec b3 m n)) fun _ => ?_)
  rw [any_dec']
  refine GX.wR ?_; intros
  exact rt1 () rfl
theorem gall_spec (a1 a2 : Option Addr) (c1 c2 : Nat) (l m : List Int) : Does Tryz.prog 89 [.slice a1 l.length c1, .slice a2 m.length c2] [Sl Ty.int a1 c1 l, Sl Ty.int a2 c2 m] []
    (fun _ : Unit => .bool (decide (∀ n ∈ l, n ∈ m))) (fun _ => []) (fun _ => []) := by
  refine enter Tryz.func89 rfl Tryz.ntmps89 rfl fun b => ?_
  refine GX.wR ?_; intros
  refine GX.nmP 3 ?_; rintro b3 rfl
  refine frzS b3 Ty.int m ?_
  refine GX.o (cl (containsFunc_spec a1 c1 l 123 [.pointer (some ⟨b3, 0, none⟩)] [Pt (Ty.slice Ty.int) b3 0 m] [] (fun n => decide (¬ n ∈ m)) (fun n _ => all1_spec b3 m n)) fun _ => ?_)
  have e : (l.any fun n => decide (¬ n ∈ m)) = decide (¬ ∀ n ∈ l, n ∈ m) := by
    rw [Bool.eq_iff_iff, List.any_eq_true]
    simp
  rw [e]
  refine GX.wR ?_; intros
  exact rt1 () (congrArg Value.bool (decide_eq_decide.2 Classical.not_not.symm))
theorem gminus_spec (a1 a2 : Option Addr) (c1 c2 : Nat) (l m : List Int) (hl : l.length ≤ 1000000) : Does Tryz.prog 88 [.slice a1 l.length c1, .slice a2 m.length c2] [Sl Ty.int a1 c1 l, Sl Ty.int a2 c2 m] []
    (fun s : Option Addr × Nat => .slice s.1 (minus l m).length s.2) (fun s => [Sl Ty.int s.1 s.2 (minus l m)]) (fun _ => []) := by
  refine enter Tryz.func88 rfl Tryz.ntmps88 rfl fun b => ?_
  refine GX.wR ?_; intros
  refine GX.nmP 3 ?_; rintro b3 rfl
  refine frzS b3 Ty.int m ?_
  refine GX.o (cl (clone_spec a1 c1 l (by omega)) fun s => ?_)
  obtain ⟨ao, cap⟩ := s
  dsimp only
  refine GX.wR ?_; intros
  refine GX.o (cl (deleteFunc_spec ao cap l 122 [.pointer (some ⟨b3, 0, none⟩)] [Pt (Ty.slice Ty.int) b3 0 m] [] (fun n => decide (n ∈ m)) (fun n _ => minus1_spec b3 m n)) fun _ => ?_)
  rw [kept_minus]
  refine frz ao ?_
  refine GX.wR ?_; intros
  exact rt1 (ao, cap) rfl
end Go.Proofs.YtomfpmbapdhbgaaGreat

/- The walks over the small functions of package rt. -/
namespace Go.Proofs.YtomfpmbapdhbgaaGreat
open Go Go.RR Go.RX Go.GX Go.Api Go.RiseM Go.ReachM Go.RtM
attribute [local irreducible] wpList Code.wp wpPlan Exit.then Exit.inBlock bodyPost NoPanic Went GX.Post GX.Again GX.Meet GX.RowR GX.Own GX.Owns GX.Box GX.Sl GX.Pt GX.Ag GX.MapR GX.Kept GX.Pin wpT GoK AtEnd Both

theorem vY {P : Prop} [Decidable P] (h : P) : Value.bool (decide P) = .bool true := by rw [decide_eq_true h]
theorem vN {P : Prop} [Decidable P] (h : ¬ P) : Value.bool (decide P) = .bool false := by rw [decide_eq_false h]
theorem vI {P Q : Prop} [Decidable P] [Decidable Q] (h : P ↔ Q) : Value.bool (decide P) = .bool (decide Q) := by rw [decide_eq_decide.2 h]
theorem any_dec {P : Int → Prop} [DecidablePred P] (l : List Int) : (l.any fun x => decide (¬ P x)) = decide (¬ ∀ n ∈ l, P n) := by
  rw [Bool.eq_iff_iff, List.any_eq_true, decide_eq_true_eq]
  simp only [decide_eq_true_eq, Classical.not_forall, exists_prop]

theorem isClass_spec (cs : List Value) (t : RTg) (n : Int) : Does Tryz.prog 70 [.agg cs.toArray, .int .i64 n] [Ag tyRTg cs t] [] (fun _ : Unit => .bool (decide (IsClass t n))) (fun _ => []) (fun _ => []) := by
  refine enter Tryz.func70 rfl Tryz.ntmps70 rfl fun b => ?_
  by_cases h : 0 ≤ n
  · refine GX.wR ?_; intros
    exact rt1 () (vI ⟨fun h => h.2, fun h2 => ⟨h, h2⟩⟩)
  · refine GX.wR ?_; intros
    exact rt1 () (vN fun h2 => h h2.1)
theorem isEntry_spec (cs : List Value) (t : RTg) (n : Int) : Does Tryz.prog 46 [.agg cs.toArray, .int .i64 n] [Ag tyRTg cs t] [] (fun _ : Unit => .bool (decide (IsEntry t n))) (fun _ => []) (fun _ => []) := by
  refine enter Tryz.func46 rfl Tryz.ntmps46 rfl fun b => ?_
  refine GX.wR ?_; intros
  refine GX.o (cl (isClass_spec _ t n) fun _ => ?_)
  by_cases h : IsClass t n
  · refine GX.wR ?_; intros
    exact rt1 () (vY (.inl h))
  · by_cases h2 : n = -1
    · refine GX.wR ?_; intros
      exact rt1 () (vY (.inr (.inl h2)))
    · refine GX.wR ?_; intros
      exact rt1 () (vI ⟨fun h3 => h3.elim (fun h3 => absurd h3 h) fun h3 => h3.elim (fun h3 => absurd h3 h2) id, fun h3 => .inr (.inr h3)⟩)
theorem entries1_spec (bl : Nat) (t : RTg) (n : Int) : Does Tryz.prog 45 [.int .i64 n, .pointer (some ⟨bl, 0, none⟩)] [Pt tyRTg bl 0 t] [] (fun _ : Unit => .bool (decide (¬ IsEntry t n))) (fun _ => []) (fun _ => []) := by
  refine enter Tryz.func45 rfl Tryz.ntmps45 rfl fun b => ?_
  refine GX.wR ?_; intros
  refine GX.o (cl (isEntry_spec _ t n) fun _ => ?_)
  refine GX.wR ?_; intros
  exact rt1 () rfl
theorem entries_spec (cs : List Value) (t : RTg) (ao : Option Addr) (cap : Nat) (l : List Int) : Does Tryz.prog 22 [.agg cs.toArray, .slice ao l.length cap] [Sl Ty.int ao cap l, Ag tyRTg cs t] [] (fun _ : Unit => .bool (decide (Entries t l))) (fun _ => []) (fun _ => []) := by
  refine enter Tryz.func22 rfl Tryz.ntmps22 rfl fun b => ?_
  refine GX.wR ?_; intros
  refine GX.nmP 2 ?_; rintro b2 rfl
  refine GX.o (cl (containsFunc_spec ao cap l 45 [.pointer (some ⟨b2, 0, none⟩)] [Pt tyRTg b2 0 t] [] (fun n => decide (¬ IsEntry t n)) (fun n _ => entries1_spec b2 t n)) fun _ => ?_)
  rw [any_dec]
  refine GX.wR ?_; intros
  exact rt1 () (vI Classical.not_not.symm)
theorem isRef_spec (e : Int) : Does Tryz.prog 126 [.int .i64 e] [] [] (fun _ : Unit => .bool (decide (IsRef e))) (fun _ => []) (fun _ => []) := by
  refine enter Tryz.func126 rfl Tryz.ntmps126 rfl fun b => ?_
  refine GX.wR ?_; intros
  exact rt1 () rfl
theorem into_spec (a c : Int) : Does Tryz.prog 104 [.int .i64 a, .int .i64 c] [] [] (fun _ : Unit => .bool (decide (Into a c))) (fun _ => []) (fun _ => []) := by
  refine enter Tryz.func104 rfl Tryz.ntmps104 rfl fun b => ?_
  refine GX.wR ?_; intros
  refine GX.o (cl (isRef_spec a) fun _ => ?_)
  have e : Into a c ↔ if -1 ≤ a then -1 ≤ c ∧ (c = a ∨ c = -1) else a = -2 ∧ c = -2 := Iff.rfl
  by_cases h : IsRef a
  · rw [if_pos h] at e
    refine GX.wR ?_; intros
    refine GX.o (cl (isRef_spec c) fun _ => ?_)
    by_cases h2 : IsRef c
    · by_cases h3 : c = a
      · refine GX.wR ?_; intros
        exact rt1 () (vY (e.2 ⟨h2, .inl h3⟩))
      · refine GX.wR ?_; intros
        exact rt1 () (vI (e.trans ⟨fun h4 => h4.2.elim (fun h5 => absurd h5 h3) id, fun h4 => ⟨h2, .inr h4⟩⟩))
    · refine GX.wR ?_; intros
      exact rt1 () (vN fun h4 => h2 (e.1 h4).1)
  · rw [if_neg h] at e
    by_cases h2 : a = -2
    · refine GX.wR ?_; intros
      exact rt1 () (vI (e.trans ⟨fun h3 => h3.2, fun h3 => ⟨h2, h3⟩⟩))
    · refine GX.wR ?_; intros
      exact rt1 () (vN fun h4 => h2 (e.1 h4).1)
theorem of_spec (cs : List Value) (v : RtView) (n : Int) : Does Tryz.prog 105 [.agg cs.toArray, .int .i64 n] [Ag tyRtView cs v] [] (fun _ : Unit => .int .i64 (RtM.of v.u n)) (fun _ => []) (fun _ => []) := by
  refine enter Tryz.func105 rfl Tryz.ntmps105 rfl fun b => ?_
  by_cases h : n < 0
  · have e : RtM.of v.u n = -3 := by unfold RtM.of; rw [gt_out (.inl h)]; rfl
    rw [e]
    refine GX.wR ?_; intros
    exact rt1 () rfl
  · by_cases h2 : (v.u.vars.length : Int) ≤ n
    · have e : RtM.of v.u n = -3 := by unfold RtM.of; rw [gt_out (.inr h2)]; rfl
      rw [e]
      refine GX.wR ?_; intros
      exact rt1 () rfl
    · obtain ⟨x, hx, k, rfl, hk, hx2⟩ := gt_in (l := v.u.vars) (n := n) ⟨by omega, by omega⟩
      have e : RtM.of v.u k = x := by unfold RtM.of; rw [hx]; rfl
      rw [e]
      refine GX.wR ?_; intros
      exact rt1 () rfl
theorem plain1_spec (bl : Nat) (v : RtView) (n : Int) : Does Tryz.prog 124 [.int .i64 n, .pointer (some ⟨bl, 0, none⟩)] [Pt tyRtView bl 0 v] [] (fun _ : Unit => .bool (decide (¬ RtM.of v.u n = -2))) (fun _ => []) (fun _ => []) := by
  refine enter Tryz.func124 rfl Tryz.ntmps124 rfl fun b => ?_
  refine GX.wR ?_; intros
  refine GX.o (cl (of_spec _ v n) fun _ => ?_)
  refine GX.wR ?_; intros
  exact rt1 () rfl
theorem refs1_spec (bl : Nat) (v : RtView) (n : Int) : Does Tryz.prog 125 [.int .i64 n, .pointer (some ⟨bl, 0, none⟩)] [Pt tyRtView bl 0 v] [] (fun _ : Unit => .bool (decide (¬ IsRef (RtM.of v.u n)))) (fun _ => []) (fun _ => []) := by
  refine enter Tryz.func125 rfl Tryz.ntmps125 rfl fun b => ?_
  refine GX.wR ?_; intros
  refine GX.o (cl (of_spec _ v n) fun _ => ?_)
  refine GX.wR ?_; intros
  refine GX.o (cl (isRef_spec _) fun _ => ?_)
  refine GX.wR ?_; intros
  exact rt1 () rfl
theorem plain_spec (cs : List Value) (v : RtView) (ao : Option Addr) (cap m : Nat) (l : List Int) (hm : m = l.length) : Does Tryz.prog 102 [.agg cs.toArray, .slice ao m cap] [Sl Ty.int ao cap l, Ag tyRtView cs v] [] (fun _ : Unit => .bool (decide (Plain v.u l))) (fun _ => []) (fun _ => []) := by
  subst hm
  refine enter Tryz.func102 rfl Tryz.ntmps102 rfl fun b => ?_
  refine GX.wR ?_; intros
  refine GX.nmP 2 ?_; rintro b2 rfl
  refine GX.o (cl (containsFunc_spec ao cap l 124 [.pointer (some ⟨b2, 0, none⟩)] [Pt tyRtView b2 0 v] [] (fun n => decide (¬ RtM.of v.u n = -2)) (fun n _ => plain1_spec b2 v n)) fun _ => ?_)
  rw [any_dec]
  refine GX.wR ?_; intros
  exact rt1 () (vI Classical.not_not.symm)
theorem refs_spec (cs : List Value) (v : RtView) (ao : Option Addr) (cap m : Nat) (l : List Int) (hm : m = l.length) : Does Tryz.prog 103 [.agg cs.toArray, .slice ao m cap] [Sl Ty.int ao cap l, Ag tyRtView cs v] [] (fun _ : Unit => .bool (decide (Refs v.u l))) (fun _ => []) (fun _ => []) := by
  subst hm
  refine enter Tryz.func103 rfl Tryz.ntmps103 rfl fun b => ?_
  refine GX.wR ?_; intros
  refine GX.nmP 2 ?_; rintro b2 rfl
  refine GX.o (cl (containsFunc_spec ao cap l 125 [.pointer (some ⟨b2, 0, none⟩)] [Pt tyRtView b2 0 v] [] (fun n => decide (¬ IsRef (RtM.of v.u n))) (fun n _ => refs1_spec b2 v n)) fun _ => ?_)
  rw [any_dec]
  refine GX.wR ?_; intros
  exact rt1 () (vI Classical.not_not.symm)
theorem place_spec (cs : List Value) (v : RtView) (n : Int) : Does Tryz.prog 129 [.agg cs.toArray, .int .i64 n] [Ag tyRtView cs v] [] (fun _ : Unit => .bool (decide (RtM.Place v.u n))) (fun _ => []) (fun _ => []) := by
  refine enter Tryz.func129 rfl Tryz.ntmps129 rfl fun b => ?_
  by_cases h : 0 ≤ n
  · refine GX.wR ?_; intros
    exact rt1 () (vI ⟨fun h => h.2, fun h2 => ⟨h, h2⟩⟩)
  · refine GX.wR ?_; intros
    exact rt1 () (vN fun h2 => h h2.1)
end Go.Proofs.YtomfpmbapdhbgaaGreat
