import Derived.Test.YtdkhfjcbhpfkoaaM12
import Derived.Test.YtdkhfjcbhpfkoaaM16
import Derived.Test.YtdkhfjcbhpfkoaaM17
import Derived.Test.YtdkhfjcbhpfkoaaM18
import Derived.Test.YtdkhfjcbhpfkoaaM19
/- slices.IndexFunc and slices.DeleteFunc over a list of ints of one's own. -/
namespace Go.Proofs.Ytdkhfjcbhpfkoaa
open Go Go.RR Go.RX Go.GX
attribute [local irreducible] wpList Code.wp wpPlan Exit.then Exit.inBlock bodyPost NoPanic Went GX.Post GX.Again GX.Meet GX.RowR GX.Own GX.Owns GX.Box GX.Sl GX.Pt GX.Ag GX.MapR GX.Kept GX.Pin

theorem indexFunc_own (ao : Option Addr) (cap : Nat) (xs : List Int) (fid : Nat) (caps : List Value) (psC : List Pf) (hpC : List Res) (p : Int → Bool) [UFunc Try.prog fid]
    (hf : ∀ x ∈ xs, Does Try.prog fid (.int .i64 x :: caps) psC hpC (fun _ : Unit => .bool (p x)) (fun _ => []) (fun _ => hpC)) :
    Does Try.prog 66 [.slice ao xs.length cap, .func (.func fid) #[] caps.toArray] psC (Own 3 Ty.int ao cap xs :: hpC) (fun _ : Unit => .int .i64 (idxF p xs)) (fun _ => []) (fun _ => Own 3 Ty.int ao cap xs :: hpC) := by
  refine enter Try.func66 rfl Try.ntmps66 rfl fun b => ?_
  refine opn ao fun hl1 hl2 ha => ?_
  repeat (first | (apply GX.s_list; first | apply GX.nil | (refine GX.o ?_; first | (apply GX.k_load; first | refine GX.lr ?_ | refine GX.lrA ?_ | refine GX.ln ?_ | refine GX.lb ?_ | refine GX.lh ?_ | (refine GX.ls ?_; intro ao cap _ _) | (refine GX.lA ?_; intro cs) | (refine GX.l0 ?_; intro cs) | refine GX.o1n ?_ | refine GX.o1b ?_ | refine GX.o1h ?_ | (refine GX.o1s ?_; intro ao cap _ _) | refine GX.omn ?_ | refine GX.omb ?_ | refine GX.omh ?_ | (refine GX.oms ?_; intro ao cap _ _) | refine GX.ofn ?_ | refine GX.ofb ?_ | refine GX.ofh ?_ | (refine GX.ofs ?_; intro ao cap _ _) | (refine GX.oA ?_; intro cs)) | (apply GX.k_move; refine GX.m ?_) | (apply GX.k_indexAddr; first | refine GX.io1 ?_ | refine GX.ioh ?_ | refine GX.i1 ?_ | refine GX.ih ?_ | (refine GX.ix ?_; intro bl o)) | (apply GX.k_binOp_lss; refine GX.b_lss ?_) | (apply GX.k_binOp_add; first | refine GX.b_inc ?_ | refine GX.b_add ?_ | refine GX.b_addw ?_) | (apply GX.k_assign; refine GX.a ?_) | (apply GX.k_call; refine GX.c_len ?_)) | refine GX.gt ?_ | refine GX.gf ?_ | refine GX.gbt ?_ | refine GX.gbf ?_ | refine GX.un ?_ | refine GX.un0 ?_) | apply GX.then_normal | apply GX.seq | apply GX.region | (apply GX.s_cond; first | refine GX.ct ?_ | refine GX.cf ?_ | refine GX.cdf ?_ | refine GX.cdt ?_ | refine GX.cbt ?_ | refine GX.cbf ?_) | apply GX.skip | apply GX.block | apply GX.inBlock_normal | apply GX.exit | apply GX.then_exit | apply GX.inBlock_exit | refine GX.ibo ?_ | apply GX.ret | apply GX.then_ret | apply GX.inBlock_ret)
  refine GX.loop (σ := Nat) (fun i => [(0, .slice ao xs.length cap), (1, .func (.func fid) #[] caps.toArray), (7, .int .i64 (xs.length : Int)), (8, .int .i64 (i : Int))]) (fun _ => []) (fun _ => Own 3 Ty.int ao cap xs :: hpC)
    (fun i => i ≤ xs.length ∧ ∀ y ∈ xs.take i, p y = false) (fun i => xs.length - i) 0 ⟨rfl, rfl, rfl, rfl, trivial⟩ ⟨by omega, by simp⟩ (fun i hi => ?_) (h2 := SelR.all _)
  obtain ⟨hi, hn⟩ := hi
  by_cases hlt : i < xs.length
  · obtain ⟨x, hx⟩ := get_lt hlt
    obtain ⟨h0, _⟩ | ⟨g, rfl⟩ := ha
    · subst h0; simp at hlt
    repeat (first | (apply GX.s_list; first | apply GX.nil | (refine GX.o ?_; first | (apply GX.k_load; first | refine GX.lr ?_ | refine GX.lrA ?_ | refine GX.ln ?_ | refine GX.lb ?_ | refine GX.lh ?_ | (refine GX.ls ?_; intro ao cap _ _) | (refine GX.lA ?_; intro cs) | (refine GX.l0 ?_; intro cs) | refine GX.o1n ?_ | refine GX.o1b ?_ | refine GX.o1h ?_ | (refine GX.o1s ?_; intro ao cap _ _) | refine GX.omn ?_ | refine GX.omb ?_ | refine GX.omh ?_ | (refine GX.oms ?_; intro ao cap _ _) | refine GX.ofn ?_ | refine GX.ofb ?_ | refine GX.ofh ?_ | (refine GX.ofs ?_; intro ao cap _ _) | (refine GX.oA ?_; intro cs)) | (apply GX.k_move; refine GX.m ?_) | (apply GX.k_indexAddr; first | refine GX.io1 ?_ | refine GX.ioh ?_ | refine GX.i1 ?_ | refine GX.ih ?_ | (refine GX.ix ?_; intro bl o)) | (apply GX.k_binOp_lss; refine GX.b_lss ?_) | (apply GX.k_binOp_add; first | refine GX.b_inc ?_ | refine GX.b_add ?_ | refine GX.b_addw ?_) | (apply GX.k_assign; refine GX.a ?_) | (apply GX.k_call; refine GX.c_len ?_)) | refine GX.gt ?_ | refine GX.gf ?_ | refine GX.gbt ?_ | refine GX.gbf ?_ | refine GX.un ?_ | refine GX.un0 ?_) | apply GX.then_normal | apply GX.seq | apply GX.region | (apply GX.s_cond; first | refine GX.ct ?_ | refine GX.cf ?_ | refine GX.cdf ?_ | refine GX.cdt ?_ | refine GX.cbt ?_ | refine GX.cbf ?_) | apply GX.skip | apply GX.block | apply GX.inBlock_normal | apply GX.exit | apply GX.then_exit | apply GX.inBlock_exit | refine GX.ibo ?_ | apply GX.ret | apply GX.then_ret | apply GX.inBlock_ret)
    refine GX.o (clvR (fs := []) (vs := [.int .i64 x]) (cs := caps) (hf x (List.mem_of_getElem? hx)) fun _ => ?_)
    by_cases hp : p x = true
    · repeat (first | (apply GX.s_list; first | apply GX.nil | (refine GX.o ?_; first | (apply GX.k_load; first | refine GX.lr ?_ | refine GX.lrA ?_ | refine GX.ln ?_ | refine GX.lb ?_ | refine GX.lh ?_ | (refine GX.ls ?_; intro ao cap _ _) | (refine GX.lA ?_; intro cs) | (refine GX.l0 ?_; intro cs) | refine GX.o1n ?_ | refine GX.o1b ?_ | refine GX.o1h ?_ | (refine GX.o1s ?_; intro ao cap _ _) | refine GX.omn ?_ | refine GX.omb ?_ | refine GX.omh ?_ | (refine GX.oms ?_; intro ao cap _ _) | refine GX.ofn ?_ | refine GX.ofb ?_ | refine GX.ofh ?_ | (refine GX.ofs ?_; intro ao cap _ _) | (refine GX.oA ?_; intro cs)) | (apply GX.k_move; refine GX.m ?_) | (apply GX.k_indexAddr; first | refine GX.io1 ?_ | refine GX.ioh ?_ | refine GX.i1 ?_ | refine GX.ih ?_ | (refine GX.ix ?_; intro bl o)) | (apply GX.k_binOp_lss; refine GX.b_lss ?_) | (apply GX.k_binOp_add; first | refine GX.b_inc ?_ | refine GX.b_add ?_ | refine GX.b_addw ?_) | (apply GX.k_assign; refine GX.a ?_) | (apply GX.k_call; refine GX.c_len ?_)) | refine GX.gt ?_ | refine GX.gf ?_ | refine GX.gbt ?_ | refine GX.gbf ?_ | refine GX.un ?_ | refine GX.un0 ?_) | apply GX.then_normal | apply GX.seq | apply GX.region | (apply GX.s_cond; first | refine GX.ct ?_ | refine GX.cf ?_ | refine GX.cdf ?_ | refine GX.cdt ?_ | refine GX.cbt ?_ | refine GX.cbf ?_) | apply GX.skip | apply GX.block | apply GX.inBlock_normal | apply GX.exit | apply GX.then_exit | apply GX.inBlock_exit | refine GX.ibo ?_ | apply GX.ret | apply GX.then_ret | apply GX.inBlock_ret)
      exact rt1 () (congrArg (Value.int .i64) (idxF_some hx hp hn)) (h2 := SelR.all _)
    · have hp : p x = false := by simpa using hp
      repeat (first | (apply GX.s_list; first | apply GX.nil | (refine GX.o ?_; first | (apply GX.k_load; first | refine GX.lr ?_ | refine GX.lrA ?_ | refine GX.ln ?_ | refine GX.lb ?_ | refine GX.lh ?_ | (refine GX.ls ?_; intro ao cap _ _) | (refine GX.lA ?_; intro cs) | (refine GX.l0 ?_; intro cs) | refine GX.o1n ?_ | refine GX.o1b ?_ | refine GX.o1h ?_ | (refine GX.o1s ?_; intro ao cap _ _) | refine GX.omn ?_ | refine GX.omb ?_ | refine GX.omh ?_ | (refine GX.oms ?_; intro ao cap _ _) | refine GX.ofn ?_ | refine GX.ofb ?_ | refine GX.ofh ?_ | (refine GX.ofs ?_; intro ao cap _ _) | (refine GX.oA ?_; intro cs)) | (apply GX.k_move; refine GX.m ?_) | (apply GX.k_indexAddr; first | refine GX.io1 ?_ | refine GX.ioh ?_ | refine GX.i1 ?_ | refine GX.ih ?_ | (refine GX.ix ?_; intro bl o)) | (apply GX.k_binOp_lss; refine GX.b_lss ?_) | (apply GX.k_binOp_add; first | refine GX.b_inc ?_ | refine GX.b_add ?_ | refine GX.b_addw ?_) | (apply GX.k_assign; refine GX.a ?_) | (apply GX.k_call; refine GX.c_len ?_)) | refine GX.gt ?_ | refine GX.gf ?_ | refine GX.gbt ?_ | refine GX.gbf ?_ | refine GX.un ?_ | refine GX.un0 ?_) | apply GX.then_normal | apply GX.seq | apply GX.region | (apply GX.s_cond; first | refine GX.ct ?_ | refine GX.cf ?_ | refine GX.cdf ?_ | refine GX.cdt ?_ | refine GX.cbt ?_ | refine GX.cbf ?_) | apply GX.skip | apply GX.block | apply GX.inBlock_normal | apply GX.exit | apply GX.then_exit | apply GX.inBlock_exit | refine GX.ibo ?_ | apply GX.ret | apply GX.then_ret | apply GX.inBlock_ret)
      exact again (i + 1) ⟨rfl, rfl, rfl, rfl, trivial⟩ ⟨by omega, take_all_succ hx hp hn⟩ (by omega) (h2 := SelR.all _)
  · have hil : i = xs.length := by omega
    subst hil
    repeat (first | (apply GX.s_list; first | apply GX.nil | (refine GX.o ?_; first | (apply GX.k_load; first | refine GX.lr ?_ | refine GX.lrA ?_ | refine GX.ln ?_ | refine GX.lb ?_ | refine GX.lh ?_ | (refine GX.ls ?_; intro ao cap _ _) | (refine GX.lA ?_; intro cs) | (refine GX.l0 ?_; intro cs) | refine GX.o1n ?_ | refine GX.o1b ?_ | refine GX.o1h ?_ | (refine GX.o1s ?_; intro ao cap _ _) | refine GX.omn ?_ | refine GX.omb ?_ | refine GX.omh ?_ | (refine GX.oms ?_; intro ao cap _ _) | refine GX.ofn ?_ | refine GX.ofb ?_ | refine GX.ofh ?_ | (refine GX.ofs ?_; intro ao cap _ _) | (refine GX.oA ?_; intro cs)) | (apply GX.k_move; refine GX.m ?_) | (apply GX.k_indexAddr; first | refine GX.io1 ?_ | refine GX.ioh ?_ | refine GX.i1 ?_ | refine GX.ih ?_ | (refine GX.ix ?_; intro bl o)) | (apply GX.k_binOp_lss; refine GX.b_lss ?_) | (apply GX.k_binOp_add; first | refine GX.b_inc ?_ | refine GX.b_add ?_ | refine GX.b_addw ?_) | (apply GX.k_assign; refine GX.a ?_) | (apply GX.k_call; refine GX.c_len ?_)) | refine GX.gt ?_ | refine GX.gf ?_ | refine GX.gbt ?_ | refine GX.gbf ?_ | refine GX.un ?_ | refine GX.un0 ?_) | apply GX.then_normal | apply GX.seq | apply GX.region | (apply GX.s_cond; first | refine GX.ct ?_ | refine GX.cf ?_ | refine GX.cdf ?_ | refine GX.cdt ?_ | refine GX.cbt ?_ | refine GX.cbf ?_) | apply GX.skip | apply GX.block | apply GX.inBlock_normal | apply GX.exit | apply GX.then_exit | apply GX.inBlock_exit | refine GX.ibo ?_ | apply GX.ret | apply GX.then_ret | apply GX.inBlock_ret)
    rw [List.take_length] at hn
    exact rt1 () (congrArg (Value.int .i64) (idxF_none hn)) (h2 := SelR.all _)

/-- What is kept of the first i. -/
def kept (p : Int → Bool) (xs : List Int) (i : Nat) : List Int := (xs.take i).filter fun x => !p x
theorem kept_succ {p : Int → Bool} {xs : List Int} {i : Nat} {x : Int} (hx : xs[i]? = some x) : kept p xs (i + 1) = kept p xs i ++ (if p x = true then [] else [x]) := by
  unfold kept
  rw [List.take_add_one, hx, List.filter_append]
  congr 1
  by_cases h : p x = true
  · simp [h]
  · have h : p x = false := by simpa using h
    simp [h]
theorem kept_len (p : Int → Bool) (xs : List Int) (i : Nat) (hi : i ≤ xs.length) : (kept p xs i).length ≤ i := by
  have := List.length_filter_le (fun x => !p x) (xs.take i)
  unfold kept
  rw [List.length_take] at this; omega
theorem deleteFunc_spec (ao : Option Addr) (cap : Nat) (xs : List Int) (fid : Nat) (caps : List Value) (psC : List Pf) (hpC : List Res) (p : Int → Bool) [UFunc Try.prog fid]
    (hf : ∀ x ∈ xs, Does Try.prog fid (.int .i64 x :: caps) psC hpC (fun _ : Unit => .bool (p x)) (fun _ => []) (fun _ => hpC)) :
    Does Try.prog 81 [.slice ao xs.length cap, .func (.func fid) #[] caps.toArray] psC (Own 3 Ty.int ao cap xs :: hpC) (fun _ : Unit => .slice ao (kept p xs xs.length).length cap) (fun _ => []) (fun _ => Own 3 Ty.int ao cap (kept p xs xs.length) :: hpC) := by
  refine enter Try.func81 rfl Try.ntmps81 rfl fun b => ?_
  refine opn ao fun hl1 hl2 ha => ?_
  repeat (first | (apply GX.s_list; first | apply GX.nil | (refine GX.o ?_; first | (apply GX.k_load; first | refine GX.lr ?_ | refine GX.lrA ?_ | refine GX.ln ?_ | refine GX.lb ?_ | refine GX.lh ?_ | (refine GX.ls ?_; intro ao cap _ _) | (refine GX.lA ?_; intro cs) | (refine GX.l0 ?_; intro cs) | refine GX.o1n ?_ | refine GX.o1b ?_ | refine GX.o1h ?_ | (refine GX.o1s ?_; intro ao cap _ _) | refine GX.omn ?_ | refine GX.omb ?_ | refine GX.omh ?_ | (refine GX.oms ?_; intro ao cap _ _) | refine GX.ofn ?_ | refine GX.ofb ?_ | refine GX.ofh ?_ | (refine GX.ofs ?_; intro ao cap _ _) | (refine GX.oA ?_; intro cs)) | (apply GX.k_move; refine GX.m ?_) | (apply GX.k_indexAddr; first | refine GX.io1 ?_ | refine GX.ioh ?_ | refine GX.i1 ?_ | refine GX.ih ?_ | (refine GX.ix ?_; intro bl o)) | (apply GX.k_binOp_lss; refine GX.b_lss ?_) | (apply GX.k_binOp_add; first | refine GX.b_inc ?_ | refine GX.b_add ?_ | refine GX.b_addw ?_) | (apply GX.k_assign; refine GX.a ?_) | (apply GX.k_call; refine GX.c_len ?_) | (apply GX.k_store; first | refine GX.stW ?_ | refine GX.stB ?_ | refine GX.stR ?_ | refine GX.stRW ?_ | refine GX.so1 ?_ | refine GX.som ?_ | refine GX.sof ?_ | refine GX.sog ?_) | (apply GX.k_slice; first | (refine GX.ch ?_; intro q) | (refine GX.cl_ ?_; intro q) | (refine GX.cb_ ?_; intro q)) | (apply GX.k_unOp; first | refine GX.nt ?_ | refine GX.nf ?_ | refine GX.nd ?_ | refine GX.n_ ?_) | (apply GX.k_binOp_eql; first | refine GX.b_eql ?_ | refine GX.b_pn ?_ | refine GX.b_nn ?_ | refine GX.b_snn ?_ | refine GX.b_sns ?_ | refine GX.b_eqls ?_ | refine GX.b_eqltf ?_ | refine GX.b_eqlft ?_ | refine GX.b_eqlb ?_)) | refine GX.gt ?_ | refine GX.gf ?_ | refine GX.gbt ?_ | refine GX.gbf ?_ | refine GX.un ?_ | refine GX.un0 ?_) | apply GX.then_normal | apply GX.seq | apply GX.region | (apply GX.s_cond; first | refine GX.ct ?_ | refine GX.cf ?_ | refine GX.cdf ?_ | refine GX.cdt ?_ | refine GX.cbt ?_ | refine GX.cbf ?_) | apply GX.skip | apply GX.block | apply GX.inBlock_normal | apply GX.exit | apply GX.then_exit | apply GX.inBlock_exit | refine GX.ibo ?_ | apply GX.ret | apply GX.then_ret | apply GX.inBlock_ret)
  refine GX.o (clR (indexFunc_own ao cap xs fid caps psC hpC p hf) fun _ => ?_)
  rcases hfi : xs.findIdx? p with _ | i0
  · have h1 : idxF p xs = -1 := by unfold idxF; rw [hfi]
    have h2 : kept p xs xs.length = xs := by
      unfold kept; rw [List.take_length, List.filter_eq_self]
      intro x hx; have := List.findIdx?_eq_none_iff.1 hfi x hx; simp [this]
    rw [h1, h2]
    repeat (first | (apply GX.s_list; first | apply GX.nil | (refine GX.o ?_; first | (apply GX.k_load; first | refine GX.lr ?_ | refine GX.lrA ?_ | refine GX.ln ?_ | refine GX.lb ?_ | refine GX.lh ?_ | (refine GX.ls ?_; intro ao cap _ _) | (refine GX.lA ?_; intro cs) | (refine GX.l0 ?_; intro cs) | refine GX.o1n ?_ | refine GX.o1b ?_ | refine GX.o1h ?_ | (refine GX.o1s ?_; intro ao cap _ _) | refine GX.omn ?_ | refine GX.omb ?_ | refine GX.omh ?_ | (refine GX.oms ?_; intro ao cap _ _) | refine GX.ofn ?_ | refine GX.ofb ?_ | refine GX.ofh ?_ | (refine GX.ofs ?_; intro ao cap _ _) | (refine GX.oA ?_; intro cs)) | (apply GX.k_move; refine GX.m ?_) | (apply GX.k_indexAddr; first | refine GX.io1 ?_ | refine GX.ioh ?_ | refine GX.i1 ?_ | refine GX.ih ?_ | (refine GX.ix ?_; intro bl o)) | (apply GX.k_binOp_lss; refine GX.b_lss ?_) | (apply GX.k_binOp_add; first | refine GX.b_inc ?_ | refine GX.b_add ?_ | refine GX.b_addw ?_) | (apply GX.k_assign; refine GX.a ?_) | (apply GX.k_call; refine GX.c_len ?_) | (apply GX.k_store; first | refine GX.stW ?_ | refine GX.stB ?_ | refine GX.stR ?_ | refine GX.stRW ?_ | refine GX.so1 ?_ | refine GX.som ?_ | refine GX.sof ?_ | refine GX.sog ?_) | (apply GX.k_slice; first | (refine GX.ch ?_; intro q) | (refine GX.cl_ ?_; intro q) | (refine GX.cb_ ?_; intro q)) | (apply GX.k_unOp; first | refine GX.nt ?_ | refine GX.nf ?_ | refine GX.nd ?_ | refine GX.n_ ?_) | (apply GX.k_binOp_eql; first | refine GX.b_eql ?_ | refine GX.b_pn ?_ | refine GX.b_nn ?_ | refine GX.b_snn ?_ | refine GX.b_sns ?_ | refine GX.b_eqls ?_ | refine GX.b_eqltf ?_ | refine GX.b_eqlft ?_ | refine GX.b_eqlb ?_)) | refine GX.gt ?_ | refine GX.gf ?_ | refine GX.gbt ?_ | refine GX.gbf ?_ | refine GX.un ?_ | refine GX.un0 ?_) | apply GX.then_normal | apply GX.seq | apply GX.region | (apply GX.s_cond; first | refine GX.ct ?_ | refine GX.cf ?_ | refine GX.cdf ?_ | refine GX.cdt ?_ | refine GX.cbt ?_ | refine GX.cbf ?_) | apply GX.skip | apply GX.block | apply GX.inBlock_normal | apply GX.exit | apply GX.then_exit | apply GX.inBlock_exit | refine GX.ibo ?_ | apply GX.ret | apply GX.then_ret | apply GX.inBlock_ret)
    exact rt1 () rfl (h2 := SelR.all _)
  · have h1 : idxF p xs = (i0 : Int) := by unfold idxF; rw [hfi]
    obtain ⟨hl, hp0, hb0⟩ := List.findIdx?_eq_some_iff_getElem.1 hfi
    have hk0 : kept p xs (i0 + 1) = xs.take i0 := by
      rw [kept_succ (List.getElem?_eq_getElem hl), if_pos hp0, List.append_nil]
      unfold kept; rw [List.filter_eq_self]
      intro x hx
      obtain ⟨j, hj, rfl⟩ := List.mem_take_iff_getElem.1 hx
      have := hb0 j (by omega); simp [this]
    have hk0l : (kept p xs (i0 + 1)).length = i0 := by rw [hk0, List.length_take]; omega
    obtain ⟨h0, _⟩ | ⟨g, rfl⟩ := ha
    · subst h0; simp at hl
    rw [h1]
    repeat (first | (apply GX.s_list; first | apply GX.nil | (refine GX.o ?_; first | (apply GX.k_load; first | refine GX.lr ?_ | refine GX.lrA ?_ | refine GX.ln ?_ | refine GX.lb ?_ | refine GX.lh ?_ | (refine GX.ls ?_; intro ao cap _ _) | (refine GX.lA ?_; intro cs) | (refine GX.l0 ?_; intro cs) | refine GX.o1n ?_ | refine GX.o1b ?_ | refine GX.o1h ?_ | (refine GX.o1s ?_; intro ao cap _ _) | refine GX.omn ?_ | refine GX.omb ?_ | refine GX.omh ?_ | (refine GX.oms ?_; intro ao cap _ _) | refine GX.ofn ?_ | refine GX.ofb ?_ | refine GX.ofh ?_ | (refine GX.ofs ?_; intro ao cap _ _) | (refine GX.oA ?_; intro cs)) | (apply GX.k_move; refine GX.m ?_) | (apply GX.k_indexAddr; first | refine GX.io1 ?_ | refine GX.ioh ?_ | refine GX.i1 ?_ | refine GX.ih ?_ | (refine GX.ix ?_; intro bl o)) | (apply GX.k_binOp_lss; refine GX.b_lss ?_) | (apply GX.k_binOp_add; first | refine GX.b_inc ?_ | refine GX.b_add ?_ | refine GX.b_addw ?_) | (apply GX.k_assign; refine GX.a ?_) | (apply GX.k_call; refine GX.c_len ?_) | (apply GX.k_store; first | refine GX.stW ?_ | refine GX.stB ?_ | refine GX.stR ?_ | refine GX.stRW ?_ | refine GX.so1 ?_ | refine GX.som ?_ | refine GX.sof ?_ | refine GX.sog ?_) | (apply GX.k_slice; first | (refine GX.ch ?_; intro q) | (refine GX.cl_ ?_; intro q) | (refine GX.cb_ ?_; intro q)) | (apply GX.k_unOp; first | refine GX.nt ?_ | refine GX.nf ?_ | refine GX.nd ?_ | refine GX.n_ ?_) | (apply GX.k_binOp_eql; first | refine GX.b_eql ?_ | refine GX.b_pn ?_ | refine GX.b_nn ?_ | refine GX.b_snn ?_ | refine GX.b_sns ?_ | refine GX.b_eqls ?_ | refine GX.b_eqltf ?_ | refine GX.b_eqlft ?_ | refine GX.b_eqlb ?_)) | refine GX.gt ?_ | refine GX.gf ?_ | refine GX.gbt ?_ | refine GX.gbf ?_ | refine GX.un ?_ | refine GX.un0 ?_) | apply GX.then_normal | apply GX.seq | apply GX.region | (apply GX.s_cond; first | refine GX.ct ?_ | refine GX.cf ?_ | refine GX.cdf ?_ | refine GX.cdt ?_ | refine GX.cbt ?_ | refine GX.cbf ?_) | apply GX.skip | apply GX.block | apply GX.inBlock_normal | apply GX.exit | apply GX.then_exit | apply GX.inBlock_exit | refine GX.ibo ?_ | apply GX.ret | apply GX.then_ret | apply GX.inBlock_ret)
    refine GX.loop (σ := Nat × List Int) (fun s => [(0, .slice (some ⟨g, 0, none⟩) xs.length cap), (1, .func (.func fid) #[] caps.toArray), (5, .int .i64 ((kept p xs s.1).length : Int)), (6, .int .i64 (s.1 : Int))]) (fun _ => []) (fun s => Own 3 Ty.int (some ⟨g, 0, none⟩) cap s.2 :: hpC)
      (fun s => s.1 ≤ xs.length ∧ s.2.length = xs.length ∧ s.2.take (kept p xs s.1).length = kept p xs s.1 ∧ s.2.drop s.1 = xs.drop s.1) (fun s => xs.length - s.1) (i0 + 1, xs) ⟨rfl, rfl, by rw [hk0l]; rfl, rfl, trivial⟩ ⟨by dsimp only; omega, rfl, by dsimp only; rw [hk0l, hk0], rfl⟩ (fun s hs => ?_) (h2 := SelR.all _)
    obtain ⟨i, ys⟩ := s
    obtain ⟨hi, hyl, htk, hdr⟩ := hs
    dsimp only at *
    have hkl := kept_len p xs i hi
    by_cases hlt : i < xs.length
    · obtain ⟨x, hx⟩ := get_lt hlt
      have hy : ys[i]? = some x := by
        have := congrArg (·[0]?) hdr
        simpa [List.getElem?_drop, hx] using this
      have hks := kept_succ (p := p) hx
      repeat (first | (apply GX.s_list; first | apply GX.nil | (refine GX.o ?_; first | (apply GX.k_load; first | refine GX.lr ?_ | refine GX.lrA ?_ | refine GX.ln ?_ | refine GX.lb ?_ | refine GX.lh ?_ | (refine GX.ls ?_; intro ao cap _ _) | (refine GX.lA ?_; intro cs) | (refine GX.l0 ?_; intro cs) | refine GX.o1n ?_ | refine GX.o1b ?_ | refine GX.o1h ?_ | (refine GX.o1s ?_; intro ao cap _ _) | refine GX.omn ?_ | refine GX.omb ?_ | refine GX.omh ?_ | (refine GX.oms ?_; intro ao cap _ _) | refine GX.ofn ?_ | refine GX.ofb ?_ | refine GX.ofh ?_ | (refine GX.ofs ?_; intro ao cap _ _) | (refine GX.oA ?_; intro cs)) | (apply GX.k_move; refine GX.m ?_) | (apply GX.k_indexAddr; first | refine GX.io1 ?_ | refine GX.ioh ?_ | refine GX.i1 ?_ | refine GX.ih ?_ | (refine GX.ix ?_; intro bl o)) | (apply GX.k_binOp_lss; refine GX.b_lss ?_) | (apply GX.k_binOp_add; first | refine GX.b_inc ?_ | refine GX.b_add ?_ | refine GX.b_addw ?_) | (apply GX.k_assign; refine GX.a ?_) | (apply GX.k_call; refine GX.c_len ?_) | (apply GX.k_store; first | refine GX.stW ?_ | refine GX.stB ?_ | refine GX.stR ?_ | refine GX.stRW ?_ | refine GX.so1 ?_ | refine GX.som ?_ | refine GX.sof ?_ | refine GX.sog ?_) | (apply GX.k_slice; first | (refine GX.ch ?_; intro q) | (refine GX.cl_ ?_; intro q) | (refine GX.cb_ ?_; intro q)) | (apply GX.k_unOp; first | refine GX.nt ?_ | refine GX.nf ?_ | refine GX.nd ?_ | refine GX.n_ ?_) | (apply GX.k_binOp_eql; first | refine GX.b_eql ?_ | refine GX.b_pn ?_ | refine GX.b_nn ?_ | refine GX.b_snn ?_ | refine GX.b_sns ?_ | refine GX.b_eqls ?_ | refine GX.b_eqltf ?_ | refine GX.b_eqlft ?_ | refine GX.b_eqlb ?_)) | refine GX.gt ?_ | refine GX.gf ?_ | refine GX.gbt ?_ | refine GX.gbf ?_ | refine GX.un ?_ | refine GX.un0 ?_) | apply GX.then_normal | apply GX.seq | apply GX.region | (apply GX.s_cond; first | refine GX.ct ?_ | refine GX.cf ?_ | refine GX.cdf ?_ | refine GX.cdt ?_ | refine GX.cbt ?_ | refine GX.cbf ?_) | apply GX.skip | apply GX.block | apply GX.inBlock_normal | apply GX.exit | apply GX.then_exit | apply GX.inBlock_exit | refine GX.ibo ?_ | apply GX.ret | apply GX.then_ret | apply GX.inBlock_ret)
      refine GX.o (clvR (fs := []) (vs := [.int .i64 x]) (cs := caps) (hf x (List.mem_of_getElem? hx)) fun _ => ?_)
      by_cases hp : p x = true
      · rw [if_pos hp, List.append_nil] at hks
        have hpn : (!p x) = false := by rw [hp]; rfl
        repeat (first | (apply GX.s_list; first | apply GX.nil | (refine GX.o ?_; first | (apply GX.k_load; first | refine GX.lr ?_ | refine GX.lrA ?_ | refine GX.ln ?_ | refine GX.lb ?_ | refine GX.lh ?_ | (refine GX.ls ?_; intro ao cap _ _) | (refine GX.lA ?_; intro cs) | (refine GX.l0 ?_; intro cs) | refine GX.o1n ?_ | refine GX.o1b ?_ | refine GX.o1h ?_ | (refine GX.o1s ?_; intro ao cap _ _) | refine GX.omn ?_ | refine GX.omb ?_ | refine GX.omh ?_ | (refine GX.oms ?_; intro ao cap _ _) | refine GX.ofn ?_ | refine GX.ofb ?_ | refine GX.ofh ?_ | (refine GX.ofs ?_; intro ao cap _ _) | (refine GX.oA ?_; intro cs)) | (apply GX.k_move; refine GX.m ?_) | (apply GX.k_indexAddr; first | refine GX.io1 ?_ | refine GX.ioh ?_ | refine GX.i1 ?_ | refine GX.ih ?_ | (refine GX.ix ?_; intro bl o)) | (apply GX.k_binOp_lss; refine GX.b_lss ?_) | (apply GX.k_binOp_add; first | refine GX.b_inc ?_ | refine GX.b_add ?_ | refine GX.b_addw ?_) | (apply GX.k_assign; refine GX.a ?_) | (apply GX.k_call; refine GX.c_len ?_) | (apply GX.k_store; first | refine GX.stW ?_ | refine GX.stB ?_ | refine GX.stR ?_ | refine GX.stRW ?_ | refine GX.so1 ?_ | refine GX.som ?_ | refine GX.sof ?_ | refine GX.sog ?_) | (apply GX.k_slice; first | (refine GX.ch ?_; intro q) | (refine GX.cl_ ?_; intro q) | (refine GX.cb_ ?_; intro q)) | (apply GX.k_unOp; first | refine GX.nt ?_ | refine GX.nf ?_ | refine GX.nd ?_ | refine GX.n_ ?_) | (apply GX.k_binOp_eql; first | refine GX.b_eql ?_ | refine GX.b_pn ?_ | refine GX.b_nn ?_ | refine GX.b_snn ?_ | refine GX.b_sns ?_ | refine GX.b_eqls ?_ | refine GX.b_eqltf ?_ | refine GX.b_eqlft ?_ | refine GX.b_eqlb ?_)) | refine GX.gt ?_ | refine GX.gf ?_ | refine GX.gbt ?_ | refine GX.gbf ?_ | refine GX.un ?_ | refine GX.un0 ?_) | apply GX.then_normal | apply GX.seq | apply GX.region | (apply GX.s_cond; first | refine GX.ct ?_ | refine GX.cf ?_ | refine GX.cdf ?_ | refine GX.cdt ?_ | refine GX.cbt ?_ | refine GX.cbf ?_) | apply GX.skip | apply GX.block | apply GX.inBlock_normal | apply GX.exit | apply GX.then_exit | apply GX.inBlock_exit | refine GX.ibo ?_ | apply GX.ret | apply GX.then_ret | apply GX.inBlock_ret)
        refine again (i + 1, ys) ⟨rfl, rfl, by dsimp only; rw [hks]; rfl, rfl, trivial⟩ ⟨by dsimp only; omega, hyl, by dsimp only; rw [hks]; exact htk, ?_⟩ (by dsimp only; omega) (h2 := SelR.all _)
        dsimp only
        rw [← List.drop_drop, hdr, List.drop_drop]
      · have hp : p x = false := by simpa using hp
        rw [if_neg (by rw [hp]; simp)] at hks
        have hkl2 : (kept p xs (i + 1)).length = (kept p xs i).length + 1 := by rw [hks]; simp
        have hpn : (!p x) = true := by rw [hp]; rfl
        repeat (first | (apply GX.s_list; first | apply GX.nil | (refine GX.o ?_; first | (apply GX.k_load; first | refine GX.lr ?_ | refine GX.lrA ?_ | refine GX.ln ?_ | refine GX.lb ?_ | refine GX.lh ?_ | (refine GX.ls ?_; intro ao cap _ _) | (refine GX.lA ?_; intro cs) | (refine GX.l0 ?_; intro cs) | refine GX.o1n ?_ | refine GX.o1b ?_ | refine GX.o1h ?_ | (refine GX.o1s ?_; intro ao cap _ _) | refine GX.omn ?_ | refine GX.omb ?_ | refine GX.omh ?_ | (refine GX.oms ?_; intro ao cap _ _) | refine GX.ofn ?_ | refine GX.ofb ?_ | refine GX.ofh ?_ | (refine GX.ofs ?_; intro ao cap _ _) | (refine GX.oA ?_; intro cs)) | (apply GX.k_move; refine GX.m ?_) | (apply GX.k_indexAddr; first | refine GX.io1 ?_ | refine GX.ioh ?_ | refine GX.i1 ?_ | refine GX.ih ?_ | (refine GX.ix ?_; intro bl o)) | (apply GX.k_binOp_lss; refine GX.b_lss ?_) | (apply GX.k_binOp_add; first | refine GX.b_inc ?_ | refine GX.b_add ?_ | refine GX.b_addw ?_) | (apply GX.k_assign; refine GX.a ?_) | (apply GX.k_call; refine GX.c_len ?_) | (apply GX.k_store; first | refine GX.stW ?_ | refine GX.stB ?_ | refine GX.stR ?_ | refine GX.stRW ?_ | refine GX.so1 ?_ | refine GX.som ?_ | refine GX.sof ?_ | refine GX.sog ?_) | (apply GX.k_slice; first | (refine GX.ch ?_; intro q) | (refine GX.cl_ ?_; intro q) | (refine GX.cb_ ?_; intro q)) | (apply GX.k_unOp; first | refine GX.nt ?_ | refine GX.nf ?_ | refine GX.nd ?_ | refine GX.n_ ?_) | (apply GX.k_binOp_eql; first | refine GX.b_eql ?_ | refine GX.b_pn ?_ | refine GX.b_nn ?_ | refine GX.b_snn ?_ | refine GX.b_sns ?_ | refine GX.b_eqls ?_ | refine GX.b_eqltf ?_ | refine GX.b_eqlft ?_ | refine GX.b_eqlb ?_)) | refine GX.gt ?_ | refine GX.gf ?_ | refine GX.gbt ?_ | refine GX.gbf ?_ | refine GX.un ?_ | refine GX.un0 ?_) | apply GX.then_normal | apply GX.seq | apply GX.region | (apply GX.s_cond; first | refine GX.ct ?_ | refine GX.cf ?_ | refine GX.cdf ?_ | refine GX.cdt ?_ | refine GX.cbt ?_ | refine GX.cbf ?_) | apply GX.skip | apply GX.block | apply GX.inBlock_normal | apply GX.exit | apply GX.then_exit | apply GX.inBlock_exit | refine GX.ibo ?_ | apply GX.ret | apply GX.then_ret | apply GX.inBlock_ret)
        refine again (i + 1, ys.set (kept p xs i).length x) ⟨rfl, rfl, by dsimp only; rw [hkl2]; rfl, rfl, trivial⟩ ⟨by dsimp only; omega, by simpa using hyl, ?_, ?_⟩ (by dsimp only; omega) (h2 := SelR.all _)
        · dsimp only
          rw [hkl2, List.take_add_one, List.getElem?_set_self (by omega), List.take_set_of_le (Nat.le_refl _), htk, hks]; rfl
        · dsimp only
          rw [List.drop_set_of_lt (by omega), ← List.drop_drop, hdr, List.drop_drop]
    · have hil : i = xs.length := by omega
      subst hil
      repeat (first | (apply GX.s_list; first | apply GX.nil | (refine GX.o ?_; first | (apply GX.k_load; first | refine GX.lr ?_ | refine GX.lrA ?_ | refine GX.ln ?_ | refine GX.lb ?_ | refine GX.lh ?_ | (refine GX.ls ?_; intro ao cap _ _) | (refine GX.lA ?_; intro cs) | (refine GX.l0 ?_; intro cs) | refine GX.o1n ?_ | refine GX.o1b ?_ | refine GX.o1h ?_ | (refine GX.o1s ?_; intro ao cap _ _) | refine GX.omn ?_ | refine GX.omb ?_ | refine GX.omh ?_ | (refine GX.oms ?_; intro ao cap _ _) | refine GX.ofn ?_ | refine GX.ofb ?_ | refine GX.ofh ?_ | (refine GX.ofs ?_; intro ao cap _ _) | (refine GX.oA ?_; intro cs)) | (apply GX.k_move; refine GX.m ?_) | (apply GX.k_indexAddr; first | refine GX.io1 ?_ | refine GX.ioh ?_ | refine GX.i1 ?_ | refine GX.ih ?_ | (refine GX.ix ?_; intro bl o)) | (apply GX.k_binOp_lss; refine GX.b_lss ?_) | (apply GX.k_binOp_add; first | refine GX.b_inc ?_ | refine GX.b_add ?_ | refine GX.b_addw ?_) | (apply GX.k_assign; refine GX.a ?_) | (apply GX.k_call; refine GX.c_len ?_) | (apply GX.k_store; first | refine GX.stW ?_ | refine GX.stB ?_ | refine GX.stR ?_ | refine GX.stRW ?_ | refine GX.so1 ?_ | refine GX.som ?_ | refine GX.sof ?_ | refine GX.sog ?_) | (apply GX.k_slice; first | (refine GX.ch ?_; intro q) | (refine GX.cl_ ?_; intro q) | (refine GX.cb_ ?_; intro q)) | (apply GX.k_unOp; first | refine GX.nt ?_ | refine GX.nf ?_ | refine GX.nd ?_ | refine GX.n_ ?_) | (apply GX.k_binOp_eql; first | refine GX.b_eql ?_ | refine GX.b_pn ?_ | refine GX.b_nn ?_ | refine GX.b_snn ?_ | refine GX.b_sns ?_ | refine GX.b_eqls ?_ | refine GX.b_eqltf ?_ | refine GX.b_eqlft ?_ | refine GX.b_eqlb ?_)) | refine GX.gt ?_ | refine GX.gf ?_ | refine GX.gbt ?_ | refine GX.gbf ?_ | refine GX.un ?_ | refine GX.un0 ?_) | apply GX.then_normal | apply GX.seq | apply GX.region | (apply GX.s_cond; first | refine GX.ct ?_ | refine GX.cf ?_ | refine GX.cdf ?_ | refine GX.cdt ?_ | refine GX.cbt ?_ | refine GX.cbf ?_) | apply GX.skip | apply GX.block | apply GX.inBlock_normal | apply GX.exit | apply GX.then_exit | apply GX.inBlock_exit | refine GX.ibo ?_ | apply GX.ret | apply GX.then_ret | apply GX.inBlock_ret)
      refine GX.o (ol fun o2 ho2 => ?_)
      refine GX.o (clr (k0 := (kept p xs xs.length).length) (xs := ys) (fun zs hzl hzt => ?_) rfl rfl rfl rfl (by omega))
      refine GX.nil ?_
      refine ownTake (some ⟨g, 0, none⟩) (kept p xs xs.length).length ?_
      rw [hzt, htk]
      repeat (first | (apply GX.s_list; first | apply GX.nil | (refine GX.o ?_; first | (apply GX.k_load; first | refine GX.lr ?_ | refine GX.lrA ?_ | refine GX.ln ?_ | refine GX.lb ?_ | refine GX.lh ?_ | (refine GX.ls ?_; intro ao cap _ _) | (refine GX.lA ?_; intro cs) | (refine GX.l0 ?_; intro cs) | refine GX.o1n ?_ | refine GX.o1b ?_ | refine GX.o1h ?_ | (refine GX.o1s ?_; intro ao cap _ _) | refine GX.omn ?_ | refine GX.omb ?_ | refine GX.omh ?_ | (refine GX.oms ?_; intro ao cap _ _) | refine GX.ofn ?_ | refine GX.ofb ?_ | refine GX.ofh ?_ | (refine GX.ofs ?_; intro ao cap _ _) | (refine GX.oA ?_; intro cs)) | (apply GX.k_move; refine GX.m ?_) | (apply GX.k_indexAddr; first | refine GX.io1 ?_ | refine GX.ioh ?_ | refine GX.i1 ?_ | refine GX.ih ?_ | (refine GX.ix ?_; intro bl o)) | (apply GX.k_binOp_lss; refine GX.b_lss ?_) | (apply GX.k_binOp_add; first | refine GX.b_inc ?_ | refine GX.b_add ?_ | refine GX.b_addw ?_) | (apply GX.k_assign; refine GX.a ?_) | (apply GX.k_call; refine GX.c_len ?_) | (apply GX.k_store; first | refine GX.stW ?_ | refine GX.stB ?_ | refine GX.stR ?_ | refine GX.stRW ?_ | refine GX.so1 ?_ | refine GX.som ?_ | refine GX.sof ?_ | refine GX.sog ?_) | (apply GX.k_slice; first | (refine GX.ch ?_; intro q) | (refine GX.cl_ ?_; intro q) | (refine GX.cb_ ?_; intro q)) | (apply GX.k_unOp; first | refine GX.nt ?_ | refine GX.nf ?_ | refine GX.nd ?_ | refine GX.n_ ?_) | (apply GX.k_binOp_eql; first | refine GX.b_eql ?_ | refine GX.b_pn ?_ | refine GX.b_nn ?_ | refine GX.b_snn ?_ | refine GX.b_sns ?_ | refine GX.b_eqls ?_ | refine GX.b_eqltf ?_ | refine GX.b_eqlft ?_ | refine GX.b_eqlb ?_)) | refine GX.gt ?_ | refine GX.gf ?_ | refine GX.gbt ?_ | refine GX.gbf ?_ | refine GX.un ?_ | refine GX.un0 ?_) | apply GX.then_normal | apply GX.seq | apply GX.region | (apply GX.s_cond; first | refine GX.ct ?_ | refine GX.cf ?_ | refine GX.cdf ?_ | refine GX.cdt ?_ | refine GX.cbt ?_ | refine GX.cbf ?_) | apply GX.skip | apply GX.block | apply GX.inBlock_normal | apply GX.exit | apply GX.then_exit | apply GX.inBlock_exit | refine GX.ibo ?_ | apply GX.ret | apply GX.then_ret | apply GX.inBlock_ret)
      refine GX.o (oh ?_)
      repeat (first | (apply GX.s_list; first | apply GX.nil | (refine GX.o ?_; first | (apply GX.k_load; first | refine GX.lr ?_ | refine GX.lrA ?_ | refine GX.ln ?_ | refine GX.lb ?_ | refine GX.lh ?_ | (refine GX.ls ?_; intro ao cap _ _) | (refine GX.lA ?_; intro cs) | (refine GX.l0 ?_; intro cs) | refine GX.o1n ?_ | refine GX.o1b ?_ | refine GX.o1h ?_ | (refine GX.o1s ?_; intro ao cap _ _) | refine GX.omn ?_ | refine GX.omb ?_ | refine GX.omh ?_ | (refine GX.oms ?_; intro ao cap _ _) | refine GX.ofn ?_ | refine GX.ofb ?_ | refine GX.ofh ?_ | (refine GX.ofs ?_; intro ao cap _ _) | (refine GX.oA ?_; intro cs)) | (apply GX.k_move; refine GX.m ?_) | (apply GX.k_indexAddr; first | refine GX.io1 ?_ | refine GX.ioh ?_ | refine GX.i1 ?_ | refine GX.ih ?_ | (refine GX.ix ?_; intro bl o)) | (apply GX.k_binOp_lss; refine GX.b_lss ?_) | (apply GX.k_binOp_add; first | refine GX.b_inc ?_ | refine GX.b_add ?_ | refine GX.b_addw ?_) | (apply GX.k_assign; refine GX.a ?_) | (apply GX.k_call; refine GX.c_len ?_) | (apply GX.k_store; first | refine GX.stW ?_ | refine GX.stB ?_ | refine GX.stR ?_ | refine GX.stRW ?_ | refine GX.so1 ?_ | refine GX.som ?_ | refine GX.sof ?_ | refine GX.sog ?_) | (apply GX.k_slice; first | (refine GX.ch ?_; intro q) | (refine GX.cl_ ?_; intro q) | (refine GX.cb_ ?_; intro q)) | (apply GX.k_unOp; first | refine GX.nt ?_ | refine GX.nf ?_ | refine GX.nd ?_ | refine GX.n_ ?_) | (apply GX.k_binOp_eql; first | refine GX.b_eql ?_ | refine GX.b_pn ?_ | refine GX.b_nn ?_ | refine GX.b_snn ?_ | refine GX.b_sns ?_ | refine GX.b_eqls ?_ | refine GX.b_eqltf ?_ | refine GX.b_eqlft ?_ | refine GX.b_eqlb ?_)) | refine GX.gt ?_ | refine GX.gf ?_ | refine GX.gbt ?_ | refine GX.gbf ?_ | refine GX.un ?_ | refine GX.un0 ?_) | apply GX.then_normal | apply GX.seq | apply GX.region | (apply GX.s_cond; first | refine GX.ct ?_ | refine GX.cf ?_ | refine GX.cdf ?_ | refine GX.cdt ?_ | refine GX.cbt ?_ | refine GX.cbf ?_) | apply GX.skip | apply GX.block | apply GX.inBlock_normal | apply GX.exit | apply GX.then_exit | apply GX.inBlock_exit | refine GX.ibo ?_ | apply GX.ret | apply GX.then_ret | apply GX.inBlock_ret)
      exact rt1 () rfl (h2 := SelR.all _)
end Go.Proofs.Ytdkhfjcbhpfkoaa

/- The walks over package rt: Fields, Global, Out. -/
namespace Go.Proofs.Ytdkhfjcbhpfkoaa
open Go Go.RR Go.RX Go.GX Go.Api Go.RiseM Go.ReachM Go.RtM
attribute [local irreducible] wpList Code.wp wpPlan Exit.then Exit.inBlock bodyPost NoPanic Went GX.Post GX.Again GX.Meet GX.RowR GX.Own GX.Owns GX.Box GX.Sl GX.Pt GX.Ag GX.MapR GX.Kept GX.Pin wpT GoK AtEnd Both

theorem fields_spec (cs : List Value) (t : RTg) (hs : Small t) : Does Try.prog 79 [.agg cs.toArray] [Ag tyRTg cs t] []
    (fun s : Option Addr × Nat => .slice s.1 (flds t).length s.2) (fun s => [Sl (Ty.slice Ty.int) s.1 s.2 (flds t)]) (fun _ => []) := by
  have hc := hs.classes
  refine enter Try.func79 rfl Try.ntmps79 rfl fun b => ?_
  refine GX.wR ?_; intros
  refine GX.nmS 7 ?_; rintro aC cC rfl rfl
  refine ownNil 23 (Ty.slice Ty.int) ?_
  refine GX.loop (σ := Nat × Option Addr × Nat) (fun s => [(3, .slice s.2.1 ((flds t).take s.1).length s.2.2), (7, .slice aC t.classes.length cC), (8, .int .i64 (t.classes.length : Int)), (9, .int .i64 (s.1 : Int))]) (fun _ => [])
    (fun s => [Own 23 (Ty.slice Ty.int) s.2.1 s.2.2 ((flds t).take s.1)]) (fun s => s.1 ≤ t.classes.length) (fun s => t.classes.length - s.1) (0, none, 0) ⟨rfl, rfl, rfl, rfl, trivial⟩ (by simp) (fun s hs2 => ?_)
  obtain ⟨i, aF, cF⟩ := s
  dsimp only at *
  have hfl := flds_len t
  have htl : ((flds t).take i).length = i := by rw [List.length_take]; omega
  by_cases hlt : i < t.classes.length
  · obtain ⟨L, hL⟩ := get_lt hlt
    have hr := hs.ref (List.mem_of_getElem? hL)
    have e : (flds t).take i ++ [L.refs] = (flds t).take (i + 1) := by
      rw [List.take_add_one]; unfold flds; rw [List.getElem?_map, hL]; rfl
    refine GX.wR ?_; intros
    refine GX.nmS 15 ?_; rintro aR cR rfl rfl
    refine GX.o (cl (clone_spec aR cR L.refs (by omega)) fun s => ?_)
    obtain ⟨aN, cN⟩ := s
    dsimp only
    refine frz aN ?_
    refine GX.wR ?_; intros
    rw [e]
    refine GX.nmS 18 ?_; rintro a3 c3 rfl rfl
    refine GX.wR ?_; intros
    exact again (i + 1, a3, c3) ⟨rfl, rfl, rfl, rfl, trivial⟩ (by dsimp only; omega) (by dsimp only; omega)
  · rw [List.take_of_length_le (by omega)]
    refine GX.wR ?_; intros
    refine frz aF ?_
    exact rt1 (aF, cF) rfl
theorem global_spec (cs : List Value) (t : RTg) (hs : Small t) : Does Try.prog 69 [.agg cs.toArray] [Ag tyRTg cs t] []
    (fun s : Option Addr × Nat => .slice s.1 (glob t).length s.2) (fun s => [Sl Ty.int s.1 s.2 (glob t)]) (fun _ => []) := by
  have hc := hs.classes
  have hg := hs.globals
  have hr := hs.refs
  have hfl := flds_len t
  refine enter Try.func69 rfl Try.ntmps69 rfl fun b => ?_
  refine GX.wR ?_; intros
  refine GX.drawn0  (fun j => !(List.contains [4] j)) [(0, true), (2, true), (3, true), (1, false), (4, false), (5, true)] rfl (by kernel_rfl) (by kernel_rfl) (by first | ((repeat (first | apply Go.GX.SelR.nil | apply Go.GX.SelR.cons | (with_reducible apply Go.GX.TakeR.head) | apply Go.GX.TakeR.tail)); done) | (repeat (first | apply Go.GX.SelR.nil | apply Go.GX.SelR.cons | apply Go.GX.TakeR.head | apply Go.GX.TakeR.tail))) ?_; intro wd F hW hR
  refine GX.wT ?_; intros
  refine GX.nmS 6 ?_; rintro aG cG rfl rfl
  refine GX.gow ?_
  refine (cl (fields_spec _ t hs) fun s => ?_)
  obtain ⟨aF, cF⟩ := s
  dsimp only
  refine GX.wT ?_; intros
  refine GX.gow ?_
  refine (cl (from_spec aF aG cF cG (flds t) t.globals (by omega) hr hg) fun s => ?_)
  obtain ⟨a2, c2⟩ := s
  dsimp only
  refine GX.wT ?_; intros
  refine GX.wR ?_; intros
  refine frz a2 ?_
  exact rt1 (a2, c2) rfl
theorem out1_spec (bl : Nat) (g : List Int) (n : Int) : Does Try.prog 82 [.int .i64 n, .pointer (some ⟨bl, 0, none⟩)] [Pt (Ty.slice Ty.int) bl 0 g] [] (fun _ : Unit => .bool (decide (n ∈ g))) (fun _ => []) (fun _ => []) := by
  refine enter Try.func82 rfl Try.ntmps82 rfl fun b => ?_
  refine GX.wR ?_; intros
  refine GX.nmS 4 ?_; rintro ao cap rfl rfl
  refine GX.o (cl (contains_spec ao cap g n) fun _ => ?_)
  refine GX.wR ?_; intros
  exact rt1 () rfl
theorem out_kept (t : RTg) (u : Unt) : kept (fun n => decide (n ∈ glob t)) (fromL (flds t) (roots u)) (fromL (flds t) (roots u)).length = outOf t u := by
  unfold kept outOf
  rw [List.take_length]
  exact List.filter_congr fun x _ => by by_cases h : x ∈ glob t <;> simp [h]
set_option maxHeartbeats 1000000 in
theorem out_spec (cs : List Value) (t : RTg) (hs : Small t) (k : Int) : Does Try.prog 68 [.agg cs.toArray, .int .i64 k] [Ag tyRTg cs t] []
    (fun s : Option Addr × Nat => .slice s.1 (out t k).length s.2) (fun s => [Sl Ty.int s.1 s.2 (out t k)]) (fun _ => []) := by
  by_cases h1 : k < 0
  · rw [out_none (.inl h1)]
    refine enter Try.func68 rfl Try.ntmps68 rfl fun b => ?_
    refine GX.wR ?_; intros
    refine slNil Ty.int ?_
    exact rt1 (none, 0) rfl
  by_cases h2 : (t.units.length : Int) ≤ k
  · rw [out_none (.inr h2)]
    refine enter Try.func68 rfl Try.ntmps68 rfl fun b => ?_
    refine GX.wR ?_; intros
    refine slNil Ty.int ?_
    exact rt1 (none, 0) rfl
  obtain ⟨k, rfl⟩ := Int.eq_ofNat_of_zero_le (show 0 ≤ k by omega)
  obtain ⟨u, hu⟩ := get_lt (show k < t.units.length by omega)
  rw [out_some hu]
  have hc := hs.classes
  have hr := hs.refs
  have hfl := flds_len t
  have hp := pars_le u
  have hul := (hs.unit u (List.mem_of_getElem? hu)).1
  have hpe : ((pars u : Nat) : Int) = min (max u.params 0) (u.vars.length : Int) := by unfold pars; omega
  have hrl := roots_len u
  have htk : (u.vars.take (min (max u.params 0) (u.vars.length : Int)).toNat).length ≤ 1073741824 := by rw [List.length_take]; omega
  have hro : u.vars.take (min (max u.params 0) (u.vars.length : Int)).toNat ++ [u.result] = roots u := rfl
  refine enter Try.func68 rfl Try.ntmps68 rfl fun b => ?_
  refine GX.wR ?_; intros
  refine GX.o (cl (global_spec _ t hs) fun s => ?_)
  obtain ⟨aG, cG⟩ := s
  dsimp only
  refine GX.wR ?_; intros
  refine GX.nmP 5 ?_; rintro b5 rfl
  refine GX.nmP 7 ?_; rintro b7 rfl
  refine frzB b5 ?_
  refine frzB b7 ?_
  refine GX.drawnT (fun j => !(List.contains [] j)) (.br [(0, true), (2, true), (3, true), (4, true), (5, true), (7, true), (8, true)] (.alt 1 (.br [] (.alt 6 (.lin [(9, false), (10, false), (11, false), (12, true)]) (.alt 9 (.lin [(6, false), (10, false), (11, false), (12, true)]) .nil))) (.alt 9 (.lin [(1, false), (6, false), (10, false), (11, false), (12, true)]) .nil))) (by kernel_rfl) (by kernel_rfl) ?_; intro wd F hW hR
  refine GX.wT ?_; intros
  refine GX.treeA ?_ ?_
  · refine GX.gok ?_
    refine (cl (fields_spec _ t hs) fun s => ?_)
    obtain ⟨aF, cF⟩ := s
    dsimp only
    refine GX.wT ?_; intros
    refine GX.treeA ?_ ?_
    · refine GX.gok ?_
      refine (cl (clone_spec _ _ (u.vars.take (min (max u.params 0) (u.vars.length : Int)).toNat) (by omega)) fun s => ?_)
      obtain ⟨aV, cV⟩ := s
      dsimp only
      refine GX.wT ?_; intros
      refine GX.nmS 42 ?_; rintro aL cL rfl rfl
      rw [hro]
      refine frz aL ?_
      refine GX.gow ?_
      refine (cl (from_spec aF aL cF cL (flds t) (roots u) (by omega) hr (by omega)) fun s => ?_)
      obtain ⟨aR, cR⟩ := s
      dsimp only
      refine GX.wT ?_; intros
      refine GX.wR ?_; intros
      refine GX.o (cl (deleteFunc_spec aR cR (fromL (flds t) (roots u)) 82 [.pointer (some ⟨b7, 0, none⟩)] [Pt (Ty.slice Ty.int) b7 0 (glob t)] [] (fun n => decide (n ∈ glob t)) (fun n _ => out1_spec b7 (glob t) n)) fun _ => ?_)
      rw [out_kept]
      refine GX.wR ?_; intros
      refine frz aR ?_
      exact rt1 (aR, cR) rfl
    · refine GX.wT ?_; intros
      refine GX.gow ?_
      refine (cl (clone_spec _ _ (u.vars.take (min (max u.params 0) (u.vars.length : Int)).toNat) (by omega)) fun s => ?_)
      obtain ⟨aV, cV⟩ := s
      dsimp only
      refine GX.wT ?_; intros
      refine GX.nmS 42 ?_; rintro aL cL rfl rfl
      rw [hro]
      refine frz aL ?_
      refine GX.gow ?_
      refine (cl (from_spec aF aL cF cL (flds t) (roots u) (by omega) hr (by omega)) fun s => ?_)
      obtain ⟨aR, cR⟩ := s
      dsimp only
      refine GX.wT ?_; intros
      refine GX.wR ?_; intros
      refine GX.o (cl (deleteFunc_spec aR cR (fromL (flds t) (roots u)) 82 [.pointer (some ⟨b7, 0, none⟩)] [Pt (Ty.slice Ty.int) b7 0 (glob t)] [] (fun n => decide (n ∈ glob t)) (fun n _ => out1_spec b7 (glob t) n)) fun _ => ?_)
      rw [out_kept]
      refine GX.wR ?_; intros
      refine frz aR ?_
      exact rt1 (aR, cR) rfl
  · refine GX.wT ?_; intros
    refine GX.gow ?_
    refine (cl (fields_spec _ t hs) fun s => ?_)
    obtain ⟨aF, cF⟩ := s
    dsimp only
    refine GX.wT ?_; intros
    refine GX.gow ?_
    refine (cl (clone_spec _ _ (u.vars.take (min (max u.params 0) (u.vars.length : Int)).toNat) (by omega)) fun s => ?_)
    obtain ⟨aV, cV⟩ := s
    dsimp only
    refine GX.wT ?_; intros
    refine GX.nmS 42 ?_; rintro aL cL rfl rfl
    rw [hro]
    refine frz aL ?_
    refine GX.gow ?_
    refine (cl (from_spec aF aL cF cL (flds t) (roots u) (by omega) hr (by omega)) fun s => ?_)
    obtain ⟨aR, cR⟩ := s
    dsimp only
    refine GX.wT ?_; intros
    refine GX.wR ?_; intros
    refine GX.o (cl (deleteFunc_spec aR cR (fromL (flds t) (roots u)) 82 [.pointer (some ⟨b7, 0, none⟩)] [Pt (Ty.slice Ty.int) b7 0 (glob t)] [] (fun n => decide (n ∈ glob t)) (fun n _ => out1_spec b7 (glob t) n)) fun _ => ?_)
    rw [out_kept]
    refine GX.wR ?_; intros
    refine frz aR ?_
    exact rt1 (aR, cR) rfl
end Go.Proofs.Ytdkhfjcbhpfkoaa

/- How a view of package rt is built. -/
namespace Go.Proofs.Ytdkhfjcbhpfkoaa
open Go Go.RowKit Go.RR Go.RX Go.GX Go.Api

theorem build_view (w : World) (a0 a1 a2 a3 b0 b1 b2 b3 b4 b5 c0 c1 c2 c3 c4 c5 : Value) :
    (Instr.build 94 #[(0, .agg #[a0, a1, a2, a3]), (1, .agg #[b0, b1, b2, b3, b4, b5]), (2, .agg #[c0, c1, c2, c3, c4, c5])]).run Try.prog w = .ok (.agg #[a0, a1, a2, a3, b0, b1, b2, b3, b4, b5, c0, c1, c2, c3, c4, c5]) w := by
  simp [Instr.build, Instr.fill, Value.cells] <;> rfl
theorem list4 {cs : List Value} (h : cs.length = 4) : ∃ a b c d, cs = [a, b, c, d] := by
  match cs, h with
  | [a, b, c, d], _ => exact ⟨a, b, c, d, rfl⟩
theorem list6 {cs : List Value} (h : cs.length = 6) : ∃ a b c d e f, cs = [a, b, c, d, e, f] := by
  match cs, h with
  | [a, b, c, d, e, f], _ => exact ⟨a, b, c, d, e, f, rfl⟩
theorem bdv {n : Nat} {env : Env} {b : Base} {ps : List Pf} {hp : List Res} {Q : Exit → Act → World → Prop} {K : Act → World → Prop} {d : Nat} {ty : TypeId} {pos : String} {aft : Array Edge} {gd : Option (Nat × Bool)} {x y z : Operand} {c1 c2 c3 : List Value} {t : RTg} {u : Unt} {i : Ins}
    (h : ∀ cs : List Value, G n ((d, .agg cs.toArray) :: env) b (Ag tyRtView cs ⟨t, u, i⟩ :: ps) hp K) (hx : ev env x = some (.agg c1.toArray) := by exact rfl) (hy : ev env y = some (.agg c2.toArray) := by exact rfl) (hz : ev env z = some (.agg c3.toArray) := by exact rfl)
    (f1 : FAg c1 ps tyRTg t := by exact inferInstance) (f2 : FAg c2 ps tyUnt u := by exact inferInstance) (f3 : FAg c3 ps tyIns i := by exact inferInstance) (hd : Nat.blt d n = true := by exact rfl) :
    GO Try.prog n env b ps hp ⟨some d, .build 94 [(0, x), (1, y), (2, z)].toArray, ty, pos, aft, gd⟩ K Q := by
  refine rd (ι := Unit) (val := fun _ => .agg (c1 ++ (c2 ++ c3)).toArray) (pf := fun _ => [Ag tyRtView (c1 ++ (c2 ++ c3)) ⟨t, u, i⟩]) ?_ hd (fun _ => h _)
  intro F w h1 _
  have r1 : tyRTg.rd F w c1 t := h1 _ f1.mem
  have r2 : tyUnt.rd F w c2 u := h1 _ f2.mem
  have r3 : tyIns.rd F w c3 i := h1 _ f3.mem
  refine ⟨(), one_p (co_rd (pair_rd rfl r1 (pair_rd rfl r2 (pair_rd (c2 := []) (by simp) r3 unit_rd)))), ?_⟩
  obtain ⟨a0, a1, a2, a3, rfl⟩ := list4 (tyRTg.len r1)
  obtain ⟨b0, b1, b2, b3, b4, b5, rfl⟩ := list6 (tyUnt.len r2)
  obtain ⟨e0, e1, e2, e3, e4, e5, rfl⟩ := list6 (tyIns.len r3)
  refine RX.build (pv := [(0, .agg #[a0, a1, a2, a3]), (1, .agg #[b0, b1, b2, b3, b4, b5]), (2, .agg #[e0, e1, e2, e3, e4, e5])]) ?_ (fun w' => build_view w' a0 a1 a2 a3 b0 b1 b2 b3 b4 b5 e0 e1 e2 e3 e4 e5)
  simp [RX.evp, hx, hy, hz]
end Go.Proofs.Ytdkhfjcbhpfkoaa
