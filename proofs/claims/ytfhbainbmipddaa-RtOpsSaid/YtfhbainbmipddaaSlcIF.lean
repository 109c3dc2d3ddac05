/- slices.IndexFunc over lists of ints that stay. -/
import Derived.Test.YtfhbainbmipddaaTypes
import Derived.Test.YtfhbainbmipddaaApiT
namespace Go.Proofs.Ytfhbainbmipddaa
open Go Go.RR Go.RX Go.GX
attribute [local irreducible] wpList Code.wp wpPlan Exit.then Exit.inBlock bodyPost NoPanic Went GX.Post GX.Again GX.Meet GX.RowR GX.Own GX.Owns GX.Box GX.Sl GX.Pt GX.Ag GX.MapR GX.Kept GX.Pin

/-- Where the first one is; -1: there is none. -/
def idxF (p : Int → Bool) (xs : List Int) : Int := match xs.findIdx? p with | some i => (i : Int) | none => -1
theorem idxF_some {p : Int → Bool} {xs : List Int} {i : Nat} {x : Int} (hx : xs[i]? = some x) (hp : p x = true) (hn : ∀ y ∈ xs.take i, p y = false) : idxF p xs = i := by
  have hl := (List.getElem?_eq_some_iff.1 hx).1
  have : xs.findIdx? p = some i := by
    rw [List.findIdx?_eq_some_iff_getElem]
    refine ⟨hl, by rw [(List.getElem?_eq_some_iff.1 hx).2]; exact hp, fun j hj => ?_⟩
    have := hn (xs[j]'(by omega)) (List.mem_take_iff_getElem.2 ⟨j, by omega, rfl⟩)
    simp [this]
  unfold idxF; rw [this]
theorem idxF_none {p : Int → Bool} {xs : List Int} (hn : ∀ y ∈ xs, p y = false) : idxF p xs = -1 := by
  have : xs.findIdx? p = none := List.findIdx?_eq_none_iff.2 hn
  unfold idxF; rw [this]
theorem idxF_any (p : Int → Bool) (xs : List Int) : decide (0 ≤ idxF p xs) = xs.any p := by
  unfold idxF
  cases h : xs.findIdx? p with
  | none =>
    have := List.findIdx?_eq_none_iff.1 h
    have e : xs.any p = false := List.any_eq_false.2 fun x hx => by simp [this x hx]
    rw [e]; rfl
  | some i =>
    obtain ⟨hl, hp, _⟩ := List.findIdx?_eq_some_iff_getElem.1 h
    have e : xs.any p = true := List.any_eq_true.2 ⟨_, List.getElem_mem hl, hp⟩
    rw [e]; simp
theorem take_all_succ {p : Int → Bool} {xs : List Int} {i : Nat} {x : Int} (hx : xs[i]? = some x) (hp : p x = false) (hn : ∀ y ∈ xs.take i, p y = false) : ∀ y ∈ xs.take (i + 1), p y = false := by
  intro y hy
  rw [List.take_add_one, hx, List.mem_append] at hy
  rcases hy with hy | hy
  · exact hn y hy
  · simp at hy; subst hy; exact hp

theorem indexFunc_spec (ao : Option Addr) (cap : Nat) (xs : List Int) (fid : Nat) (caps : List Value) (psC : List Pf) (hpC : List Res) (p : Int → Bool) [UFunc Try.prog fid]
    (hf : ∀ x ∈ xs, Does Try.prog fid (.int .i64 x :: caps) psC hpC (fun _ : Unit => .bool (p x)) (fun _ => []) (fun _ => hpC)) :
    Does Try.prog 59 [.slice ao xs.length cap, .func (.func fid) #[] caps.toArray] (Sl Ty.int ao cap xs :: psC) hpC (fun _ : Unit => .int .i64 (idxF p xs)) (fun _ => []) (fun _ => hpC) := by
  refine enter Try.func59 rfl Try.ntmps59 rfl fun b => ?_
  refine sln ao fun hl1 hl2 _ => ?_
  repeat (first | (apply GX.s_list; first | apply GX.nil | (refine GX.o ?_; first | (apply GX.k_load; first | refine GX.lr ?_ | refine GX.lrA ?_ | refine GX.ln ?_ | refine GX.lb ?_ | refine GX.lh ?_ | (refine GX.ls ?_; intro ao cap _ _) | (refine GX.lA ?_; intro cs) | (refine GX.l0 ?_; intro cs) | refine GX.o1n ?_ | refine GX.o1b ?_ | refine GX.o1h ?_ | (refine GX.o1s ?_; intro ao cap _ _) | refine GX.omn ?_ | refine GX.omb ?_ | refine GX.omh ?_ | (refine GX.oms ?_; intro ao cap _ _) | refine GX.ofn ?_ | refine GX.ofb ?_ | refine GX.ofh ?_ | (refine GX.ofs ?_; intro ao cap _ _) | (refine GX.oA ?_; intro cs)) | (apply GX.k_move; refine GX.m ?_) | (apply GX.k_indexAddr; first | refine GX.io1 ?_ | refine GX.ioh ?_ | refine GX.i1 ?_ | refine GX.ih ?_ | (refine GX.ix ?_; intro bl o)) | (apply GX.k_binOp_lss; refine GX.b_lss ?_) | (apply GX.k_binOp_add; first | refine GX.b_inc ?_ | refine GX.b_add ?_ | refine GX.b_addw ?_) | (apply GX.k_assign; refine GX.a ?_) | (apply GX.k_call; refine GX.c_len ?_)) | refine GX.gt ?_ | refine GX.gf ?_ | refine GX.gbt ?_ | refine GX.gbf ?_ | refine GX.un ?_ | refine GX.un0 ?_) | apply GX.then_normal | apply GX.seq | apply GX.region | (apply GX.s_cond; first | refine GX.ct ?_ | refine GX.cf ?_ | refine GX.cdf ?_ | refine GX.cdt ?_ | refine GX.cbt ?_ | refine GX.cbf ?_) | apply GX.skip | apply GX.block | apply GX.inBlock_normal | apply GX.exit | apply GX.then_exit | apply GX.inBlock_exit | refine GX.ibo ?_ | apply GX.ret | apply GX.then_ret | apply GX.inBlock_ret)
  refine GX.loop (σ := Nat) (fun i => [(0, .slice ao xs.length cap), (1, .func (.func fid) #[] caps.toArray), (7, .int .i64 (xs.length : Int)), (8, .int .i64 (i : Int))]) (fun _ => []) (fun _ => hpC)
    (fun i => i ≤ xs.length ∧ ∀ y ∈ xs.take i, p y = false) (fun i => xs.length - i) 0 ⟨rfl, rfl, rfl, rfl, trivial⟩ ⟨by omega, by simp⟩ (fun i hi => ?_) (h2 := SelR.all _)
  obtain ⟨hi, hn⟩ := hi
  by_cases hlt : i < xs.length
  · obtain ⟨x, hx⟩ := get_lt hlt
    repeat (first | (apply GX.s_list; first | apply GX.nil | (refine GX.o ?_; first | (apply GX.k_load; first | refine GX.lr ?_ | refine GX.lrA ?_ | refine GX.ln ?_ | refine GX.lb ?_ | refine GX.lh ?_ | (refine GX.ls ?_; intro ao cap _ _) | (refine GX.lA ?_; intro cs) | (refine GX.l0 ?_; intro cs) | refine GX.o1n ?_ | refine GX.o1b ?_ | refine GX.o1h ?_ | (refine GX.o1s ?_; intro ao cap _ _) | refine GX.omn ?_ | refine GX.omb ?_ | refine GX.omh ?_ | (refine GX.oms ?_; intro ao cap _ _) | refine GX.ofn ?_ | refine GX.ofb ?_ | refine GX.ofh ?_ | (refine GX.ofs ?_; intro ao cap _ _) | (refine GX.oA ?_; intro cs)) | (apply GX.k_move; refine GX.m ?_) | (apply GX.k_indexAddr; first | refine GX.io1 ?_ | refine GX.ioh ?_ | refine GX.i1 ?_ | refine GX.ih ?_ | (refine GX.ix ?_; intro bl o)) | (apply GX.k_binOp_lss; refine GX.b_lss ?_) | (apply GX.k_binOp_add; first | refine GX.b_inc ?_ | refine GX.b_add ?_ | refine GX.b_addw ?_) | (apply GX.k_assign; refine GX.a ?_) | (apply GX.k_call; refine GX.c_len ?_)) | refine GX.gt ?_ | refine GX.gf ?_ | refine GX.gbt ?_ | refine GX.gbf ?_ | refine GX.un ?_ | refine GX.un0 ?_) | apply GX.then_normal | apply GX.seq | apply GX.region | (apply GX.s_cond; first | refine GX.ct ?_ | refine GX.cf ?_ | refine GX.cdf ?_ | refine GX.cdt ?_ | refine GX.cbt ?_ | refine GX.cbf ?_) | apply GX.skip | apply GX.block | apply GX.inBlock_normal | apply GX.exit | apply GX.then_exit | apply GX.inBlock_exit | refine GX.ibo ?_ | apply GX.ret | apply GX.then_ret | apply GX.inBlock_ret)
    refine GX.o (clvA (fs := []) (vs := [.int .i64 x]) (cs := caps) (hf x (List.mem_of_getElem? hx)) fun _ => ?_)
    by_cases hp : p x = true
    · repeat (first | (apply GX.s_list; first | apply GX.nil | (refine GX.o ?_; first | (apply GX.k_load; first | refine GX.lr ?_ | refine GX.lrA ?_ | refine GX.ln ?_ | refine GX.lb ?_ | refine GX.lh ?_ | (refine GX.ls ?_; intro ao cap _ _) | (refine GX.lA ?_; intro cs) | (refine GX.l0 ?_; intro cs) | refine GX.o1n ?_ | refine GX.o1b ?_ | refine GX.o1h ?_ | (refine GX.o1s ?_; intro ao cap _ _) | refine GX.omn ?_ | refine GX.omb ?_ | refine GX.omh ?_ | (refine GX.oms ?_; intro ao cap _ _) | refine GX.ofn ?_ | refine GX.ofb ?_ | refine GX.ofh ?_ | (refine GX.ofs ?_; intro ao cap _ _) | (refine GX.oA ?_; intro cs)) | (apply GX.k_move; refine GX.m ?_) | (apply GX.k_indexAddr; first | refine GX.io1 ?_ | refine GX.ioh ?_ | refine GX.i1 ?_ | refine GX.ih ?_ | (refine GX.ix ?_; intro bl o)) | (apply GX.k_binOp_lss; refine GX.b_lss ?_) | (apply GX.k_binOp_add; first | refine GX.b_inc ?_ | refine GX.b_add ?_ | refine GX.b_addw ?_) | (apply GX.k_assign; refine GX.a ?_) | (apply GX.k_call; refine GX.c_len ?_)) | refine GX.gt ?_ | refine GX.gf ?_ | refine GX.gbt ?_ | refine GX.gbf ?_ | refine GX.un ?_ | refine GX.un0 ?_) | apply GX.then_normal | apply GX.seq | apply GX.region | (apply GX.s_cond; first | refine GX.ct ?_ | refine GX.cf ?_ | refine GX.cdf ?_ | refine GX.cdt ?_ | refine GX.cbt ?_ | refine GX.cbf ?_) | apply GX.skip | apply GX.block | apply GX.inBlock_normal | apply GX.exit | apply GX.then_exit | apply GX.inBlock_exit | refine GX.ibo ?_ | apply GX.ret | apply GX.then_ret | apply GX.inBlock_ret)
      exact rt1 () (congrArg (Value.int .i64) (idxF_some hx hp hn)) (h2 := SelR.all _)
    · have hp : p x = false := by simpa using hp
      repeat (first | (apply GX.s_list; first | apply GX.nil | (refine GX.o ?_; first | (apply GX.k_load; first | refine GX.lr ?_ | refine GX.lrA ?_ | refine GX.ln ?_ | refine GX.lb ?_ | refine GX.lh ?_ | (refine GX.ls ?_; intro ao cap _ _) | (refine GX.lA ?_; intro cs) | (refine GX.l0 ?_; intro cs) | refine GX.o1n ?_ | refine GX.o1b ?_ | refine GX.o1h ?_ | (refine GX.o1s ?_; intro ao cap _ _) | refine GX.omn ?_ | refine GX.omb ?_ | refine GX.omh ?_ | (refine GX.oms ?_; intro ao cap _ _) | refine GX.ofn ?_ | refine GX.ofb ?_ | refine GX.ofh ?_ | (refine GX.ofs ?_; intro ao cap _ _) | (refine GX.oA ?_; intro cs)) | (apply GX.k_move; refine GX.m ?_) | (apply GX.k_indexAddr; first | refine GX.io1 ?_ | refine GX.ioh ?_ | refine GX.i1 ?_ | refine GX.ih ?_ | (refine GX.ix ?_; intro bl o)) | (apply GX.k_binOp_lss; refine GX.b_lss ?_) | (apply GX.k_binOp_add; first | refine GX.b_inc ?_ | refine GX.b_add ?_ | refine GX.b_addw ?_) | (apply GX.k_assign; refine GX.a ?_) | (apply GX.k_call; refine GX.c_len ?_)) | refine GX.gt ?_ | refine GX.gf ?_ | refine GX.gbt ?_ | refine GX.gbf ?_ | refine GX.un ?_ | refine GX.un0 ?_) | apply GX.then_normal | apply GX.seq | apply GX.region | (apply GX.s_cond; first | refine GX.ct ?_ | refine GX.cf ?_ | refine GX.cdf ?_ | refine GX.cdt ?_ | refine GX.cbt ?_ | refine GX.cbf ?_) | apply GX.skip | apply GX.block | apply GX.inBlock_normal | apply GX.exit | apply GX.then_exit | apply GX.inBlock_exit | refine GX.ibo ?_ | apply GX.ret | apply GX.then_ret | apply GX.inBlock_ret)
      exact again (i + 1) ⟨rfl, rfl, rfl, rfl, trivial⟩ ⟨by omega, take_all_succ hx hp hn⟩ (by omega) (h2 := SelR.all _)
  · have hil : i = xs.length := by omega
    subst hil
    repeat (first | (apply GX.s_list; first | apply GX.nil | (refine GX.o ?_; first | (apply GX.k_load; first | refine GX.lr ?_ | refine GX.lrA ?_ | refine GX.ln ?_ | refine GX.lb ?_ | refine GX.lh ?_ | (refine GX.ls ?_; intro ao cap _ _) | (refine GX.lA ?_; intro cs) | (refine GX.l0 ?_; intro cs) | refine GX.o1n ?_ | refine GX.o1b ?_ | refine GX.o1h ?_ | (refine GX.o1s ?_; intro ao cap _ _) | refine GX.omn ?_ | refine GX.omb ?_ | refine GX.omh ?_ | (refine GX.oms ?_; intro ao cap _ _) | refine GX.ofn ?_ | refine GX.ofb ?_ | refine GX.ofh ?_ | (refine GX.ofs ?_; intro ao cap _ _) | (refine GX.oA ?_; intro cs)) | (apply GX.k_move; refine GX.m ?_) | (apply GX.k_indexAddr; first | refine GX.io1 ?_ | refine GX.ioh ?_ | refine GX.i1 ?_ | refine GX.ih ?_ | (refine GX.ix ?_; intro bl o)) | (apply GX.k_binOp_lss; refine GX.b_lss ?_) | (apply GX.k_binOp_add; first | refine GX.b_inc ?_ | refine GX.b_add ?_ | refine GX.b_addw ?_) | (apply GX.k_assign; refine GX.a ?_) | (apply GX.k_call; refine GX.c_len ?_)) | refine GX.gt ?_ | refine GX.gf ?_ | refine GX.gbt ?_ | refine GX.gbf ?_ | refine GX.un ?_ | refine GX.un0 ?_) | apply GX.then_normal | apply GX.seq | apply GX.region | (apply GX.s_cond; first | refine GX.ct ?_ | refine GX.cf ?_ | refine GX.cdf ?_ | refine GX.cdt ?_ | refine GX.cbt ?_ | refine GX.cbf ?_) | apply GX.skip | apply GX.block | apply GX.inBlock_normal | apply GX.exit | apply GX.then_exit | apply GX.inBlock_exit | refine GX.ibo ?_ | apply GX.ret | apply GX.then_ret | apply GX.inBlock_ret)
    rw [List.take_length] at hn
    exact rt1 () (congrArg (Value.int .i64) (idxF_none hn)) (h2 := SelR.all _)
end Go.Proofs.Ytfhbainbmipddaa
