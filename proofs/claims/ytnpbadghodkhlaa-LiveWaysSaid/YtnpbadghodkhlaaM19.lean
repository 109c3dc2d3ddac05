import Derived.Test.YtnpbadghodkhlaaM8
import Derived.Test.YtnpbadghodkhlaaM10
import Derived.Test.YtnpbadghodkhlaaM11
import Derived.Test.YtnpbadghodkhlaaM12
import Derived.Test.YtnpbadghodkhlaaM13
import Derived.Test.YtnpbadghodkhlaaM17
import Derived.Test.YtnpbadghodkhlaaM18
import Derived.ProofKit
import Derived.Deep.Slices
import Derived.OpenShut
import Derived.SizedLaws
/- The walks over Uses, Def of the reference of chapter 15. -/
namespace Go.Proofs.Ytnpbadghodkhlaa
open Go Go.RR Go.RX Go.GX Go.Api Go.FlowM Go.RiseM Go.LivM
attribute [local irreducible] wpList Code.wp wpPlan Exit.then Exit.inBlock bodyPost NoPanic Went GX.Post GX.Again GX.Meet GX.RowR GX.Own GX.Owns GX.Box GX.Sl GX.Pt GX.Ag GX.MapR GX.Kept GX.Pin wpT GoK AtEnd Both

set_option maxHeartbeats 2000000 in
theorem rdef_spec (cs : List Value) (x : Ins) : Does Try.prog 16 [.agg cs.toArray] [Ag tyIns cs x] [] (fun _ : Unit => .int .i64 (def_ x)) (fun _ => []) (fun _ => []) := by
  refine enter Try.func16 rfl Try.ntmps16 rfl fun b => ?_
  refine GX.wR ?_; intros
  refine GX.nmP 1 ?_; rintro b1 rfl
  refine GX.cut (σ := Bool) (fun q => [(1, .pointer (some ⟨b1, 0, none⟩)), (4, .int .i64 x.op), (5, .bool q)]) (fun _ => []) (fun _ => []) (fun q => q = decide (Sets x.op)) ?_ (fun q hq => ?_)
  · by_cases e1 : x.op = 1
    · refine GX.wR ?_; intros
      exact meet _ ⟨rfl, rfl, rfl, trivial⟩ (by simp [Sets, e1])
    by_cases e2 : x.op = 2
    · refine GX.wR ?_; intros
      exact meet _ ⟨rfl, rfl, rfl, trivial⟩ (by simp [Sets, e2])
    by_cases e3 : x.op = 3
    · refine GX.wR ?_; intros
      exact meet _ ⟨rfl, rfl, rfl, trivial⟩ (by simp [Sets, e3])
    by_cases e4 : x.op = 4
    · refine GX.wR ?_; intros
      exact meet _ ⟨rfl, rfl, rfl, trivial⟩ (by simp [Sets, e4])
    by_cases e5 : x.op = 5
    · refine GX.wR ?_; intros
      exact meet _ ⟨rfl, rfl, rfl, trivial⟩ (by simp [Sets, e5])
    by_cases e6 : x.op = 6
    · refine GX.wR ?_; intros
      exact meet _ ⟨rfl, rfl, rfl, trivial⟩ (by simp [Sets, e6])
    by_cases e8 : x.op = 8
    · refine GX.wR ?_; intros
      exact meet _ ⟨rfl, rfl, rfl, trivial⟩ (by simp [Sets, e8])
    by_cases e10 : x.op = 10
    · refine GX.wR ?_; intros
      exact meet _ ⟨rfl, rfl, rfl, trivial⟩ (by simp [Sets, e10])
    by_cases e11 : x.op = 11
    · refine GX.wR ?_; intros
      exact meet _ ⟨rfl, rfl, rfl, trivial⟩ (by simp [Sets, e11])
    by_cases e12 : x.op = 12
    · refine GX.wR ?_; intros
      exact meet _ ⟨rfl, rfl, rfl, trivial⟩ (by simp [Sets, e12])
    by_cases e13 : x.op = 13
    · refine GX.wR ?_; intros
      exact meet _ ⟨rfl, rfl, rfl, trivial⟩ (by simp [Sets, e13])
    by_cases e14 : x.op = 14
    · refine GX.wR ?_; intros
      exact meet _ ⟨rfl, rfl, rfl, trivial⟩ (by simp [Sets, e14])
    by_cases e19 : x.op = 19
    · refine GX.wR ?_; intros
      exact meet _ ⟨rfl, rfl, rfl, trivial⟩ (by simp [Sets, e19])
    refine GX.wR ?_; intros
    exact meet _ ⟨rfl, rfl, rfl, trivial⟩ (by simp [Sets, e1, e2, e3, e4, e5, e6, e8, e10, e11, e12, e13, e14, e19])
  by_cases hs : Sets x.op
  · have hq1 : q = true := by rw [hq]; exact decide_eq_true hs
    by_cases hv : In 4000 x.a
    · rw [show def_ x = x.a from if_pos ⟨hs, hv⟩]
      obtain ⟨hv1, hv2⟩ := hv
      refine GX.wR ?_; intros
      exact rt1 () rfl
    · rw [show def_ x = -1 from if_neg fun h => hv h.2]
      by_cases hv1 : 0 ≤ x.a
      · have hv2 : ¬ x.a < 4000 := fun h => hv ⟨hv1, h⟩
        refine GX.wR ?_; intros
        exact rt1 () rfl
      · refine GX.wR ?_; intros
        exact rt1 () rfl
  · have hq1 : q = false := by rw [hq]; exact decide_eq_false hs
    rw [show def_ x = -1 from if_neg fun h => hs h.1]
    refine GX.wR ?_; intros
    exact rt1 () rfl
def cur (x : Ins) (i : Nat) : List Int := puts (((asks x).take i).filter fun y => decide (In 4000 y))
theorem cur_rise (x : Ins) (i : Nat) : Rise (cur x i) := (puts_spec _).1
theorem cur_len (x : Ins) (i : Nat) : (cur x i).length ≤ 4000 := rise_len _ 0 4000 (cur_rise x i) fun v hv => by
  have := (puts_spec _).2 v |>.1 hv
  rw [List.mem_filter, decide_eq_true_iff] at this
  have := this.2
  omega
theorem cur_succ {x : Ins} {i : Nat} {y : Int} (h : (asks x)[i]? = some y) : cur x (i + 1) = if In 4000 y then put (cur x i) y else cur x i := by
  unfold cur
  rw [List.take_add_one, h, List.filter_append]
  split
  · rename_i hy
    rw [show (some y).toList.filter (fun y => decide (In 4000 y)) = [y] by obtain ⟨h1, h2⟩ := hy; have h2 : y < 4000 := h2; simp [h1, h2], puts_snoc]
  · rename_i hy
    rw [show (some y).toList.filter (fun y => decide (In 4000 y)) = [] by have hy2 : ¬ (0 ≤ y ∧ y < 4000) := fun h => hy ⟨h.1, h.2⟩; simp; omega, List.append_nil]
theorem cur_all (x : Ins) : cur x (asks x).length = uses x := by unfold cur uses; rw [List.take_length]
set_option maxHeartbeats 2000000 in
theorem ruses_spec (cs : List Value) (x : Ins) : Does Try.prog 14 [.agg cs.toArray] [Ag tyIns cs x] [] (fun s : Option Addr × Nat => .slice s.1 (uses x).length s.2) (fun s => [Sl Ty.int s.1 s.2 (uses x)]) (fun _ => []) := by
  refine enter Try.func14 rfl Try.ntmps14 rfl fun b => ?_
  refine GX.wRB ?_; intros
  refine GX.cut (σ := Option Addr × Nat) (fun q => [(3, .slice q.1 (asks x).length q.2)]) (fun q => [Sl Ty.int q.1 q.2 (asks x)]) (fun _ => []) (fun _ => True) ?_ (fun q _ => ?_)
  · by_cases e3 : x.op = 3
    · rw [show asks x = [x.b] by simp [asks, e3]]
      refine GX.wR ?_; intros
      exact meet (_, _) ⟨rfl, trivial⟩ trivial
    by_cases e5 : x.op = 5
    · rw [show asks x = [x.b] by simp [asks, e5]]
      refine GX.wR ?_; intros
      exact meet (_, _) ⟨rfl, trivial⟩ trivial
    by_cases e6 : x.op = 6
    · rw [show asks x = [x.b] by simp [asks, e6]]
      refine GX.wR ?_; intros
      exact meet (_, _) ⟨rfl, trivial⟩ trivial
    by_cases e10 : x.op = 10
    · rw [show asks x = [x.b] by simp [asks, e10]]
      refine GX.wR ?_; intros
      exact meet (_, _) ⟨rfl, trivial⟩ trivial
    by_cases e12 : x.op = 12
    · rw [show asks x = [x.b] by simp [asks, e12]]
      refine GX.wR ?_; intros
      exact meet (_, _) ⟨rfl, trivial⟩ trivial
    by_cases e4 : x.op = 4
    · rw [show asks x = [x.b, x.c] by simp [asks, e4]]
      refine GX.wR ?_; intros
      exact meet (_, _) ⟨rfl, trivial⟩ trivial
    by_cases e8 : x.op = 8
    · rw [show asks x = [x.b, x.c] by simp [asks, e8]]
      refine GX.wR ?_; intros
      exact meet (_, _) ⟨rfl, trivial⟩ trivial
    by_cases e7 : x.op = 7
    · rw [show asks x = [x.a, x.b] by simp [asks, e7]]
      refine GX.wR ?_; intros
      exact meet (_, _) ⟨rfl, trivial⟩ trivial
    by_cases e9 : x.op = 9
    · rw [show asks x = [x.a, x.b, x.c] by simp [asks, e9]]
      refine GX.wR ?_; intros
      exact meet (_, _) ⟨rfl, trivial⟩ trivial
    by_cases e13 : x.op = 13
    · rw [show asks x = x.args by simp [asks, e13]]
      refine GX.wR ?_; intros
      exact meet (_, _) ⟨rfl, trivial⟩ trivial
    by_cases e15 : x.op = 15
    · rw [show asks x = [x.a] by simp [asks, e15]]
      refine GX.wR ?_; intros
      exact meet (_, _) ⟨rfl, trivial⟩ trivial
    by_cases e17 : x.op = 17
    · rw [show asks x = [x.a] by simp [asks, e17]]
      refine GX.wR ?_; intros
      exact meet (_, _) ⟨rfl, trivial⟩ trivial
    by_cases e18 : x.op = 18
    · rw [show asks x = [x.a] by simp [asks, e18]]
      refine GX.wR ?_; intros
      exact meet (_, _) ⟨rfl, trivial⟩ trivial
    by_cases e20 : x.op = 20
    · rw [show asks x = [x.a] by simp [asks, e20]]
      refine GX.wR ?_; intros
      exact meet (_, _) ⟨rfl, trivial⟩ trivial
    rw [show asks x = [] by simp [asks, e3, e5, e6, e10, e12, e4, e8, e7, e9, e13, e15, e17, e18, e20]]
    refine GX.wR ?_; intros
    refine slNil Ty.int ?_
    exact meet (none, 0) ⟨rfl, trivial⟩ trivial
  obtain ⟨aL, cL⟩ := q
  dsimp only
  refine sln aL fun hl1 hl2 _ => ?_
  refine GX.wR ?_; intros
  refine slNil Ty.int ?_
  refine GX.loop (σ := Nat × (Option Addr × Nat)) (fun q => [(3, .slice aL (asks x).length cL), (4, .slice q.2.1 (cur x q.1).length q.2.2), (5, .int .i64 (q.1 : Int))]) (fun q => [Sl Ty.int q.2.1 q.2.2 (cur x q.1)]) (fun _ => [])
    (fun q => q.1 ≤ (asks x).length) (fun q => (asks x).length - q.1) (0, (none, 0)) ⟨rfl, rfl, rfl, trivial⟩ (Nat.zero_le _) (fun q hq => ?_)
  obtain ⟨i, a, c⟩ := q
  dsimp only at *
  by_cases hlt : i < (asks x).length
  · obtain ⟨y, hy⟩ := get_lt hlt
    have e := cur_succ hy
    have hcl := cur_len x i
    by_cases h1 : 0 ≤ y
    · by_cases h2 : y < 4000
      · rw [if_pos ⟨h1, h2⟩] at e
        refine GX.wR ?_; intros
        refine GX.o (cl (put_spec a c (cur x i) y (cur_rise x i) (by omega)) fun s => ?_)
        obtain ⟨a2, c2⟩ := s
        dsimp only
        rw [← e]
        refine GX.wR ?_; intros
        exact again (i + 1, (a2, c2)) ⟨rfl, rfl, rfl, trivial⟩ (by dsimp only; omega) (by dsimp only; omega)
      · rw [if_neg fun h => h2 h.2] at e
        refine GX.wR ?_; intros
        exact again (i + 1, (a, c)) ⟨rfl, by rw [e]; rfl, rfl, trivial⟩ (by dsimp only; omega) (by dsimp only; omega) (h1 := by dsimp only; rw [e]; ((repeat (first | apply Go.GX.AllIn.nil | apply Go.GX.AllIn.cons | (with_reducible apply Go.GX.InP.head) | apply Go.GX.InP.tail)); done))
    · rw [if_neg fun h => h1 h.1] at e
      refine GX.wR ?_; intros
      exact again (i + 1, (a, c)) ⟨rfl, by rw [e]; rfl, rfl, trivial⟩ (by dsimp only; omega) (by dsimp only; omega) (h1 := by dsimp only; rw [e]; ((repeat (first | apply Go.GX.AllIn.nil | apply Go.GX.AllIn.cons | (with_reducible apply Go.GX.InP.head) | apply Go.GX.InP.tail)); done))
  · have hi : i = (asks x).length := by omega
    subst hi
    rw [cur_all]
    refine GX.wR ?_; intros
    exact rt1 (_, _) rfl
end Go.Proofs.Ytnpbadghodkhlaa

/- The walks over In, and over what compares lists of bools. -/
namespace Go.Proofs.Ytnpbadghodkhlaa
open Go Go.RR Go.RX Go.GX
attribute [local irreducible] wpList Code.wp wpPlan Exit.then Exit.inBlock bodyPost NoPanic Went GX.Post GX.Again GX.Meet GX.RowR GX.Own GX.Owns GX.Box GX.Sl GX.Pt GX.Ag GX.MapR GX.Kept GX.Pin

theorem in_spec (ao : Option Addr) (cap : Nat) (l : List Int) (v : Int) : Does Try.prog 17 [.slice ao l.length cap, .int .i64 v] [Sl Ty.int ao cap l] []
    (fun _ : Unit => .bool (decide (v ∈ l))) (fun _ => []) (fun _ => []) := by
  refine enter Try.func17 rfl Try.ntmps17 rfl fun b => ?_
  refine sln ao fun h1 h2 _ => ?_
  repeat (first | (apply GX.s_list; first | apply GX.nil | (refine GX.o ?_; first | (apply GX.k_load; first | refine GX.lr ?_ | refine GX.lrA ?_ | refine GX.ln ?_ | refine GX.lb ?_ | refine GX.lh ?_ | (refine GX.ls ?_; intro ao cap _ _) | (refine GX.lA ?_; intro cs) | (refine GX.l0 ?_; intro cs) | refine GX.o1n ?_ | refine GX.o1b ?_ | refine GX.o1h ?_ | (refine GX.o1s ?_; intro ao cap _ _) | refine GX.omn ?_ | refine GX.omb ?_ | refine GX.omh ?_ | (refine GX.oms ?_; intro ao cap _ _) | refine GX.ofn ?_ | refine GX.ofb ?_ | refine GX.ofh ?_ | (refine GX.ofs ?_; intro ao cap _ _) | (refine GX.oA ?_; intro cs)) | (apply GX.k_move; refine GX.m ?_) | (apply GX.k_indexAddr; first | refine GX.io1 ?_ | refine GX.ioh ?_ | refine GX.i1 ?_ | refine GX.ih ?_ | (refine GX.ix ?_; intro bl o)) | (apply GX.k_binOp_lss; refine GX.b_lss ?_) | (apply GX.k_binOp_add; first | refine GX.b_inc ?_ | refine GX.b_add ?_ | refine GX.b_addw ?_) | (apply GX.k_assign; refine GX.a ?_) | (apply GX.k_call; refine GX.c_len ?_) | (apply GX.k_binOp_eql; first | refine GX.b_eql ?_ | refine GX.b_pn ?_ | refine GX.b_nn ?_ | refine GX.b_snn ?_ | refine GX.b_sns ?_ | refine GX.b_eqls ?_ | refine GX.b_eqltf ?_ | refine GX.b_eqlft ?_ | refine GX.b_eqlb ?_)) | refine GX.gt ?_ | refine GX.gf ?_ | refine GX.gbt ?_ | refine GX.gbf ?_ | refine GX.un ?_ | refine GX.un0 ?_) | apply GX.then_normal | apply GX.seq | apply GX.region | (apply GX.s_cond; first | refine GX.ct ?_ | refine GX.cf ?_ | refine GX.cdf ?_ | refine GX.cdt ?_ | refine GX.cbt ?_ | refine GX.cbf ?_) | apply GX.skip | apply GX.block | apply GX.inBlock_normal | apply GX.exit | apply GX.then_exit | apply GX.inBlock_exit | refine GX.ibo ?_ | apply GX.ret | apply GX.then_ret | apply GX.inBlock_ret)
  refine GX.loop (σ := Nat) (fun i => [(0, .slice ao l.length cap), (1, .int .i64 v), (5, .int .i64 (i : Int))]) (fun _ => []) (fun _ => [])
    (fun i => i ≤ l.length ∧ v ∉ l.take i) (fun i => l.length - i) 0 ⟨rfl, rfl, rfl, trivial⟩ ⟨by omega, by simp⟩ (fun i hi => ?_)
  obtain ⟨hi, hn⟩ := hi
  by_cases hlt : i < l.length
  · obtain ⟨x, hx⟩ := get_lt hlt
    by_cases hxv : x = v
    · repeat (first | (apply GX.s_list; first | apply GX.nil | (refine GX.o ?_; first | (apply GX.k_load; first | refine GX.lr ?_ | refine GX.lrA ?_ | refine GX.ln ?_ | refine GX.lb ?_ | refine GX.lh ?_ | (refine GX.ls ?_; intro ao cap _ _) | (refine GX.lA ?_; intro cs) | (refine GX.l0 ?_; intro cs) | refine GX.o1n ?_ | refine GX.o1b ?_ | refine GX.o1h ?_ | (refine GX.o1s ?_; intro ao cap _ _) | refine GX.omn ?_ | refine GX.omb ?_ | refine GX.omh ?_ | (refine GX.oms ?_; intro ao cap _ _) | refine GX.ofn ?_ | refine GX.ofb ?_ | refine GX.ofh ?_ | (refine GX.ofs ?_; intro ao cap _ _) | (refine GX.oA ?_; intro cs)) | (apply GX.k_move; refine GX.m ?_) | (apply GX.k_indexAddr; first | refine GX.io1 ?_ | refine GX.ioh ?_ | refine GX.i1 ?_ | refine GX.ih ?_ | (refine GX.ix ?_; intro bl o)) | (apply GX.k_binOp_lss; refine GX.b_lss ?_) | (apply GX.k_binOp_add; first | refine GX.b_inc ?_ | refine GX.b_add ?_ | refine GX.b_addw ?_) | (apply GX.k_assign; refine GX.a ?_) | (apply GX.k_call; refine GX.c_len ?_) | (apply GX.k_binOp_eql; first | refine GX.b_eql ?_ | refine GX.b_pn ?_ | refine GX.b_nn ?_ | refine GX.b_snn ?_ | refine GX.b_sns ?_ | refine GX.b_eqls ?_ | refine GX.b_eqltf ?_ | refine GX.b_eqlft ?_ | refine GX.b_eqlb ?_)) | refine GX.gt ?_ | refine GX.gf ?_ | refine GX.gbt ?_ | refine GX.gbf ?_ | refine GX.un ?_ | refine GX.un0 ?_) | apply GX.then_normal | apply GX.seq | apply GX.region | (apply GX.s_cond; first | refine GX.ct ?_ | refine GX.cf ?_ | refine GX.cdf ?_ | refine GX.cdt ?_ | refine GX.cbt ?_ | refine GX.cbf ?_) | apply GX.skip | apply GX.block | apply GX.inBlock_normal | apply GX.exit | apply GX.then_exit | apply GX.inBlock_exit | refine GX.ibo ?_ | apply GX.ret | apply GX.then_ret | apply GX.inBlock_ret)
      exact rt1 () (congrArg Value.bool (decide_eq_true (hxv ▸ List.mem_of_getElem? hx)))
    · repeat (first | (apply GX.s_list; first | apply GX.nil | (refine GX.o ?_; first | (apply GX.k_load; first | refine GX.lr ?_ | refine GX.lrA ?_ | refine GX.ln ?_ | refine GX.lb ?_ | refine GX.lh ?_ | (refine GX.ls ?_; intro ao cap _ _) | (refine GX.lA ?_; intro cs) | (refine GX.l0 ?_; intro cs) | refine GX.o1n ?_ | refine GX.o1b ?_ | refine GX.o1h ?_ | (refine GX.o1s ?_; intro ao cap _ _) | refine GX.omn ?_ | refine GX.omb ?_ | refine GX.omh ?_ | (refine GX.oms ?_; intro ao cap _ _) | refine GX.ofn ?_ | refine GX.ofb ?_ | refine GX.ofh ?_ | (refine GX.ofs ?_; intro ao cap _ _) | (refine GX.oA ?_; intro cs)) | (apply GX.k_move; refine GX.m ?_) | (apply GX.k_indexAddr; first | refine GX.io1 ?_ | refine GX.ioh ?_ | refine GX.i1 ?_ | refine GX.ih ?_ | (refine GX.ix ?_; intro bl o)) | (apply GX.k_binOp_lss; refine GX.b_lss ?_) | (apply GX.k_binOp_add; first | refine GX.b_inc ?_ | refine GX.b_add ?_ | refine GX.b_addw ?_) | (apply GX.k_assign; refine GX.a ?_) | (apply GX.k_call; refine GX.c_len ?_) | (apply GX.k_binOp_eql; first | refine GX.b_eql ?_ | refine GX.b_pn ?_ | refine GX.b_nn ?_ | refine GX.b_snn ?_ | refine GX.b_sns ?_ | refine GX.b_eqls ?_ | refine GX.b_eqltf ?_ | refine GX.b_eqlft ?_ | refine GX.b_eqlb ?_)) | refine GX.gt ?_ | refine GX.gf ?_ | refine GX.gbt ?_ | refine GX.gbf ?_ | refine GX.un ?_ | refine GX.un0 ?_) | apply GX.then_normal | apply GX.seq | apply GX.region | (apply GX.s_cond; first | refine GX.ct ?_ | refine GX.cf ?_ | refine GX.cdf ?_ | refine GX.cdt ?_ | refine GX.cbt ?_ | refine GX.cbf ?_) | apply GX.skip | apply GX.block | apply GX.inBlock_normal | apply GX.exit | apply GX.then_exit | apply GX.inBlock_exit | refine GX.ibo ?_ | apply GX.ret | apply GX.then_ret | apply GX.inBlock_ret)
      refine again (i + 1) ⟨rfl, rfl, rfl, trivial⟩ ⟨by omega, fun h => ?_⟩ (by omega)
      rw [List.take_add_one, hx, List.mem_append] at h
      rcases h with h | h
      · exact hn h
      · simp at h; exact hxv h.symm
  · have hil : i = l.length := by omega
    subst hil
    rw [List.take_length] at hn
    repeat (first | (apply GX.s_list; first | apply GX.nil | (refine GX.o ?_; first | (apply GX.k_load; first | refine GX.lr ?_ | refine GX.lrA ?_ | refine GX.ln ?_ | refine GX.lb ?_ | refine GX.lh ?_ | (refine GX.ls ?_; intro ao cap _ _) | (refine GX.lA ?_; intro cs) | (refine GX.l0 ?_; intro cs) | refine GX.o1n ?_ | refine GX.o1b ?_ | refine GX.o1h ?_ | (refine GX.o1s ?_; intro ao cap _ _) | refine GX.omn ?_ | refine GX.omb ?_ | refine GX.omh ?_ | (refine GX.oms ?_; intro ao cap _ _) | refine GX.ofn ?_ | refine GX.ofb ?_ | refine GX.ofh ?_ | (refine GX.ofs ?_; intro ao cap _ _) | (refine GX.oA ?_; intro cs)) | (apply GX.k_move; refine GX.m ?_) | (apply GX.k_indexAddr; first | refine GX.io1 ?_ | refine GX.ioh ?_ | refine GX.i1 ?_ | refine GX.ih ?_ | (refine GX.ix ?_; intro bl o)) | (apply GX.k_binOp_lss; refine GX.b_lss ?_) | (apply GX.k_binOp_add; first | refine GX.b_inc ?_ | refine GX.b_add ?_ | refine GX.b_addw ?_) | (apply GX.k_assign; refine GX.a ?_) | (apply GX.k_call; refine GX.c_len ?_) | (apply GX.k_binOp_eql; first | refine GX.b_eql ?_ | refine GX.b_pn ?_ | refine GX.b_nn ?_ | refine GX.b_snn ?_ | refine GX.b_sns ?_ | refine GX.b_eqls ?_ | refine GX.b_eqltf ?_ | refine GX.b_eqlft ?_ | refine GX.b_eqlb ?_)) | refine GX.gt ?_ | refine GX.gf ?_ | refine GX.gbt ?_ | refine GX.gbf ?_ | refine GX.un ?_ | refine GX.un0 ?_) | apply GX.then_normal | apply GX.seq | apply GX.region | (apply GX.s_cond; first | refine GX.ct ?_ | refine GX.cf ?_ | refine GX.cdf ?_ | refine GX.cdt ?_ | refine GX.cbt ?_ | refine GX.cbf ?_) | apply GX.skip | apply GX.block | apply GX.inBlock_normal | apply GX.exit | apply GX.then_exit | apply GX.inBlock_exit | refine GX.ibo ?_ | apply GX.ret | apply GX.then_ret | apply GX.inBlock_ret)
    exact rt1 () (congrArg Value.bool (decide_eq_false hn))
end Go.Proofs.Ytnpbadghodkhlaa

/- A slice of ints of one's own whose head was cut off: s[1:], and append behind it. No program in sight. -/
namespace Go.GX
open Go Go.RowKit Go.RR Go.RX
/-- How a slice lies in a block of one's own: behind a part that was cut off, or with no room at all. -/
def QV (zs : List Int) (cap j c : Nat) (xs : List Int) : Prop := ∃ pre, zs = pre ++ xs ∧ (j = pre.length ∧ c = cap - pre.length ∨ xs = [] ∧ c = 0)
theorem qv_all (xs : List Int) (cap : Nat) : QV xs cap 0 cap xs := ⟨[], rfl, .inl ⟨rfl, by simp⟩⟩
theorem ints_els {F : Nat → Prop} {w : World} {xs : List Int} {cs : List Value} : Els Ty.int F w cs xs ↔ cs = xs.map (Value.int .i64) := by
  induction xs generalizing cs with
  | nil => exact Iff.rfl
  | cons x xs ih =>
    constructor
    · rintro ⟨c1, c2, rfl, h1, h2⟩
      have h1 : c1 = [.int .i64 x] := h1
      rw [h1, ih.1 h2]; rfl
    · rintro rfl
      exact ⟨[.int .i64 x], xs.map (Value.int .i64), rfl, rfl, ih.2 rfl⟩
section
variable {P : Program} {w : World} {t ty e : TypeId} {z : Value} {bytes : Nat}
/-- Room enough: what is appended lies behind, in the same block. -/
theorem off_room [ht : USlice P t e] [hi : UElem P e z 1 bytes] {g j n c : Nat} {cur : Array Value} (hg : w.heap[g]? = some (.cells cur e (0, 0))) {ad : Addr} {m c2 : Nat} {news : List Value} (hl : news.length = m)
    (hnews : ∀ i u, news[i]? = some u → w.cell? (ad.add i) = some u) (h1 : ∀ u ∈ news, u.oneCell' = true) (hroom : n + m ≤ c) (hfit : j + n + m ≤ cur.size) :
    (Builtin.append_ #[t, t] ty #[.slice (some ⟨g, j, none⟩) n c, .slice (some ad) m c2]).run P w = .ok (.slice (some ⟨g, j, none⟩) (n + m) c) (w.setRow g (cur.toList.take (j + n) ++ news ++ cur.toList.drop (j + n + news.length)).toArray) := by
  obtain ⟨ii, h0, h2, h3, h4⟩ := info_parts hi.i
  have hf := run_firstCells_some (P := P) w 1 m ad m c2 news (by omega) hnews
  have hst := run_storeCells_at P g (j + n) e news 0 cur w hg (by omega) h1
  simp only [Nat.add_zero] at hst
  simp [Builtin.append_, run_underlying ht.u, sizeOf, typeInfo, h0, Builtin.lenOf, hroom, h3, hf, Addr.add_lit, hst]
theorem off_append [ht : USlice P t e] [hi : UElem P e z 1 bytes] (hzs : z.cells.size = 1) {g j c cap : Nat} {zs xs ys : List Int} {ad : Addr} {m c2 : Nat} (hown : w.ownsRow 0 e 1 (.slice (some ⟨g, 0, none⟩) zs.length cap) zs.length (zs.map (Value.int .i64))) (hq : QV zs cap j c xs)
    (hm : m = ys.length) (hne : ys ≠ []) (hnews : ∀ i u, (ys.map (Value.int .i64))[i]? = some u → w.cell? (ad.add i) = some u) (hb : (xs.length + ys.length) * bytes ≤ 140737488355328) (h63 : xs.length + ys.length ≤ 9223372036854775807) :
    ∃ g' j' c' zs' cap' w', (Builtin.append_ #[t, t] ty #[.slice (some ⟨g, j, none⟩) xs.length c, .slice (some ad) m c2]).run P w = .ok (.slice (some ⟨g', j', none⟩) (xs ++ ys).length c') w' ∧
      w'.ownsRow 0 e 1 (.slice (some ⟨g', 0, none⟩) zs'.length cap') zs'.length (zs'.map (Value.int .i64)) ∧ QV zs' cap' j' c' (xs ++ ys) ∧ Upd (fun k => k = g) w w' ∧ (g' = g ∨ g' = w.heap.size) := by
  obtain ⟨ii, h0, h2, h3, h4⟩ := info_parts hi.i
  subst hm
  obtain ⟨pre, hz, hv⟩ := hq
  have hpos : 0 < ys.length := List.length_pos_iff.2 hne
  have hlen : (xs ++ ys).length = xs.length + ys.length := List.length_append
  have one : ∀ u ∈ ys.map (Value.int .i64), u.oneCell' = true := fun u hu => by
    obtain ⟨y, _, rfl⟩ := List.mem_map.1 hu; rfl
  obtain ⟨hl0, h5⟩ := hown
  rcases h5 with ⟨h5, _⟩ | ⟨g1, cap1, cur, h5, _, hg, h6, h7, h8, h9⟩
  · cases h5
  simp only [Value.slice.injEq, Option.some.injEq, Addr.mk.injEq, and_true] at h5
  obtain ⟨rfl, _, rfl⟩ := h5
  have hzl : zs.length = pre.length + xs.length := by rw [hz, List.length_append]
  rw [Nat.mul_one] at h8 h9
  by_cases hroom : xs.length + ys.length ≤ c
  · obtain ⟨rfl, rfl⟩ : j = pre.length ∧ c = cap - pre.length := by
      rcases hv with hv | ⟨_, hc⟩
      · exact hv
      · omega
    have hfit : pre.length + xs.length + ys.length ≤ cur.size := by omega
    have hr := off_room (P := P) (t := t) (ty := ty) (z := z) (bytes := bytes) (c2 := c2) hg (List.length_map (Value.int .i64)) hnews one hroom hfit
    have hcl : cur.toList.length = cap := by simpa using h8
    have htk : cur.toList.take (pre.length + xs.length) = zs.map (Value.int .i64) := by rw [← hzl]; exact h9
    rw [htk, List.length_map] at hr
    refine ⟨g, pre.length, _, zs ++ ys, cap, _, by rw [hlen]; exact hr, ⟨by simp, .inr ⟨g, cap, _, rfl, Nat.zero_le _, setRow_heap w g cur _ e _ hg, by rw [List.length_append]; omega, h7, ?_, ?_⟩⟩, ⟨pre, by rw [hz, List.append_assoc], .inl ⟨rfl, rfl⟩⟩, ⟨rfl, rfl, rfl, by simp, fun k _ hk => setRow_other w g k _ fun e => hk e⟩, .inl rfl⟩
    · simp only [List.size_toArray, List.length_append, List.length_map, List.length_drop]
      omega
    · rw [Nat.mul_one, List.map_append]
      show List.take _ (_ ++ _) = _
      rw [List.take_left' (by simp)]
  · have hlc : xs.length ≤ c ∨ c = 0 := by
      rcases hv with ⟨_, hc⟩ | ⟨_, hc⟩
      · left; omega
      · right; exact hc
    have holds : ∀ i u, (xs.map (Value.int .i64))[i]? = some u → w.cell? ((⟨g, j, none⟩ : Addr).add i) = some u := fun i u hu => by
      rcases hv with ⟨rfl, _⟩ | ⟨hx, _⟩
      · rw [Addr.add_lit]
        have hu2 : (zs.map (Value.int .i64))[pre.length + i]? = some u := by
          rw [hz, List.map_append, List.getElem?_append_right (by simp), List.length_map, Nat.add_sub_cancel_left]; exact hu
        rw [← h9, List.getElem?_take] at hu2
        split at hu2
        · have hu3 : cur[pre.length + i]? = some u := by simpa using hu2
          unfold World.cell?
          simp [hg, hu3]
        · cases hu2
      · subst hx; simp at hu
    have hr := run_append_grow (P := P) w t ty e ii z ht.u h0 h2 ⟨g, j, none⟩ xs.length c (xs.map (Value.int .i64)) (by rw [h3, Nat.mul_one, List.length_map]) holds ad ys.length c2 (ys.map (Value.int .i64)) (by rw [h3, Nat.mul_one, List.length_map]) hnews (by omega) (by omega) (by rw [h4]; exact growslice_fits (by omega) hb)
    have hge := grownCap_ge w (xs.length + ys.length) c e
    have hcm : grownCap w (xs.length + ys.length) c e ≤ maxLen := grownCap_le_maxLen w _ _ e (by simp only [maxLen]; omega)
    refine ⟨w.heap.size, 0, grownCap w (xs.length + ys.length) c e, xs ++ ys, grownCap w (xs.length + ys.length) c e, _, by rw [hlen]; exact hr, ⟨by simp, .inr ⟨w.heap.size, _, _, rfl, Nat.zero_le _, heap_alloc_new w.drew _, by rw [hlen]; exact hge, hcm, ?_, ?_⟩⟩, qv_all _ _, ⟨rfl, rfl, rfl, by simp, fun k hk _ => heap_alloc_old w.drew _ hk⟩, .inr rfl⟩
    · simp only [Array.size_append, List.size_toArray, size_zeroCells, hzs, List.length_map]
      omega
    · rw [Nat.mul_one, List.map_append]
      simp only [Array.toList_append, List.append_assoc]
      rw [← List.append_assoc]
      exact List.take_left' (by simp)
end
/-- s[1:] lies so as well. -/
theorem qv_cut {zs xs : List Int} {x : Int} {cap j c : Nat} (h : QV zs cap j c (x :: xs)) (hl : zs.length ≤ cap) : QV zs cap (if c = 1 then j else j + 1) (c - 1) xs ∧ zs[j]? = some x ∧ (x :: xs).length ≤ c := by
  obtain ⟨pre, hz, h⟩ := h
  rcases h with ⟨rfl, rfl⟩ | ⟨h, _⟩
  · have hzl : zs.length = pre.length + (xs.length + 1) := by rw [hz, List.length_append, List.length_cons]
    refine ⟨⟨pre ++ [x], by rw [hz]; simp, ?_⟩, by rw [hz, List.getElem?_append_right (Nat.le_refl _)]; simp, by rw [List.length_cons]; omega⟩
    split
    · rename_i h1
      exact .inr ⟨List.length_eq_zero_iff.1 (by omega), by omega⟩
    · exact .inl ⟨by simp, by rw [List.length_append, List.length_singleton]; omega⟩
  · cases h
section
variable {P : Program} {n : Nat} {env : Env} {b : Base} {ps : List Pf} {hp : List Res} {Q : Exit → Act → World → Prop} {K : Act → World → Prop} {S : World → Prop}
variable {d : Nat} {ty : TypeId} {pos : String} {aft : Array Edge} {gd : Option (Nat × Bool)}
theorem cutq_v {t et : TypeId} {x y : Operand} {g j c m l : Nat} {k : IntKind} [ht : USlice P t et] [hs : USize P et 1] (hx : ev env x = some (.slice (some ⟨g, j, none⟩) m c)) (hy : ev env y = some (.int k 1)) (hm : m = l + 1) (hc : m ≤ c) :
    Soft P n env S (.slice t x (some y) none none) (.slice (some ⟨g, if c = 1 then j else j + 1, none⟩) l (c - 1)) := fun a ha o ho w' _ => by
  subst hm
  have hb1 := sliceBound_run (P := P) (k := k) (i := 1) (y := l + 1) (c := .sliceB) (w := w') ⟨by omega, by omega⟩
  have hss := hs.s w'
  by_cases h1 : c = 1
  · simp [execOp, ho, ha.ev hx, ha.ev hy, Instr.sliceAt, Instr.slice, run_underlying ht.u, Instr.sliceBounds, hb1, hss, h1]
  · simp [execOp, ho, ha.ev hx, ha.ev hy, Instr.sliceAt, Instr.slice, run_underlying ht.u, Instr.sliceBounds, hb1, hss, h1, Addr.add_lit]
theorem cutq {t et : TypeId} {x y : Operand} {g j c m l : Nat} {k : IntKind} [USlice P t et] [USize P et 1] (h : G n ((d, .slice (some ⟨g, if c = 1 then j else j + 1, none⟩) l (c - 1)) :: env) b ps hp K) (hm : m = l + 1) (hc : m ≤ c) (hx : ev env x = some (.slice (some ⟨g, j, none⟩) m c) := by exact rfl) (hy : ev env y = some (.int k 1) := by exact rfl) (hd : Nat.blt d n = true := by exact rfl) :
    GO P n env b ps hp ⟨some d, .slice t x (some y) none none, ty, pos, aft, gd⟩ K Q := rd1 (cutq_v hx hy hm hc) hd h
theorem ixq {t et : TypeId} {x y : Operand} {g j c m : Nat} {k : IntKind} [USlice P t et] [USize P et 1] (h : G n ((d, .pointer (some ⟨g, j, none⟩)) :: env) b ps hp K) (hm : 0 < m) (hx : ev env x = some (.slice (some ⟨g, j, none⟩) m c) := by exact rfl) (hy : ev env y = some (.int k ((0 : Nat) : Int)) := by exact rfl) (hd : Nat.blt d n = true := by exact rfl) :
    GO P n env b ps hp ⟨some d, .indexAddr t x y, ty, pos, aft, gd⟩ K Q := rd1 (by have := RX.indexAddrS (P := P) (n := n) (env := env) (S := fun _ => True) (t := t) hx hy hm; simpa using this) hd h
theorem apq {t te : TypeId} {x y : Operand} {g j c cap m m2 cap2 : Nat} {zs xs ys : List Int} {ao2 : Option Addr} {z : Value} {bytes : Nat} {rest : List Res} [ht : USlice P t te] [hi : UElem P te z 1 bytes] (hq : QV zs cap j c xs)
    (h : ∀ g' j' c' zs' cap', QV zs' cap' j' c' (xs ++ ys) → G n ((d, .slice (some ⟨g', j', none⟩) (xs ++ ys).length c') :: env) b ps (Own te Ty.int (some ⟨g', 0, none⟩) cap' zs' :: rest) K)
    (hx : ev env x = some (.slice (some ⟨g, j, none⟩) m c) := by exact rfl) (hy : ev env y = some (.slice ao2 m2 cap2) := by exact rfl) (hf : FOwn (some ⟨g, 0, none⟩) hp te Ty.int cap zs rest := by exact inferInstance) (hsl : FSl ao2 ps Ty.int cap2 ys := by exact inferInstance)
    (hm : m = xs.length := by first | rfl | omega) (hm2 : m2 = ys.length := by first | rfl | omega) (hcl : m ≤ c ∨ m = 0 := by omega) (hb : (xs.length + ys.length) * bytes ≤ 140737488355328 ∧ xs.length + ys.length ≤ 9223372036854775807 := by omega) (hzs : z.cells.size = 1 := by exact rfl) (hd : Nat.blt d n = true := by exact rfl) :
    GO P n env b ps hp ⟨some d, .call { callee := .builtin .append, args := #[x, y], argTypes := #[t, t] }, ty, pos, aft, gd⟩ K Q := by
  subst hm; subst hm2
  refine act (hp1 := [Own te Ty.int (some ⟨g, 0, none⟩) cap zs]) (ι := { q : Nat × Nat × Nat × List Int × Nat // QV q.2.2.2.1 q.2.2.2.2 q.2.1 q.2.2.1 (xs ++ ys) }) (val := fun q => .slice (some ⟨q.1.1, q.1.2.1, none⟩) (xs ++ ys).length q.1.2.2.1) (pf := fun _ => []) (hr := fun q => [Own te Ty.int (some ⟨q.1.1, 0, none⟩) q.1.2.2.2.2 q.1.2.2.2.1]) ?_ hf.p (fun q => h q.1.1 q.1.2.1 q.1.2.2.1 q.1.2.2.2.1 q.1.2.2.2.2 q.2)
  intro F w K Q b s hk
  have hown0 : (Own te Ty.int (some ⟨g, 0, none⟩) cap zs).says F w := s.rs _ (by simp)
  obtain ⟨cs, h1, h2⟩ := hown0
  rw [ints_els] at h2
  subst h2
  obtain ⟨g1, g2, g3⟩ : (Sl Ty.int ao2 cap2 ys).says F w := s.fs _ hsl.mem
  by_cases h0 : ys = []
  · subst h0
    refine RX.eff (v := .slice (some ⟨g, j, none⟩) xs.length c) (w' := w) (fun a ha => ?_) hd ?_
    · have hrun := run_app_nil (P := P) (t := t) (e := te) (ao := some ⟨g, j, none⟩) (ao2 := ao2) (cap2 := cap2) (n' := xs.length) (cap := c) (by omega) w ty
      simp [execOp, ha.ev hx, ha.ev hy, resolve, invoke, builtin, hrun]
    · have := hk ⟨(g, j, c, zs, cap), by simpa using hq⟩ w (mkOk1 s (Upd.refl _ _) ⟨_, h1, ints_els.2 rfl⟩ (fun k hk _ => by simpa using hk))
      simpa using this
  · obtain ⟨bl, o, news, rfl, h5, h6⟩ := slAt_cells g3 h0
    rw [ints_els] at h5
    subst h5
    obtain ⟨g', j', c', zs', cap', w', hr, ho, hq', hu, hlies⟩ := off_append (P := P) (t := t) (ty := ty) (z := z) (bytes := bytes) (c2 := cap2) hzs h1 hq rfl h0 (fun i u hu => by rw [Addr.add_lit]; exact h6 i u hu) hb.1 hb.2
    refine RX.eff (v := .slice (some ⟨g', j', none⟩) (xs ++ ys).length c') (w' := w') (fun a ha => ?_) hd ?_
    · simp [execOp, ha.ev hx, ha.ev hy, resolve, invoke, builtin, hr]
    · have hu' : Upd (Own te Ty.int (some ⟨g, 0, none⟩) cap zs).on w w' := hu.mono fun k _ hk => by subst hk; rfl
      refine hk ⟨(g', j', c', zs', cap'), hq'⟩ w' (mkOk1 s hu' ⟨_, ho, ints_els.2 rfl⟩ (fun k hk hlt => ?_))
      have hk : Value.ownBlock (.slice (some ⟨g', 0, none⟩) zs'.length cap') = some k := hk
      have hk2 : g' = k := by simpa [Value.ownBlock] using hk
      rcases hlies with h7 | h7
      · show Value.ownBlock _ = some k
        rw [← hk2, h7]; rfl
      · omega
end
end Go.GX

/- The walk over asked of chapter 16's laws. -/
namespace Go.LivM
open Go.RiseM Go.Api Go.FlowM
/-- What holds on the way: all that waits leads back to where it began, all that was met is done. -/
structure AskI (ins : List Ins) (at_ : Nat) (v : Int) (M : List Bool) (L : List Int) : Prop where
  len : M.length = ins.length
  rng : ∀ q ∈ L, In ins.length q
  sound : ∀ q : Nat, (q : Int) ∈ L → Live ins q v → Live ins at_ v
  top : M[at_]? = some true ∨ (at_ : Int) ∈ L
  done : ∀ (i : Nat) x, M[i]? = some true → ins[i]? = some x → v ∉ uses x ∧ (def_ x = v ∨ ∀ j : Nat, (j : Int) ∈ next ins i → M[j]? = some true ∨ (j : Int) ∈ L)
theorem ask_begin {ins : List Ins} {at_ n : Nat} {v : Int} (hn : n = ins.length) (ha : at_ < ins.length) : AskI ins at_ v (List.replicate n false) [(at_ : Int)] := by
  refine ⟨by simp [hn], fun q hq => ?_, fun q hq hl => ?_, .inr (by simp), fun i x hi hx => ?_⟩
  · rw [List.mem_singleton] at hq
    subst hq
    exact ⟨by omega, by omega⟩
  · rw [List.mem_singleton] at hq
    have : q = at_ := by omega
    subst this
    exact hl
  · have := List.eq_of_mem_replicate (List.mem_of_getElem? hi)
    cases this
theorem AskI.end {ins : List Ins} {at_ : Nat} {v : Int} {M : List Bool} (h : AskI ins at_ v M []) : ¬ Live ins at_ v := by
  have key : ∀ i w, Live ins i w → w = v → M[i]? ≠ some true := by
    intro i w hl
    induction hl with
    | use hx hv => intro e hm; subst e; exact (h.done _ _ hm hx).1 hv
    | pass hx hd hj _ ih =>
      intro e hm
      subst e
      rcases (h.done _ _ hm hx).2 with h2 | h2
      · exact hd h2
      · rcases h2 _ hj with h3 | h3
        · exact ih rfl h3
        · simp at h3
  intro hl
  rcases h.top with h1 | h1
  · exact key _ _ hl rfl h1
  · simp at h1
theorem AskI.skip {ins : List Ins} {at_ i : Nat} {v : Int} {M : List Bool} {L : List Int} (h : AskI ins at_ v M ((i : Int) :: L)) (hm : M[i]? = some true) : AskI ins at_ v M L := by
  have sub : ∀ j : Nat, M[j]? = some true ∨ (j : Int) ∈ (i : Int) :: L → M[j]? = some true ∨ (j : Int) ∈ L := fun j hj => by
    rcases hj with hj | hj
    · exact .inl hj
    · rcases List.mem_cons.1 hj with hj | hj
      · have : j = i := by omega
        subst this; exact .inl hm
      · exact .inr hj
  exact ⟨h.len, fun q hq => h.rng q (by simp [hq]), fun q hq => h.sound q (by simp [hq]), sub _ h.top, fun k x hk hx => ⟨(h.done k x hk hx).1, (h.done k x hk hx).2.imp id fun h2 j hj => sub j (h2 j hj)⟩⟩
theorem AskI.step {ins : List Ins} {at_ i : Nat} {v : Int} {M : List Bool} {L L2 : List Int} {x : Ins} (h : AskI ins at_ v M ((i : Int) :: L)) (hx : ins[i]? = some x) (hu : v ∉ uses x) (hL : L2 = if def_ x = v then L else L ++ next ins i) : AskI ins at_ v (M.set i true) L2 := by
  have hi : i < M.length := by rw [h.len]; exact (List.getElem?_eq_some_iff.1 hx).1
  have hsub : ∀ q ∈ L, q ∈ L2 := fun q hq => by rw [hL]; split; exact hq; exact List.mem_append_left _ hq
  have hM : ∀ j : Nat, M[j]? = some true → (M.set i true)[j]? = some true := fun j hj => by
    by_cases e : i = j
    · subst e; rw [List.getElem?_set_self hi]
    · rw [List.getElem?_set_ne e]; exact hj
  have hMi : (M.set i true)[i]? = some true := List.getElem?_set_self hi
  have up : ∀ j : Nat, M[j]? = some true ∨ (j : Int) ∈ (i : Int) :: L → (M.set i true)[j]? = some true ∨ (j : Int) ∈ L2 := fun j hj => by
    rcases hj with hj | hj
    · exact .inl (hM j hj)
    · rcases List.mem_cons.1 hj with hj | hj
      · have : j = i := by omega
        subst this; exact .inl hMi
      · exact .inr (hsub _ hj)
  refine ⟨by rw [List.length_set]; exact h.len, fun q hq => ?_, fun q hq hl => ?_, up _ h.top, fun k y hk hy => ?_⟩
  · rw [hL] at hq
    split at hq
    · exact h.rng q (by simp [hq])
    · rcases List.mem_append.1 hq with hq | hq
      · exact h.rng q (by simp [hq])
      · exact (next_in hq).1
  · rw [hL] at hq
    split at hq
    · exact h.sound q (by simp [hq]) hl
    · rename_i hd
      rcases List.mem_append.1 hq with hq | hq
      · exact h.sound q (by simp [hq]) hl
      · exact h.sound i (by simp) (.pass hx hd hq hl)
  · by_cases e : i = k
    · subst e
      rw [hx] at hy; cases hy
      refine ⟨hu, ?_⟩
      by_cases hd : def_ x = v
      · exact .inl hd
      · refine .inr fun j hj => .inr ?_
        rw [hL, if_neg hd]
        exact List.mem_append_right _ hj
    · rw [List.getElem?_set_ne e] at hk
      exact ⟨(h.done k y hk hy).1, (h.done k y hk hy).2.imp id fun h2 j hj => up j (h2 j hj)⟩
theorem unmet_set {M : List Bool} {i : Nat} (h : M[i]? = some false) : (M.set i true).count false + 1 = M.count false := by
  induction M generalizing i with
  | nil => simp at h
  | cons a M ih =>
    cases i with
    | zero => simp at h; subst h; simp
    | succ i =>
      have := ih (i := i) (by simpa using h)
      rw [List.set_cons_succ, List.count_cons, List.count_cons]; omega
end Go.LivM
namespace Go.Proofs.Ytnpbadghodkhlaa
open Go Go.RR Go.RX Go.GX Go.Api Go.FlowM Go.RiseM Go.LivM
attribute [local irreducible] wpList Code.wp wpPlan Exit.then Exit.inBlock bodyPost NoPanic Went GX.Post GX.Again GX.Meet GX.RowR GX.Own GX.Owns GX.Box GX.Sl GX.Pt GX.Ag GX.MapR GX.Kept GX.Pin wpT GoK AtEnd Both
structure AskS where
  M : List Bool
  zs : List Int
  cap : Nat
  g : Nat
  j : Nat
  c : Nat
  L : List Int
set_option maxHeartbeats 2000000 in
theorem asked16_spec (cs : List Value) (c : Api.Code) (hn : c.ins.length ≤ 1000) (at_ : Nat) (ha : at_ < c.ins.length) (v : Int) :
    Does Try.prog 18 [.agg cs.toArray, .int .i64 (at_ : Int), .int .i64 v] [Ag tyCode cs c] [] (fun _ : Unit => .bool (decide (v ∈ lives c.ins at_))) (fun _ => []) (fun _ => []) := by
  refine enter Try.func18 rfl Try.ntmps18 rfl fun b => ?_
  obtain ⟨n, hn0⟩ : ∃ n, n = c.ins.length := ⟨_, rfl⟩
  refine GX.wRO ?_; intros
  refine GX.nmP 3 ?_; rintro b3 rfl
  refine GX.nmB 7 ?_; rintro gm rfl
  refine GX.nmB 8 ?_; rintro gl rfl
  rw [← hn0]
  refine GX.loop (σ := AskS) (fun s => [(2, .int .i64 v), (3, .pointer (some ⟨b3, 0, none⟩)), (7, .slice (some ⟨gm, 0, none⟩) n n), (8, .slice (some ⟨s.g, s.j, none⟩) s.L.length s.c)]) (fun _ => [])
    (fun s => [Own 4 Ty.bool (some ⟨gm, 0, none⟩) n s.M, Own 3 Ty.int (some ⟨s.g, 0, none⟩) s.cap s.zs])
    (fun s => AskI c.ins at_ v s.M s.L ∧ QV s.zs s.cap s.j s.c s.L ∧ 3 * s.M.count false + s.L.length ≤ 3 * n + 1) (fun s => 3 * s.M.count false + s.L.length) ⟨List.replicate n false, [(at_ : Int)], 1, gl, 0, 1, [(at_ : Int)]⟩ ⟨rfl, rfl, rfl, rfl, trivial⟩
    ⟨ask_begin hn0 ha, qv_all _ _, by simp⟩ (fun s hs => ?_)
  obtain ⟨M, zs, cap, g, j, cc, L⟩ := s
  obtain ⟨s1, s2, s3⟩ := hs
  dsimp only at *
  refine opn (some ⟨g, 0, none⟩ : Option Addr) fun hzc _ _ => ?_
  have hMl : M.length = n := by rw [s1.len, hn0]
  cases L with
  | nil =>
    have hno := s1.end
    have h0 : ((([] : List Int).length : Nat) : Int) = 0 := rfl
    rw [show decide (v ∈ lives c.ins at_) = false from decide_eq_false fun h => hno (mem_lives.1 h)]
    refine GX.wR ?_; intros
    exact rt1 () rfl
  | cons x0 L =>
    have hx0 := s1.rng x0 (by simp)
    obtain ⟨i, rfl⟩ := Int.eq_ofNat_of_zero_le hx0.1
    have hi : i < n := by have := hx0.2; omega
    obtain ⟨q1, q2, q3⟩ := qv_cut s2 hzc
    have q4 : L.length + 1 ≤ cc := q3
    have h0 : ((((i : Int) :: L).length : Nat) : Int) = (L.length : Int) + 1 := by simp
    have s4 : 3 * M.count false + (L.length + 1) ≤ 3 * n + 1 := s3
    have hnl := next_len c.ins (i : Int)
    obtain ⟨m0, hm0⟩ := get_lt (show i < M.length by omega)
    obtain ⟨x, hx⟩ := get_lt (show i < c.ins.length by omega)
    refine GX.wR ?_; intros
    refine GX.o (ixq ?_ (Nat.succ_pos _))
    refine GX.wR ?_; intros
    refine GX.o (cutq (l := L.length) ?_ rfl q3)
    cases m0 with
    | true =>
      refine GX.wR ?_; intros
      exact again ⟨M, zs, cap, g, _, _, L⟩ ⟨rfl, rfl, rfl, rfl, trivial⟩ ⟨s1.skip hm0, q1, by dsimp only; omega⟩ (by dsimp only; rw [List.length_cons]; omega)
    | false =>
      have hcnt := unmet_set hm0
      refine GX.wR ?_; intros
      refine GX.o (cl (ruses_spec _ x) fun s => ?_)
      obtain ⟨aU, cU⟩ := s
      dsimp only
      refine GX.wR ?_; intros
      refine GX.o (cl (in_spec _ _ (uses x) v) fun _ => ?_)
      by_cases hu : v ∈ uses x
      · have hlv : v ∈ lives c.ins at_ := mem_lives.2 (s1.sound i (by simp) (.use hx hu))
        rw [show decide (v ∈ lives c.ins at_) = true from decide_eq_true hlv]
        refine GX.wR ?_; intros
        exact rt1 () rfl
      · refine GX.wR ?_; intros
        refine GX.o (cl (rdef_spec _ x) fun _ => ?_)
        by_cases hd : def_ x = v
        · have hd2 := Classical.not_not.2 hd
          refine GX.wR ?_; intros
          exact again ⟨M.set i true, zs, cap, g, _, _, L⟩ ⟨rfl, rfl, rfl, rfl, trivial⟩ ⟨s1.step hx hu (by rw [if_pos hd]), q1, by dsimp only; omega⟩ (by dsimp only; rw [List.length_cons]; omega)
        · refine GX.wR ?_; intros
          refine GX.o (cl (rnext_spec _ c (i : Int)) fun s => ?_)
          obtain ⟨aN, cN⟩ := s
          dsimp only
          refine GX.o (apq q1 (fun g' j' c' zs' cap' hq' => ?_))
          refine GX.wR ?_; intros
          exact again ⟨M.set i true, zs', cap', g', j', c', L ++ next c.ins i⟩ ⟨rfl, rfl, rfl, rfl, trivial⟩ ⟨s1.step hx hu (by rw [if_neg hd]), hq', by dsimp only; rw [List.length_append]; omega⟩ (by dsimp only; rw [List.length_append, List.length_cons]; omega)
end Go.Proofs.Ytnpbadghodkhlaa

/- From the form's own reading of what comes in to the readings of this walk. No program in sight. -/
namespace Go.GX
open Go Go.RowKit Go.RR Go.RX Go.Api

section
variable {P : Program}
/-- What the form reads at type t reads so, and is such. -/
def Conv (P : Program) (t : TypeId) {α : Type} (e : Ty α) (ok : α → Prop) : Prop :=
  ∀ {H : Type} (enc : TypeId × Value → H) (w : World) (spare : Nat → Bool) (held : Bool) (fuel : Nat) (cs : List Value) (x : DataW H × List MemPlace),
    DataW.trod enc P w 0 spare held fuel t cs = some x → ∃ y, e.rd (fun k => k < w.heap.size) w cs y ∧ ok y

theorem wf_i64 {a : Int} (h : (Lit.int .i64 a).wf = true) : -9223372036854775808 ≤ a ∧ a ≤ 9223372036854775807 := by
  simp only [Lit.wf, Bool.and_eq_true, decide_eq_true_eq] at h
  exact h
theorem conv_int {t : TypeId} (h : P.underlying t = some (.int .i64)) : Conv P t Ty.int I64 := by
  intro H enc w spare held fuel cs x hx
  obtain ⟨n, rfl, _, hw⟩ := DataW.trod_int h hx
  exact ⟨n, rfl, wf_i64 hw⟩
theorem conv_byte {t : TypeId} (h : P.underlying t = some (.int .u8)) : Conv P t Ty.byte (fun x => 0 ≤ x ∧ x ≤ 255) := by
  intro H enc w spare held fuel cs x hx
  obtain ⟨n, rfl, _, hw⟩ := DataW.trod_int h hx
  simp only [Lit.wf, Bool.and_eq_true, decide_eq_true_eq] at hw
  exact ⟨n, rfl, hw⟩
theorem conv_bool {t : TypeId} (h : P.underlying t = some .bool) : Conv P t Ty.bool (fun _ => True) := by
  intro H enc w spare held fuel cs x hx
  cases fuel with
  | zero => simp [DataW.trod] at hx
  | succ n =>
    unfold DataW.trod at hx
    rw [h] at hx
    split at hx <;> first | (rename_i b _; exact ⟨_, rfl, trivial⟩) | simp_all

theorem choose_list {α : Type} {p : Nat → α → Prop} : ∀ (n : Nat), (∀ i, i < n → ∃ x, p i x) → ∃ l : List α, l.length = n ∧ ∀ (i : Nat) x, l[i]? = some x → p i x
  | 0, _ => ⟨[], rfl, by simp⟩
  | n + 1, h => by
    obtain ⟨l, hl, hp⟩ := choose_list n (fun i hi => h i (by omega))
    obtain ⟨x, hx⟩ := h n (by omega)
    refine ⟨l ++ [x], by simp [hl], fun i y hy => ?_⟩
    rcases Nat.lt_or_ge i l.length with hi | hi
    · rw [List.getElem?_append_left hi] at hy; exact hp i y hy
    · rw [List.getElem?_append_right hi] at hy
      rcases hq : i - l.length with _ | q
      · rw [hq] at hy; simp at hy; subst hy
        rw [show i = n by omega]; exact hx
      · rw [hq] at hy; simp at hy

theorem conv_slice {t et : TypeId} {α : Type} {e : Ty α} {ok : α → Prop} (ht : P.underlying t = some (.slice et)) (hs : P.cellsOf et = e.size) (hp : 0 < e.size) (he : Conv P et e ok) : Conv P t (Ty.slice e) (fun l => ∀ x ∈ l, ok x) := by
  intro H enc w spare held fuel cs x hx
  rcases Go.Deep.open_slice ht hx with ⟨rfl, _⟩ | ⟨a, len, cap, m, n, D, Pl, rfl, _, hl, hm, hmm, _, hel⟩
  · exact ⟨[], ⟨none, 0, rfl, by simp, by omega, fun i x hx => by simp at hx⟩, by simp⟩
  · have hml : len ≤ m := by rw [hmm]; split <;> omega
    obtain ⟨l, hll, hlp⟩ := choose_list (α := α × List Value) (p := fun i q => w.cells? 0 (a.add (i * e.size)) e.size = some q.2 ∧ e.rd (fun k => k < w.heap.size) w q.2 q.1 ∧ ok q.1) len (fun i hi => by
      obtain ⟨cs', h1, h2⟩ := hel i (by omega)
      obtain ⟨y, hy⟩ := he enc w spare held n cs' _ h2
      rw [hs] at h1
      exact ⟨(y, cs'), h1, hy⟩)
    refine ⟨l.map (·.1), ⟨some a, cap, by simp [hll], by simp [hll, hl], by simp only [maxLen] at hm; omega, fun i x hx => ?_⟩, fun x hx => ?_⟩
    · rw [List.getElem?_map] at hx
      obtain ⟨⟨y, cs'⟩, hq, rfl⟩ := Option.map_eq_some_iff.1 hx
      obtain ⟨h1, h2, _⟩ := hlp i _ hq
      dsimp only at h1 h2 ⊢
      have hi : i < len := by have := (List.getElem?_eq_some_iff.1 hq).1; omega
      obtain ⟨_, hlen, hc⟩ := World.cells?_some h1
      have hspot : a.spot = none := by
        obtain ⟨cs0, g1, g2⟩ := hel 0 (by omega)
        rw [hs] at g1
        obtain ⟨_, g3, g4⟩ := World.cells?_some g1
        have := g4 0 (by omega)
        simp only [Nat.zero_mul, Addr.add_zero'] at this
        have g5 : cs0[0]? = some cs0[0] := List.getElem?_eq_getElem (by omega)
        cases hsp : a.spot with
        | none => rfl
        | some q =>
          exfalso
          have h6 : w.cell? a = some cs0[0] := by simpa [g5] using this
          unfold World.cell? at h6
          split at h6
          · simp [hsp] at h6
          · cases h6
      obtain ⟨b, o, sp⟩ := a
      dsimp only at hspot
      subst hspot
      have hcell : CellsAt w b (o + i * e.size) cs' := fun j c hj => by
        have hjl : j < e.size := by have := (List.getElem?_eq_some_iff.1 hj).1; omega
        have := hc j (by omega)
        rw [Addr.add_lit, Addr.add_lit] at this
        rw [this, hj]
      have h0 : cs'[0]? = some cs'[0] := List.getElem?_eq_getElem (by omega)
      have hb := cell_lt (hcell 0 _ h0)
      exact ⟨b, o, cs', rfl, hb, hb, hcell, h2⟩
    · obtain ⟨q, hq, rfl⟩ := List.mem_map.1 hx
      obtain ⟨i, hi⟩ := List.getElem?_of_mem hq
      exact (hlp i q hi).2.2

/-- The fields of a struct, one after the other. -/
def ConvF (P : Program) (fs : List Field) (off : Nat) {α : Type} (r : Ty α) (ok : α → Prop) : Prop :=
  ∀ {H : Type} (enc : TypeId × Value → H) (w : World) (spare : Nat → Bool) (held : Bool) (fuel : Nat) (cs : List Value) (xs : List (DataW H × List MemPlace)),
    off + r.size = cs.length → fs.mapM (fun f => DataW.trod enc P w 0 spare held fuel f.type ((cs.drop f.offset).take (P.cellsOf f.type))) = some xs → ∃ y, r.rd (fun k => k < w.heap.size) w (cs.drop off) y ∧ ok y
theorem convF_nil {off : Nat} : ConvF P [] off Ty.unit (fun _ => True) := by
  intro H enc w spare held fuel cs xs hl _
  exact ⟨(), by simp [Ty.unit] at hl ⊢; omega, trivial⟩
theorem convF_cons {f : Field} {fs : List Field} {off : Nat} {α β : Type} {r : Ty α} {s : Ty β} {ok1 : α → Prop} {ok2 : β → Prop} (ho : f.offset = off) (hs : P.cellsOf f.type = r.size) (h1 : Conv P f.type r ok1) (h2 : ConvF P fs (off + r.size) s ok2) : ConvF P (f :: fs) off (Ty.pair r s) (fun x => ok1 x.1 ∧ ok2 x.2) := by
  intro H enc w spare held fuel cs xs hl hx
  rw [List.mapM_cons] at hx
  cases hy : DataW.trod enc P w 0 spare held fuel f.type ((cs.drop f.offset).take (P.cellsOf f.type)) with
  | none => rw [hy] at hx; simp at hx
  | some y =>
    rw [hy] at hx
    cases hz : fs.mapM (fun f => DataW.trod enc P w 0 spare held fuel f.type ((cs.drop f.offset).take (P.cellsOf f.type))) with
    | none => rw [hz] at hx; simp at hx
    | some zs =>
      obtain ⟨u, hu, ou⟩ := h1 enc w spare held fuel _ _ hy
      obtain ⟨v, hv, ov⟩ := h2 enc w spare held fuel cs zs (by simp only [Ty.pair] at hl; omega) hz
      rw [ho, hs] at hu
      refine ⟨(u, v), ⟨_, _, ?_, hu, hv⟩, ou, ov⟩
      rw [← List.drop_drop, List.take_append_drop]
theorem conv_struct {t : TypeId} {fs : Array Field} {l : List Field} {α : Type} {r : Ty α} {ok : α → Prop} (ht : P.underlying t = some (.struct fs)) (hl : fs.toList = l) (hs : P.cellsOf t = r.size) (h : ConvF P l 0 r ok) : Conv P t r ok := by
  intro H enc w spare held fuel cs x hx
  subst hl
  cases fuel with
  | zero => simp [DataW.trod] at hx
  | succ n =>
    unfold DataW.trod at hx
    rw [ht] at hx
    simp only at hx
    split at hx
    · rename_i hl
      obtain ⟨xs, hxs, _⟩ := Option.map_eq_some_iff.1 hx
      have := h enc w spare held n cs xs (by omega) hxs
      simpa using this
    · cases hx
theorem conv_co {t : TypeId} {α β : Type} {r : Ty α} {ok : α → Prop} {g : β → α} {ok' : β → Prop} (inv : α → β) (h1 : ∀ x, g (inv x) = x) (h2 : ∀ x, ok x → ok' (inv x)) (h : Conv P t r ok) : Conv P t (Ty.co r g) ok' := by
  intro H enc w spare held fuel cs x hx
  obtain ⟨y, hy, ho⟩ := h enc w spare held fuel cs x hx
  exact ⟨inv y, by show r.rd _ _ _ (g (inv y)); rw [h1]; exact hy, h2 y ho⟩

/-! From a walk of a law to what its row asks. -/
theorem Does.calls {f : FuncId} {args : List Value} {ps : List Pf} (h : Does P f args ps [] (fun _ : Unit => .bool true) (fun _ => []) (fun _ => [])) (w : World) (hps : AllP (fun k => k < w.heap.size) w ps) :
    Calls P f args.toArray w fun e w' => e = .returned (.bool true) ∧ Upd (fun _ => False) w w' := by
  refine (h.run w (fun k => k < w.heap.size) ⟨w, fun _ => False, fun k => k < w.heap.size⟩ ⟨Upd.refl _ _, fun _ h => h, fun k h _ => .inl h, hps, no_r, by simp, by simp, by simp⟩).mono ?_
  rintro e w' ⟨_, he, F', s⟩
  exact ⟨he, s.upd.mono (fun k _ hk => absurd hk feet_nil)⟩
theorem all_nil {F : Nat → Prop} {w : World} : AllP F w [] := no_p
theorem all_cons {F : Nat → Prop} {w : World} {p : Pf} {l : List Pf} (h : p.says F w) (hl : AllP F w l) : AllP F w (p :: l) := fun q hq => by
  rcases List.mem_cons.1 hq with rfl | hq
  · exact h
  · exact hl q hq
/-- A slice that comes in. -/
theorem sl_in {F : Nat → Prop} {w : World} {α : Type} {e : Ty α} {s : Option Addr} {k c : Nat} {x : List α} (z : (Ty.slice e).rd F w (Value.slice s k c).cells.toList x) : k = x.length ∧ (Sl e s c x).says F w := by
  obtain ⟨ao, cap, he, h1, h2, h3⟩ := z
  have : [Value.slice s k c] = [Value.slice ao x.length cap] := he
  simp at this
  obtain ⟨rfl, rfl, rfl⟩ := this
  exact ⟨rfl, h1, h2, h3⟩
theorem ag_in {F : Nat → Prop} {w : World} {α : Type} {e : Ty α} {cs : Array Value} {x : α} (z : e.rd F w (Value.agg cs).cells.toList x) : (Ag e cs.toList x).says F w := z
end
end Go.GX

/- How what comes in reads, with what the form's reach says of its slices' lengths. No program in sight. -/
namespace Go.GX
open Go Go.RowKit Go.RR Go.RX
section
variable {P : Program}
def LeR {H : Type} (P : Program) (t : TypeId) (d : DataW H) : Prop := ∀ n ∈ d.weights P t, n ≤ reachBytes
def ConvW (P : Program) (t : TypeId) {α : Type} (e : Ty α) (ok : α → Prop) : Prop :=
  ∀ {H : Type} (enc : TypeId × Value → H) (w : World) (spare : Nat → Bool) (held : Bool) (fuel : Nat) (cs : List Value) (x : DataW H × List MemPlace),
    DataW.trod enc P w 0 spare held fuel t cs = some x → LeR P t x.1 → ∃ y, e.rd (fun k => k < w.heap.size) w cs y ∧ ok y
theorem convW_of {t : TypeId} {α : Type} {e : Ty α} {ok : α → Prop} (h : Conv P t e ok) : ConvW P t e ok := fun enc w spare held fuel cs x hx _ => h enc w spare held fuel cs x hx
theorem weights_mem_all {H : Type} {e : TypeId} : ∀ {l : List (DataW H)} {d : DataW H}, d ∈ l → ∀ n ∈ d.weights P e, n ∈ DataW.weightsAll P e l
  | x :: l, d, hd, n, hn => by
    simp only [DataW.weightsAll, List.mem_append]
    rcases List.mem_cons.1 hd with rfl | hd
    · exact .inl hn
    · exact .inr (weights_mem_all hd n hn)
theorem convW_slice {t et : TypeId} {α : Type} {e : Ty α} {ok : α → Prop} (ht : P.underlying t = some (.slice et)) (hs : P.cellsOf et = e.size) (hp : 0 < e.size) (he : ConvW P et e ok) : ConvW P t (Ty.slice e) (fun l => (∀ x ∈ l, ok x) ∧ l.length * P.bytesOf et ≤ reachBytes) := by
  intro H enc w spare held fuel cs x hx hw
  rcases Go.Deep.open_slice ht hx with ⟨rfl, _⟩ | ⟨a, len, cap, m, n, D, Pl, rfl, _, hl, hm, hmm, rfl, hel⟩
  · exact ⟨[], ⟨none, 0, rfl, by simp, by omega, fun i x hx => by simp at hx⟩, by simp, by simp⟩
  · have hml : len ≤ m := by rw [hmm]; split <;> omega
    have hwt : ∀ k, k ∈ ((((List.range len).map D).length + ((List.range (m - len)).map fun j => D (len + j)).length) * P.bytesOf et :: (DataW.weightsAll P et ((List.range len).map D) ++ DataW.weightsAll P et ((List.range (m - len)).map fun j => D (len + j)))) → k ≤ reachBytes := fun k hk => hw k (by simpa only [DataW.weights, ht] using hk)
    have hlen : len * P.bytesOf et ≤ reachBytes := by
      have h1 := hwt _ List.mem_cons_self
      simp only [List.length_map, List.length_range] at h1
      exact Nat.le_trans (Nat.mul_le_mul_right _ (by omega)) h1
    obtain ⟨l, hll, hlp⟩ := choose_list (α := α × List Value) (p := fun i q => w.cells? 0 (a.add (i * e.size)) e.size = some q.2 ∧ e.rd (fun k => k < w.heap.size) w q.2 q.1 ∧ ok q.1) len (fun i hi => by
      obtain ⟨cs', h1, h2⟩ := hel i (by omega)
      have hD : LeR P et (D i) := fun k hk => hwt k (List.mem_cons_of_mem _ (List.mem_append_left _ (weights_mem_all (List.mem_map.2 ⟨i, List.mem_range.2 hi, rfl⟩) k hk)))
      obtain ⟨y, hy⟩ := he enc w spare held n cs' _ h2 hD
      rw [hs] at h1
      exact ⟨(y, cs'), h1, hy⟩)
    refine ⟨l.map (·.1), ⟨some a, cap, by simp [hll], by simp [hll, hl], by simp only [maxLen] at hm; omega, fun i x hx => ?_⟩, fun x hx => ?_, by rw [List.length_map, hll]; exact hlen⟩
    · rw [List.getElem?_map] at hx
      obtain ⟨⟨y, cs'⟩, hq, rfl⟩ := Option.map_eq_some_iff.1 hx
      obtain ⟨h1, h2, _⟩ := hlp i _ hq
      dsimp only at h1 h2 ⊢
      have hi : i < len := by have := (List.getElem?_eq_some_iff.1 hq).1; omega
      obtain ⟨_, hlen, hc⟩ := World.cells?_some h1
      have hspot : a.spot = none := by
        obtain ⟨cs0, g1, g2⟩ := hel 0 (by omega)
        rw [hs] at g1
        obtain ⟨_, g3, g4⟩ := World.cells?_some g1
        have := g4 0 (by omega)
        simp only [Nat.zero_mul, Addr.add_zero'] at this
        have g5 : cs0[0]? = some cs0[0] := List.getElem?_eq_getElem (by omega)
        cases hsp : a.spot with
        | none => rfl
        | some q =>
          exfalso
          have h6 : w.cell? a = some cs0[0] := by simpa [g5] using this
          unfold World.cell? at h6
          split at h6
          · simp [hsp] at h6
          · cases h6
      obtain ⟨b, o, sp⟩ := a
      dsimp only at hspot
      subst hspot
      have hcell : CellsAt w b (o + i * e.size) cs' := fun j c hj => by
        have hjl : j < e.size := by have := (List.getElem?_eq_some_iff.1 hj).1; omega
        have := hc j (by omega)
        rw [Addr.add_lit, Addr.add_lit] at this
        rw [this, hj]
      have h0 : cs'[0]? = some cs'[0] := List.getElem?_eq_getElem (by omega)
      have hb := cell_lt (hcell 0 _ h0)
      exact ⟨b, o, cs', rfl, hb, hb, hcell, h2⟩
    · obtain ⟨q, hq, rfl⟩ := List.mem_map.1 hx
      obtain ⟨i, hi⟩ := List.getElem?_of_mem hq
      exact (hlp i q hi).2.2
def ConvWF (P : Program) (fs : List Field) (off : Nat) {α : Type} (r : Ty α) (ok : α → Prop) : Prop :=
  ∀ {H : Type} (enc : TypeId × Value → H) (w : World) (spare : Nat → Bool) (held : Bool) (fuel : Nat) (cs : List Value) (xs : List (DataW H × List MemPlace)),
    off + r.size = cs.length → fs.mapM (fun f => DataW.trod enc P w 0 spare held fuel f.type ((cs.drop f.offset).take (P.cellsOf f.type))) = some xs →
    (∀ n ∈ DataW.weightsEach P (fs.map (·.type)) (xs.map (·.1)), n ≤ reachBytes) → ∃ y, r.rd (fun k => k < w.heap.size) w (cs.drop off) y ∧ ok y
theorem convWF_nil {off : Nat} : ConvWF P [] off Ty.unit (fun _ => True) := by
  intro H enc w spare held fuel cs xs hl _ _
  exact ⟨(), by simp [Ty.unit] at hl ⊢; omega, trivial⟩
theorem convWF_cons {f : Field} {fs : List Field} {off : Nat} {α β : Type} {r : Ty α} {s : Ty β} {ok1 : α → Prop} {ok2 : β → Prop} (ho : f.offset = off) (hs : P.cellsOf f.type = r.size) (h1 : ConvW P f.type r ok1) (h2 : ConvWF P fs (off + r.size) s ok2) : ConvWF P (f :: fs) off (Ty.pair r s) (fun x => ok1 x.1 ∧ ok2 x.2) := by
  intro H enc w spare held fuel cs xs hl hx hw
  rw [List.mapM_cons] at hx
  cases hy : DataW.trod enc P w 0 spare held fuel f.type ((cs.drop f.offset).take (P.cellsOf f.type)) with
  | none => rw [hy] at hx; simp at hx
  | some y =>
    rw [hy] at hx
    cases hz : fs.mapM (fun f => DataW.trod enc P w 0 spare held fuel f.type ((cs.drop f.offset).take (P.cellsOf f.type))) with
    | none => rw [hz] at hx; simp at hx
    | some zs =>
      rw [hz] at hx
      simp only [bind, Option.bind_some, pure, Option.some.injEq] at hx
      subst hx
      simp only [List.map_cons, DataW.weightsEach, List.mem_append] at hw
      obtain ⟨u, hu, ou⟩ := h1 enc w spare held fuel _ _ hy fun n hn => hw n (.inl hn)
      obtain ⟨v, hv, ov⟩ := h2 enc w spare held fuel cs zs (by simp only [Ty.pair] at hl; omega) hz fun n hn => hw n (.inr hn)
      rw [ho, hs] at hu
      refine ⟨(u, v), ⟨_, _, ?_, hu, hv⟩, ou, ov⟩
      rw [← List.drop_drop, List.take_append_drop]
theorem convW_struct {t : TypeId} {fs : Array Field} {l : List Field} {α : Type} {r : Ty α} {ok : α → Prop} (ht : P.underlying t = some (.struct fs)) (hl : fs.toList = l) (hs : P.cellsOf t = r.size) (h : ConvWF P l 0 r ok) : ConvW P t r ok := by
  intro H enc w spare held fuel cs x hx hw
  subst hl
  cases fuel with
  | zero => simp [DataW.trod] at hx
  | succ n =>
    unfold DataW.trod at hx
    rw [ht] at hx
    simp only at hx
    split at hx
    · rename_i hl
      obtain ⟨xs, hxs, rfl⟩ := Option.map_eq_some_iff.1 hx
      have := h enc w spare held n cs xs (by omega) hxs fun k hk => hw k (by simpa only [DataW.weights, ht] using hk)
      simpa using this
    · cases hx
theorem convW_co {t : TypeId} {α β : Type} {r : Ty α} {ok : α → Prop} {g : β → α} {ok' : β → Prop} (inv : α → β) (h1 : ∀ x, g (inv x) = x) (h2 : ∀ x, ok x → ok' (inv x)) (h : ConvW P t r ok) : ConvW P t (Ty.co r g) ok' := by
  intro H enc w spare held fuel cs x hx hw
  obtain ⟨y, hy, ho⟩ := h enc w spare held fuel cs x hx hw
  exact ⟨inv y, by show r.rd _ _ _ (g (inv y)); rw [h1]; exact hy, h2 y ho⟩
end
end Go.GX
