/- The walks over Uses, Def of the reference of chapter 15. -/
import Derived.Test.YtnpbadghodkhlaaRFlow
import Derived.Test.YtnpbadghodkhlaaLivMath
import Derived.Test.YtnpbadghodkhlaaGWalk
namespace Go.Proofs.Ytnpbadghodkhlaa
open Go Go.RR Go.RX Go.GX Go.Api Go.FlowM Go.RiseM Go.LivM
attribute [local irreducible] wpList Code.wp wpPlan Exit.then Exit.inBlock bodyPost NoPanic Went GX.Post GX.Again GX.Meet GX.RowR GX.Own GX.Owns GX.Box GX.Sl GX.Pt GX.Ag GX.MapR GX.Kept GX.Pin wpT GoK AtEnd Both

set_option maxHeartbeats 2000000 in
theorem rdef_spec (cs : List Value) (x : Ins) : Does Try.prog 16 [.agg cs.toArray] [Ag tyIns cs x] [] (fun _ : Unit => .int .i64 (def_ x)) (fun _ => []) (fun _ => []) := by
  refine enter Try.func16 rfl Try.ntmps16 rfl fun b => ?_
  refine GX.wR ?_; intros
  refine GX.nmP 1 ?_; rintro b1 rfl
  refine GX.cut (σ := Bool) (fun q => [(1, .pointer (some ⟨b1, 0, none⟩)), (4, .int .i64 x.op), (5, .bool q)]) (fun _ => []) (fun _ => []) (fun q => q = decide (Sets x.op)) ?_ (fun q hq => ?_)
  · by_cases e1 : x.op = 1
    · refine GX.wR ?_; intros
      exact meet _ ⟨rfl, rfl, rfl, trivial⟩ (by simp [Sets, e1])
    by_cases e2 : x.op = 2
    · refine GX.wR ?_; intros
      exact meet _ ⟨rfl, rfl, rfl, trivial⟩ (by simp [Sets, e2])
    by_cases e3 : x.op = 3
    · refine GX.wR ?_; intros
      exact meet _ ⟨rfl, rfl, rfl, trivial⟩ (by simp [Sets, e3])
    by_cases e4 : x.op = 4
    · refine GX.wR ?_; intros
      exact meet _ ⟨rfl, rfl, rfl, trivial⟩ (by simp [Sets, e4])
    by_cases e5 : x.op = 5
    · refine GX.wR ?_; intros
      exact meet _ ⟨rfl, rfl, rfl, trivial⟩ (by simp [Sets, e5])
    by_cases e6 : x.op = 6
    · refine GX.wR ?_; intros
      exact meet _ ⟨rfl, rfl, rfl, trivial⟩ (by simp [Sets, e6])
    by_cases e8 : x.op = 8
    · refine GX.wR ?_; intros
      exact meet _ ⟨rfl, rfl, rfl, trivial⟩ (by simp [Sets, e8])
    by_cases e10 : x.op = 10
    · refine GX.wR ?_; intros
      exact meet _ ⟨rfl, rfl, rfl, trivial⟩ (by simp [Sets, e10])
    by_cases e11 : x.op = 11
    · refine GX.wR ?_; intros
      exact meet _ ⟨rfl, rfl, rfl, trivial⟩ (by simp [Sets, e11])
    by_cases e12 : x.op = 12
    · refine GX.wR ?_; intros
      exact meet _ ⟨rfl, rfl, rfl, trivial⟩ (by simp [Sets, e12])
    by_cases e13 : x.op = 13
    · refine GX.wR ?_; intros
      exact meet _ ⟨rfl, rfl, rfl, trivial⟩ (by simp [Sets, e13])
    by_cases e14 : x.op = 14
    · refine GX.wR ?_; intros
      exact meet _ ⟨rfl, rfl, rfl, trivial⟩ (by simp [Sets, e14])
    by_cases e19 : x.op = 19
    · refine GX.wR ?_; intros
      exact meet _ ⟨rfl, rfl, rfl, trivial⟩ (by simp [Sets, e19])
    refine GX.wR ?_; intros
    exact meet _ ⟨rfl, rfl, rfl, trivial⟩ (by simp [Sets, e1, e2, e3, e4, e5, e6, e8, e10, e11, e12, e13, e14, e19])
  by_cases hs : Sets x.op
  · have hq1 : q = true := by rw [hq]; exact decide_eq_true hs
    by_cases hv : In 4000 x.a
    · rw [show def_ x = x.a from if_pos ⟨hs, hv⟩]
      obtain ⟨hv1, hv2⟩ := hv
      refine GX.wR ?_; intros
      exact rt1 () rfl
    · rw [show def_ x = -1 from if_neg fun h => hv h.2]
      by_cases hv1 : 0 ≤ x.a
      · have hv2 : ¬ x.a < 4000 := fun h => hv ⟨hv1, h⟩
        refine GX.wR ?_; intros
        exact rt1 () rfl
      · refine GX.wR ?_; intros
        exact rt1 () rfl
  · have hq1 : q = false := by rw [hq]; exact decide_eq_false hs
    rw [show def_ x = -1 from if_neg fun h => hs h.1]
    refine GX.wR ?_; intros
    exact rt1 () rfl
def cur (x : Ins) (i : Nat) : List Int := puts (((asks x).take i).filter fun y => decide (In 4000 y))
theorem cur_rise (x : Ins) (i : Nat) : Rise (cur x i) := (puts_spec _).1
theorem cur_len (x : Ins) (i : Nat) : (cur x i).length ≤ 4000 := rise_len _ 0 4000 (cur_rise x i) fun v hv => by
  have := (puts_spec _).2 v |>.1 hv
  rw [List.mem_filter, decide_eq_true_iff] at this
  have := this.2
  omega
theorem cur_succ {x : Ins} {i : Nat} {y : Int} (h : (asks x)[i]? = some y) : cur x (i + 1) = if In 4000 y then put (cur x i) y else cur x i := by
  unfold cur
  rw [List.take_add_one, h, List.filter_append]
  split
  · rename_i hy
    rw [show (some y).toList.filter (fun y => decide (In 4000 y)) = [y] by obtain ⟨h1, h2⟩ := hy; have h2 : y < 4000 := h2; simp [h1, h2], puts_snoc]
  · rename_i hy
    rw [show (some y).toList.filter (fun y => decide (In 4000 y)) = [] by have hy2 : ¬ (0 ≤ y ∧ y < 4000) := fun h => hy ⟨h.1, h.2⟩; simp; omega, List.append_nil]
theorem cur_all (x : Ins) : cur x (asks x).length = uses x := by unfold cur uses; rw [List.take_length]
set_option maxHeartbeats 2000000 in
theorem ruses_spec (cs : List Value) (x : Ins) : Does Try.prog 14 [.agg cs.toArray] [Ag tyIns cs x] [] (fun s : Option Addr × Nat => .slice s.1 (uses x).length s.2) (fun s => [Sl Ty.int s.1 s.2 (uses x)]) (fun _ => []) := by
  refine enter Try.func14 rfl Try.ntmps14 rfl fun b => ?_
  refine GX.wRB ?_; intros
  refine GX.cut (σ := Option Addr × Nat) (fun q => [(3, .slice q.1 (asks x).length q.2)]) (fun q => [Sl Ty.int q.1 q.2 (asks x)]) (fun _ => []) (fun _ => True) ?_ (fun q _ => ?_)
  · by_cases e3 : x.op = 3
    · rw [show asks x = [x.b] by simp [asks, e3]]
      refine GX.wR ?_; intros
      exact meet (_, _) ⟨rfl, trivial⟩ trivial
    by_cases e5 : x.op = 5
    · rw [show asks x = [x.b] by simp [asks, e5]]
      refine GX.wR ?_; intros
      exact meet (_, _) ⟨rfl, trivial⟩ trivial
    by_cases e6 : x.op = 6
    · rw [show asks x = [x.b] by simp [asks, e6]]
      refine GX.wR ?_; intros
      exact meet (_, _) ⟨rfl, trivial⟩ trivial
    by_cases e10 : x.op = 10
    · rw [show asks x = [x.b] by simp [asks, e10]]
      refine GX.wR ?_; intros
      exact meet (_, _) ⟨rfl, trivial⟩ trivial
    by_cases e12 : x.op = 12
    · rw [show asks x = [x.b] by simp [asks, e12]]
      refine GX.wR ?_; intros
      exact meet (_, _) ⟨rfl, trivial⟩ trivial
    by_cases e4 : x.op = 4
    · rw [show asks x = [x.b, x.c] by simp [asks, e4]]
      refine GX.wR ?_; intros
      exact meet (_, _) ⟨rfl, trivial⟩ trivial
    by_cases e8 : x.op = 8
    · rw [show asks x = [x.b, x.c] by simp [asks, e8]]
      refine GX.wR ?_; intros
      exact meet (_, _) ⟨rfl, trivial⟩ trivial
    by_cases e7 : x.op = 7
    · rw [show asks x = [x.a, x.b] by simp [asks, e7]]
      refine GX.wR ?_; intros
      exact meet (_, _) ⟨rfl, trivial⟩ trivial
    by_cases e9 : x.op = 9
    · rw [show asks x = [x.a, x.b, x.c] by simp [asks, e9]]
      refine GX.wR ?_; intros
      exact meet (_, _) ⟨rfl, trivial⟩ trivial
    by_cases e13 : x.op = 13
    · rw [show asks x = x.args by simp [asks, e13]]
      refine GX.wR ?_; intros
      exact meet (_, _) ⟨rfl, trivial⟩ trivial
    by_cases e15 : x.op = 15
    · rw [show asks x = [x.a] by simp [asks, e15]]
      refine GX.wR ?_; intros
      exact meet (_, _) ⟨rfl, trivial⟩ trivial
    by_cases e17 : x.op = 17
    · rw [show asks x = [x.a] by simp [asks, e17]]
      refine GX.wR ?_; intros
      exact meet (_, _) ⟨rfl, trivial⟩ trivial
    by_cases e18 : x.op = 18
    · rw [show asks x = [x.a] by simp [asks, e18]]
      refine GX.wR ?_; intros
      exact meet (_, _) ⟨rfl, trivial⟩ trivial
    by_cases e20 : x.op = 20
    · rw [show asks x = [x.a] by simp [asks, e20]]
      refine GX.wR ?_; intros
      exact meet (_, _) ⟨rfl, trivial⟩ trivial
    rw [show asks x = [] by simp [asks, e3, e5, e6, e10, e12, e4, e8, e7, e9, e13, e15, e17, e18, e20]]
    refine GX.wR ?_; intros
    refine slNil Ty.int ?_
    exact meet (none, 0) ⟨rfl, trivial⟩ trivial
  obtain ⟨aL, cL⟩ := q
  dsimp only
  refine sln aL fun hl1 hl2 _ => ?_
  refine GX.wR ?_; intros
  refine slNil Ty.int ?_
  refine GX.loop (σ := Nat × (Option Addr × Nat)) (fun q => [(3, .slice aL (asks x).length cL), (4, .slice q.2.1 (cur x q.1).length q.2.2), (5, .int .i64 (q.1 : Int))]) (fun q => [Sl Ty.int q.2.1 q.2.2 (cur x q.1)]) (fun _ => [])
    (fun q => q.1 ≤ (asks x).length) (fun q => (asks x).length - q.1) (0, (none, 0)) ⟨rfl, rfl, rfl, trivial⟩ (Nat.zero_le _) (fun q hq => ?_)
  obtain ⟨i, a, c⟩ := q
  dsimp only at *
  by_cases hlt : i < (asks x).length
  · obtain ⟨y, hy⟩ := get_lt hlt
    have e := cur_succ hy
    have hcl := cur_len x i
    by_cases h1 : 0 ≤ y
    · by_cases h2 : y < 4000
      · rw [if_pos ⟨h1, h2⟩] at e
        refine GX.wR ?_; intros
        refine GX.o (cl (put_spec a c (cur x i) y (cur_rise x i) (by omega)) fun s => ?_)
        obtain ⟨a2, c2⟩ := s
        dsimp only
        rw [← e]
        refine GX.wR ?_; intros
        exact again (i + 1, (a2, c2)) ⟨rfl, rfl, rfl, trivial⟩ (by dsimp only; omega) (by dsimp only; omega)
      · rw [if_neg fun h => h2 h.2] at e
        refine GX.wR ?_; intros
        exact again (i + 1, (a, c)) ⟨rfl, by rw [e]; rfl, rfl, trivial⟩ (by dsimp only; omega) (by dsimp only; omega) (h1 := by dsimp only; rw [e]; ((repeat (first | apply Go.GX.AllIn.nil | apply Go.GX.AllIn.cons | (with_reducible apply Go.GX.InP.head) | apply Go.GX.InP.tail)); done))
    · rw [if_neg fun h => h1 h.1] at e
      refine GX.wR ?_; intros
      exact again (i + 1, (a, c)) ⟨rfl, by rw [e]; rfl, rfl, trivial⟩ (by dsimp only; omega) (by dsimp only; omega) (h1 := by dsimp only; rw [e]; ((repeat (first | apply Go.GX.AllIn.nil | apply Go.GX.AllIn.cons | (with_reducible apply Go.GX.InP.head) | apply Go.GX.InP.tail)); done))
  · have hi : i = (asks x).length := by omega
    subst hi
    rw [cur_all]
    refine GX.wR ?_; intros
    exact rt1 (_, _) rfl
end Go.Proofs.Ytnpbadghodkhlaa
