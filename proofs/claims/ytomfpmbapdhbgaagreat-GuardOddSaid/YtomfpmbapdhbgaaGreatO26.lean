import Derived.Test.YtomfpmbapdhbgaaGreatO10
import Derived.Test.YtomfpmbapdhbgaaGreatO13
import Derived.Test.YtomfpmbapdhbgaaGreatO14
import Derived.Test.YtomfpmbapdhbgaaGreatO16
import Derived.Test.YtomfpmbapdhbgaaGreatO17
import Derived.Test.YtomfpmbapdhbgaaGreatO24
import Derived.Test.YtomfpmbapdhbgaaGreatO25
/- The walks over package rt: fits. -/
namespace Go.Proofs.YtomfpmbapdhbgaaGreat
open Go Go.RR Go.RX Go.GX Go.Api Go.RiseM Go.ReachM Go.RtM
attribute [local irreducible] wpList Code.wp wpPlan Exit.then Exit.inBlock bodyPost NoPanic Went GX.Post GX.Again GX.Meet GX.RowR GX.Own GX.Owns GX.Box GX.Sl GX.Pt GX.Ag GX.MapR GX.Kept GX.Pin wpT GoK AtEnd Both

set_option maxHeartbeats 1000000 in
theorem fits_spec (cs : List Value) (v : RtView) : Does Tryz.prog 75 [.agg cs.toArray] [Ag tyRtView cs v] []
    (fun _ : Unit => .bool (decide (Fits v.t v.u v.i))) (fun _ => []) (fun _ => []) := by
  refine enter Tryz.func75 rfl Tryz.ntmps75 rfl fun b => ?_
  by_cases h1 : v.i.op = 1 ∨ v.i.op = 14 ∨ v.i.op = 15
  · have e : Fits v.t v.u v.i ↔ RtM.of v.u v.i.a = -2 := by unfold Fits; rw [if_pos h1]
    rcases h1 with h1 | h1 | h1
    · refine GX.wR ?_; intros
      refine GX.o (cl (plain_spec _ v _ _ _ [v.i.a] rfl) fun _ => ?_)
      refine GX.wR ?_; intros
      exact rt1 () (vI (e.trans plain1.symm))
    · refine GX.wR ?_; intros
      refine GX.o (cl (plain_spec _ v _ _ _ [v.i.a] rfl) fun _ => ?_)
      refine GX.wR ?_; intros
      exact rt1 () (vI (e.trans plain1.symm))
    · refine GX.wR ?_; intros
      refine GX.o (cl (plain_spec _ v _ _ _ [v.i.a] rfl) fun _ => ?_)
      refine GX.wR ?_; intros
      exact rt1 () (vI (e.trans plain1.symm))
  have n1 : v.i.op ≠ 1 := fun h => h1 (.inl h)
  have n14 : v.i.op ≠ 14 := fun h => h1 (.inr (.inl h))
  have n15 : v.i.op ≠ 15 := fun h => h1 (.inr (.inr h))
  by_cases h2 : v.i.op = 2
  · have e : Fits v.t v.u v.i ↔ IsRef (RtM.of v.u v.i.a) := by unfold Fits; rw [if_neg h1, if_pos h2]
    refine GX.wR ?_; intros
    refine GX.o (cl (refs_spec _ v _ _ _ [v.i.a] rfl) fun _ => ?_)
    refine GX.wR ?_; intros
    exact rt1 () (vI (e.trans refs1.symm))
  by_cases h3 : v.i.op = 3
  · have e : Fits v.t v.u v.i ↔ Into (RtM.of v.u v.i.a) (RtM.of v.u v.i.b) := by unfold Fits; rw [if_neg h1, if_neg h2, if_pos h3]
    refine GX.wR ?_; intros
    refine GX.nmP 3 ?_; rintro b3 rfl
    refine frzB b3 ?_
    refine GX.drawn0  (fun j => !(List.contains [7, 8] j)) [(0, true), (1, true), (2, true), (4, true), (5, true), (6, true), (3, false), (7, false), (8, false), (9, true)] rfl (by kernel_rfl) (by kernel_rfl) (by first | ((repeat (first | apply Go.GX.SelR.nil | apply Go.GX.SelR.cons | (with_reducible apply Go.GX.TakeR.head) | apply Go.GX.TakeR.tail)); done) | (repeat (first | apply Go.GX.SelR.nil | apply Go.GX.SelR.cons | apply Go.GX.TakeR.head | apply Go.GX.TakeR.tail))) ?_; intro wd F hW hR
    refine GX.wT ?_; intros
    refine GX.gow ?_
    refine (cl (of_spec _ v v.i.a) fun _ => ?_)
    refine GX.wT ?_; intros
    refine GX.gow ?_
    refine (cl (of_spec _ v v.i.b) fun _ => ?_)
    refine GX.wT ?_; intros
    refine GX.gow ?_
    refine (cl (into_spec _ _) fun _ => ?_)
    refine GX.wT ?_; intros
    refine GX.wR ?_; intros
    exact rt1 () (vI e)
  by_cases h4 : v.i.op = 4
  · have e : Fits v.t v.u v.i ↔ Two v.u v.i := by unfold Fits; rw [if_neg h1, if_neg h2, if_neg h3, if_pos h4]
    refine GX.wR ?_; intros
    refine GX.o (cl (two_spec _ v) fun _ => ?_)
    refine GX.wR ?_; intros
    exact rt1 () (vI e)
  by_cases h5 : v.i.op = 5
  · have e : Fits v.t v.u v.i ↔ (v.i.n = 12 ∨ v.i.n = 13) ∧ RtM.of v.u v.i.a = -2 ∧ RtM.of v.u v.i.b = -2 := by unfold Fits; rw [if_neg h1, if_neg h2, if_neg h3, if_neg h4, if_pos h5]
    by_cases g1 : v.i.n = 12
    · refine GX.wR ?_; intros
      refine GX.o (cl (plain_spec _ v _ _ _ [v.i.a, v.i.b] rfl) fun _ => ?_)
      refine GX.wR ?_; intros
      exact rt1 () (vI (e.trans ⟨fun h => plain2.2 h.2, fun h => ⟨.inl g1, plain2.1 h⟩⟩))
    · by_cases g2 : v.i.n = 13
      · refine GX.wR ?_; intros
        refine GX.o (cl (plain_spec _ v _ _ _ [v.i.a, v.i.b] rfl) fun _ => ?_)
        refine GX.wR ?_; intros
        exact rt1 () (vI (e.trans ⟨fun h => plain2.2 h.2, fun h => ⟨.inr g2, plain2.1 h⟩⟩))
      · refine GX.wR ?_; intros
        exact rt1 () (vN fun h => (e.1 h).1.elim g1 g2)
  by_cases h6 : v.i.op = 6
  · have e : Fits v.t v.u v.i ↔ Loads v.t v.u v.i.a v.i.b false v.i.c := by unfold Fits; rw [if_neg h1, if_neg h2, if_neg h3, if_neg h4, if_neg h5, if_pos h6]
    refine GX.wR ?_; intros
    refine GX.o (cl (loads_spec _ v _ _ _ _) fun _ => ?_)
    refine GX.wR ?_; intros
    exact rt1 () (vI e)
  by_cases h7 : v.i.op = 7
  · have e : Fits v.t v.u v.i ↔ Lays v.t v.u v.i.a false v.i.c v.i.b := by unfold Fits; rw [if_neg h1, if_neg h2, if_neg h3, if_neg h4, if_neg h5, if_neg h6, if_pos h7]
    refine GX.wR ?_; intros
    refine GX.o (cl (lays_spec _ v _ _ _ _) fun _ => ?_)
    refine GX.wR ?_; intros
    exact rt1 () (vI e)
  by_cases h8 : v.i.op = 8
  · have e : Fits v.t v.u v.i ↔ RtM.of v.u v.i.c = -2 ∧ Loads v.t v.u v.i.a v.i.b true 0 := by unfold Fits; rw [if_neg h1, if_neg h2, if_neg h3, if_neg h4, if_neg h5, if_neg h6, if_neg h7, if_pos h8]
    refine GX.wR ?_; intros
    refine GX.o (cl (plain_spec _ v _ _ _ [v.i.c] rfl) fun _ => ?_)
    by_cases g1 : Plain v.u [v.i.c]
    · refine GX.wR ?_; intros
      refine GX.o (cl (loads_spec _ v _ _ _ _) fun _ => ?_)
      refine GX.wR ?_; intros
      exact rt1 () (vI (e.trans ⟨fun h => h.2, fun h => ⟨plain1.1 g1, h⟩⟩))
    · refine GX.wR ?_; intros
      exact rt1 () (vN fun h => g1 (plain1.2 (e.1 h).1))
  by_cases h9 : v.i.op = 9
  · have e : Fits v.t v.u v.i ↔ RtM.of v.u v.i.b = -2 ∧ Lays v.t v.u v.i.a true 0 v.i.c := by unfold Fits; rw [if_neg h1, if_neg h2, if_neg h3, if_neg h4, if_neg h5, if_neg h6, if_neg h7, if_neg h8, if_pos h9]
    refine GX.wR ?_; intros
    refine GX.o (cl (plain_spec _ v _ _ _ [v.i.b] rfl) fun _ => ?_)
    by_cases g1 : Plain v.u [v.i.b]
    · refine GX.wR ?_; intros
      refine GX.o (cl (lays_spec _ v _ _ _ _) fun _ => ?_)
      refine GX.wR ?_; intros
      exact rt1 () (vI (e.trans ⟨fun h => h.2, fun h => ⟨plain1.1 g1, h⟩⟩))
    · refine GX.wR ?_; intros
      exact rt1 () (vN fun h => g1 (plain1.2 (e.1 h).1))
  by_cases h10 : v.i.op = 10
  · have e : Fits v.t v.u v.i ↔ (cell v.t v.u v.i.b true 0).2.2 = true ∧ RtM.of v.u v.i.a = -2 := by unfold Fits; rw [if_neg h1, if_neg h2, if_neg h3, if_neg h4, if_neg h5, if_neg h6, if_neg h7, if_neg h8, if_neg h9, if_pos h10]
    refine GX.wR ?_; intros
    refine GX.o (cl (length_spec _ v) fun _ => ?_)
    refine GX.wR ?_; intros
    exact rt1 () (vI e)
  by_cases h11 : v.i.op = 11
  · have e : Fits v.t v.u v.i ↔ Fresh v.t v.u v.i false := by unfold Fits; rw [if_neg h1, if_neg h2, if_neg h3, if_neg h4, if_neg h5, if_neg h6, if_neg h7, if_neg h8, if_neg h9, if_neg h10, if_pos h11]
    refine GX.wR ?_; intros
    refine GX.o (cl (fresh_spec _ v _) fun _ => ?_)
    refine GX.wR ?_; intros
    exact rt1 () (vI e)
  by_cases h12 : v.i.op = 12
  · have e : Fits v.t v.u v.i ↔ Fresh v.t v.u v.i true ∧ RtM.of v.u v.i.b = -2 := by unfold Fits; rw [if_neg h1, if_neg h2, if_neg h3, if_neg h4, if_neg h5, if_neg h6, if_neg h7, if_neg h8, if_neg h9, if_neg h10, if_neg h11, if_pos h12]
    refine GX.wR ?_; intros
    refine GX.o (cl (fresh_spec _ v _) fun _ => ?_)
    by_cases g1 : Fresh v.t v.u v.i true
    · refine GX.wR ?_; intros
      refine GX.o (cl (plain_spec _ v _ _ _ [v.i.b] rfl) fun _ => ?_)
      refine GX.wR ?_; intros
      exact rt1 () (vI (e.trans ⟨fun h => plain1.2 h.2, fun h => ⟨g1, plain1.1 h⟩⟩))
    · refine GX.wR ?_; intros
      exact rt1 () (vN fun h => g1 (e.1 h).1)
  have e : Fits v.t v.u v.i ↔ Goes v.t v.u v.i := by unfold Fits; rw [if_neg h1, if_neg h2, if_neg h3, if_neg h4, if_neg h5, if_neg h6, if_neg h7, if_neg h8, if_neg h9, if_neg h10, if_neg h11, if_neg h12]
  refine GX.wR ?_; intros
  refine GX.o (cl (goes_spec _ v) fun _ => ?_)
  refine GX.wR ?_; intros
  exact rt1 () (vI e)
end Go.Proofs.YtomfpmbapdhbgaaGreat

/- How a view of package rt is built. -/
namespace Go.Proofs.YtomfpmbapdhbgaaGreat
open Go Go.RowKit Go.RR Go.RX Go.GX Go.Api

theorem build_view (w : World) (a0 a1 a2 a3 b0 b1 b2 b3 b4 b5 c0 c1 c2 c3 c4 c5 : Value) :
    (Instr.build 101 #[(0, .agg #[a0, a1, a2, a3]), (1, .agg #[b0, b1, b2, b3, b4, b5]), (2, .agg #[c0, c1, c2, c3, c4, c5])]).run Tryz.prog w = .ok (.agg #[a0, a1, a2, a3, b0, b1, b2, b3, b4, b5, c0, c1, c2, c3, c4, c5]) w := by
  simp [Instr.build, Instr.fill, Value.cells] <;> rfl
theorem list4 {cs : List Value} (h : cs.length = 4) : ∃ a b c d, cs = [a, b, c, d] := by
  match cs, h with
  | [a, b, c, d], _ => exact ⟨a, b, c, d, rfl⟩
theorem list6 {cs : List Value} (h : cs.length = 6) : ∃ a b c d e f, cs = [a, b, c, d, e, f] := by
  match cs, h with
  | [a, b, c, d, e, f], _ => exact ⟨a, b, c, d, e, f, rfl⟩
theorem bdv {n : Nat} {env : Env} {b : Base} {ps : List Pf} {hp : List Res} {Q : Exit → Act → World → Prop} {K : Act → World → Prop} {d : Nat} {ty : TypeId} {pos : String} {aft : Array Edge} {gd : Option (Nat × Bool)} {x y z : Operand} {c1 c2 c3 : List Value} {t : RTg} {u : Unt} {i : Ins}
    (h : ∀ cs : List Value, G n ((d, .agg cs.toArray) :: env) b (Ag tyRtView cs ⟨t, u, i⟩ :: ps) hp K) (hx : ev env x = some (.agg c1.toArray) := by exact rfl) (hy : ev env y = some (.agg c2.toArray) := by exact rfl) (hz : ev env z = some (.agg c3.toArray) := by exact rfl)
    (f1 : FAg c1 ps tyRTg t := by exact inferInstance) (f2 : FAg c2 ps tyUnt u := by exact inferInstance) (f3 : FAg c3 ps tyIns i := by exact inferInstance) (hd : Nat.blt d n = true := by exact rfl) :
    GO Tryz.prog n env b ps hp ⟨some d, .build 101 [(0, x), (1, y), (2, z)].toArray, ty, pos, aft, gd⟩ K Q := by
  refine rd (ι := Unit) (val := fun _ => .agg (c1 ++ (c2 ++ c3)).toArray) (pf := fun _ => [Ag tyRtView (c1 ++ (c2 ++ c3)) ⟨t, u, i⟩]) ?_ hd (fun _ => h _)
  intro F w h1 _
  have r1 : tyRTg.rd F w c1 t := h1 _ f1.mem
  have r2 : tyUnt.rd F w c2 u := h1 _ f2.mem
  have r3 : tyIns.rd F w c3 i := h1 _ f3.mem
  refine ⟨(), one_p (co_rd (pair_rd rfl r1 (pair_rd rfl r2 (pair_rd (c2 := []) (by simp) r3 unit_rd)))), ?_⟩
  obtain ⟨a0, a1, a2, a3, rfl⟩ := list4 (tyRTg.len r1)
  obtain ⟨b0, b1, b2, b3, b4, b5, rfl⟩ := list6 (tyUnt.len r2)
  obtain ⟨e0, e1, e2, e3, e4, e5, rfl⟩ := list6 (tyIns.len r3)
  refine RX.build (pv := [(0, .agg #[a0, a1, a2, a3]), (1, .agg #[b0, b1, b2, b3, b4, b5]), (2, .agg #[e0, e1, e2, e3, e4, e5])]) ?_ (fun w' => build_view w' a0 a1 a2 a3 b0 b1 b2 b3 b4 b5 e0 e1 e2 e3 e4 e5)
  simp [RX.evp, hx, hy, hz]
end Go.Proofs.YtomfpmbapdhbgaaGreat

/- The walks over package rt: layouts, unit, units, Right. -/
namespace Go.Proofs.YtomfpmbapdhbgaaGreat
open Go Go.RR Go.RX Go.GX Go.Api Go.RiseM Go.ReachM Go.RtM
attribute [local irreducible] wpList Code.wp wpPlan Exit.then Exit.inBlock bodyPost NoPanic Went GX.Post GX.Again GX.Meet GX.RowR GX.Own GX.Owns GX.Box GX.Sl GX.Pt GX.Ag GX.MapR GX.Kept GX.Pin wpT GoK AtEnd Both

theorem unit1_spec (bl : Nat) (g : List Int) (n : Int) : Does Tryz.prog 72 [.int .i64 n, .pointer (some ⟨bl, 0, none⟩)] [Pt (Ty.slice Ty.int) bl 0 g] [] (fun _ : Unit => .bool (decide (n ∈ g))) (fun _ => []) (fun _ => []) := by
  refine enter Tryz.func72 rfl Tryz.ntmps72 rfl fun b => ?_
  refine GX.wR ?_; intros
  refine GX.nmS 4 ?_; rintro ao cap rfl rfl
  refine GX.o (cl (contains_spec ao cap g n) fun _ => ?_)
  refine GX.wR ?_; intros
  exact rt1 () rfl
theorem unit2_spec (bt bo bg : Nat) (t : RTg) (o g : List Int) (n : Int) : Does Tryz.prog 73 [.int .i64 n, .pointer (some ⟨bt, 0, none⟩), .pointer (some ⟨bo, 0, none⟩), .pointer (some ⟨bg, 0, none⟩)] [Pt tyRTg bt 0 t, Pt (Ty.slice Ty.int) bo 0 o, Pt (Ty.slice Ty.int) bg 0 g] [] (fun _ : Unit => .bool (decide (IsClass t n ∧ n ∉ o ∧ n ∉ g))) (fun _ => []) (fun _ => []) := by
  refine enter Tryz.func73 rfl Tryz.ntmps73 rfl fun b => ?_
  refine GX.wR ?_; intros
  refine GX.o (cl (isClass_spec _ t n) fun _ => ?_)
  by_cases h1 : IsClass t n
  · refine GX.wR ?_; intros
    refine GX.nmS 10 ?_; rintro ao cap rfl rfl
    refine GX.o (cl (contains_spec ao cap o n) fun _ => ?_)
    by_cases h2 : n ∈ o
    · have h2' := Classical.not_not.2 h2
      refine GX.wR ?_; intros
      exact rt1 () (vN fun h => h.2.1 h2)
    · refine GX.wR ?_; intros
      refine GX.nmS 16 ?_; rintro ag cag rfl rfl
      refine GX.o (cl (contains_spec ag cag g n) fun _ => ?_)
      refine GX.wR ?_; intros
      exact rt1 () (vI ⟨fun h => h.2.2, fun h => ⟨h1, h2, h⟩⟩)
  · refine GX.wR ?_; intros
    exact rt1 () (vN fun h => h1 h.1)

theorem layouts_spec (cs : List Value) (t : RTg) : Does Tryz.prog 21 [.agg cs.toArray] [Ag tyRTg cs t] [] (fun _ : Unit => .bool (decide (∀ L ∈ t.classes, LayoutOk t L))) (fun _ => []) (fun _ => []) := by
  refine enter Tryz.func21 rfl Tryz.ntmps21 rfl fun b => ?_
  refine GX.wR ?_; intros
  refine GX.nmP 1 ?_; rintro b1 rfl
  refine GX.nmS 6 ?_; rintro aC cC rfl rfl
  refine GX.loop (σ := Nat) (fun i => [(1, .pointer (some ⟨b1, 0, none⟩)), (6, .slice aC t.classes.length cC), (7, .int .i64 (t.classes.length : Int)), (8, .int .i64 (i : Int))]) (fun _ => []) (fun _ => [])
    (fun i => i ≤ t.classes.length ∧ ∀ L ∈ t.classes.take i, LayoutOk t L) (fun i => t.classes.length - i) 0 ⟨rfl, rfl, rfl, rfl, trivial⟩ ⟨by omega, by simp⟩ (fun i hi => ?_)
  obtain ⟨hi, hA⟩ := hi
  by_cases hlt : i < t.classes.length
  · obtain ⟨L, hL⟩ := get_lt hlt
    have hm := List.mem_of_getElem? hL
    have next : LayoutOk t L → ∀ K ∈ t.classes.take (i + 1), LayoutOk t K := fun h K hK => by
      rw [List.take_add_one, hL, List.mem_append] at hK
      rcases hK with hK | hK
      · exact hA K hK
      · simp at hK; subst hK; exact h
    by_cases h1 : 8 < (L.refs.length : Int)
    · refine GX.wR ?_; intros
      exact rt1 () (vN fun h => by have := (h L hm).1; omega)
    by_cases h2 : L.arr = true
    · by_cases h3 : (L.refs.length : Int) = 1
      · have h3' := Classical.not_not.2 h3
        refine GX.wR ?_; intros
        refine GX.nmS 29 ?_; rintro aR cR rfl rfl
        refine GX.o (cl (entries_spec _ t aR cR L.refs) fun _ => ?_)
        by_cases h4 : Entries t L.refs
        · have h4' := Classical.not_not.2 h4
          refine GX.wR ?_; intros
          exact again (i + 1) ⟨rfl, rfl, rfl, rfl, trivial⟩ ⟨by omega, next ⟨by omega, fun _ => by omega, h4⟩⟩ (by omega)
        · refine GX.wR ?_; intros
          exact rt1 () (vN fun h => h4 (h L hm).2.2)
      · refine GX.wR ?_; intros
        exact rt1 () (vN fun h => h3 (by have := (h L hm).2.1 h2; omega))
    · have h2' : L.arr = false := by simpa using h2
      refine GX.wR ?_; intros
      refine GX.nmS 29 ?_; rintro aR cR rfl rfl
      refine GX.o (cl (entries_spec _ t aR cR L.refs) fun _ => ?_)
      by_cases h4 : Entries t L.refs
      · have h4' := Classical.not_not.2 h4
        refine GX.wR ?_; intros
        exact again (i + 1) ⟨rfl, rfl, rfl, rfl, trivial⟩ ⟨by omega, next ⟨by omega, fun h => absurd h h2, h4⟩⟩ (by omega)
      · refine GX.wR ?_; intros
        exact rt1 () (vN fun h => h4 (h L hm).2.2)
  · have hil : i = t.classes.length := by omega
    subst hil
    rw [List.take_length] at hA
    refine GX.wR ?_; intros
    exact rt1 () (vY hA)

theorem upP_dec {Q : Int → Prop} [DecidablePred Q] (l : List Int) : UpP (fun n => decide (Q n)) l ↔ Rise l ∧ ∀ n ∈ l, Q n := by simp [UpP]
/-- What a unit's head asks, but for takes and owns. -/
def HdA (t : RTg) (u : Unt) : Prop := (0 ≤ u.params ∧ u.params ≤ 6 ∧ u.params ≤ (u.vars.length : Int) ∧ u.vars.length ≤ 4000) ∧ Entries t u.vars ∧ (u.result = -3 ∨ IsEntry t u.result) ∧ u.ins ≠ []
instance (t : RTg) (u : Unt) : Decidable (HdA t u) := by unfold HdA; infer_instance
theorem outU_spec (cs : List Value) (t : RTg) (hs : Small t) (k : Nat) (u : Unt) (hu : t.units[k]? = some u) : Does Tryz.prog 24 [.agg cs.toArray, .int .i64 (k : Int)] [Ag tyRTg cs t] []
    (fun s : Option Addr × Nat => .slice s.1 (outOf t u).length s.2) (fun s => [Sl Ty.int s.1 s.2 (outOf t u)]) (fun _ => []) := by
  have := out_spec cs t hs k
  rw [out_some hu] at this
  exact this
structure UnS where
  b6 : Nat
  b7 : Nat
set_option maxHeartbeats 2000000 in
theorem unit_spec (cs : List Value) (t : RTg) (hs : Small t) (k : Nat) (u : Unt) (hu : t.units[k]? = some u) : Does Tryz.prog 47 [.agg cs.toArray, .int .i64 (k : Int)] [Ag tyRTg cs t] [] (fun _ : Unit => .bool (decide (UnitOk t u))) (fun _ => []) (fun _ => []) := by
  refine enter Tryz.func47 rfl Tryz.ntmps47 rfl fun b => ?_
  have hkl := (List.getElem?_eq_some_iff.1 hu).1
  have hur := hs.unit u (List.mem_of_getElem? hu)
  refine GX.wRN ?_; intros
  apply GX.region
  refine GX.wRN ?_; intros
  apply GX.region
  refine GX.wRN ?_; intros
  refine GX.nmP 2 ?_; rintro b2 rfl
  refine GX.nmP 5 ?_; rintro b5 rfl
  refine frzB b5 ?_
  refine GX.cut (σ := Bool) (fun p => [(1, .int .i64 (k : Int)), (2, .pointer (some ⟨b2, 0, none⟩)), (5, .pointer (some ⟨b5, 0, none⟩)), (64, .bool p)]) (fun _ => []) (fun _ => []) (fun p => p = decide (¬ HdA t u)) ?_ (fun p hp => ?_)
  · by_cases h1 : u.params < 0
    · refine GX.wR ?_; intros
      exact meet true ⟨rfl, rfl, rfl, rfl, trivial⟩ (decide_eq_true (show ¬ HdA t u from fun h => by have := h.1.1; omega)).symm
    by_cases h2 : 6 < u.params
    · refine GX.wR ?_; intros
      exact meet true ⟨rfl, rfl, rfl, rfl, trivial⟩ (decide_eq_true (show ¬ HdA t u from fun h => by have := h.1.2.1; omega)).symm
    by_cases h3 : (u.vars.length : Int) < u.params
    · refine GX.wR ?_; intros
      exact meet true ⟨rfl, rfl, rfl, rfl, trivial⟩ (decide_eq_true (show ¬ HdA t u from fun h => by have := h.1.2.2.1; omega)).symm
    by_cases h4 : 4000 < (u.vars.length : Int)
    · refine GX.wR ?_; intros
      exact meet true ⟨rfl, rfl, rfl, rfl, trivial⟩ (decide_eq_true (show ¬ HdA t u from fun h => by have := h.1.2.2.2; omega)).symm
    refine GX.wR ?_; intros
    refine GX.nmS 43 ?_; rintro aV cV rfl rfl
    refine GX.o (cl (entries_spec _ t aV cV u.vars) fun _ => ?_)
    by_cases h5 : Entries t u.vars
    · have h5' := Classical.not_not.2 h5
      have ei : (u.ins.length : Int) = 0 ↔ u.ins = [] := by rw [← List.length_eq_zero_iff]; omega
      by_cases h6 : u.result = -3
      · have h6' := Classical.not_not.2 h6
        refine GX.wR ?_; intros
        refine meet _ ⟨rfl, rfl, rfl, rfl, trivial⟩ (decide_eq_decide.2 (ei.trans ⟨fun h7 h => h.2.2.2 h7, fun h => Classical.byContradiction fun h7 => h ⟨by omega, h5, .inl h6, h7⟩⟩))
      · refine GX.wR ?_; intros
        refine GX.o (cl (isEntry_spec _ t u.result) fun _ => ?_)
        by_cases h7 : IsEntry t u.result
        · have h7' := Classical.not_not.2 h7
          refine GX.wR ?_; intros
          refine meet _ ⟨rfl, rfl, rfl, rfl, trivial⟩ (decide_eq_decide.2 (ei.trans ⟨fun h7 h => h.2.2.2 h7, fun h => Classical.byContradiction fun h8 => h ⟨by omega, h5, .inr h7, h8⟩⟩))
        · refine GX.wR ?_; intros
          exact meet true ⟨rfl, rfl, rfl, rfl, trivial⟩ (decide_eq_true (show ¬ HdA t u from fun h => h.2.2.1.elim h6 h7)).symm
    · refine GX.wR ?_; intros
      exact meet true ⟨rfl, rfl, rfl, rfl, trivial⟩ (decide_eq_true (show ¬ HdA t u from fun h => h5 h.2.1)).symm
  refine GX.csb (fun hpt => ?_) (fun hpf => ?_)
  · have hH : ¬ HdA t u := of_decide_eq_true (hp.symm.trans hpt)
    refine GX.wR ?_; intros
    exact rt1 () (vN fun h => hH ⟨h.1.1, h.1.2.1, h.1.2.2.1, h.1.2.2.2.1⟩)
  have hH : HdA t u := Classical.not_not.1 (of_decide_eq_false (hp.symm.trans hpf))
  refine GX.wRN ?_; intros
  refine GX.cut (σ := UnS) (fun s => [(1, .int .i64 (k : Int)), (2, .pointer (some ⟨b2, 0, none⟩)), (5, .pointer (some ⟨b5, 0, none⟩)), (6, .pointer (some ⟨s.b6, 0, none⟩)), (7, .pointer (some ⟨s.b7, 0, none⟩))]) (fun _ => [])
    (fun s => [Box 23 (Ty.slice Ty.int) s.b6 (outOf t u), Box 23 (Ty.slice Ty.int) s.b7 (glob t)]) (fun _ => True) ?_ (fun s _ => ?_)
  · refine GX.drawnT (fun j => !(List.contains [4, 7, 8] j)) (.br [(0, true), (1, true), (3, true)] (.alt 2 (.br [] (.alt 4 (.br [] (.alt 5 (.lin [(6, false), (7, false), (8, false)]) (.alt 6 (.lin [(5, false), (7, false), (8, false)]) .nil))) (.alt 5 (.br [] (.alt 4 (.lin [(6, false), (7, false), (8, false)]) (.alt 6 (.lin [(4, false), (7, false), (8, false)]) .nil))) (.alt 6 (.br [] (.alt 4 (.lin [(5, false), (7, false), (8, false)]) (.alt 5 (.lin [(4, false), (7, false), (8, false)]) .nil))) .nil)))) (.alt 5 (.br [] (.alt 2 (.br [] (.alt 4 (.lin [(6, false), (7, false), (8, false)]) (.alt 6 (.lin [(4, false), (7, false), (8, false)]) .nil))) (.alt 6 (.lin [(2, false), (4, false), (7, false), (8, false)]) .nil))) (.alt 6 (.br [] (.alt 2 (.br [] (.alt 4 (.lin [(5, false), (7, false), (8, false)]) (.alt 5 (.lin [(4, false), (7, false), (8, false)]) .nil))) (.alt 5 (.lin [(2, false), (4, false), (7, false), (8, false)]) .nil))) .nil)))) (by kernel_rfl) (by kernel_rfl) ?_; intro wd F hW hR
    refine GX.wT ?_; intros
    repeat' first
      | (refine GX.treeA ?_ ?_ <;> (refine GX.wT ?_; intros))
      | (refine GX.gok ?_; refine (cl (outU_spec _ t hs k u hu) fun s => ?_); refine GX.wT ?_; intros)
      | (refine GX.gok ?_; refine (cl (global_spec _ t hs) fun s => ?_); refine GX.wT ?_; intros)
      | (refine GX.gow ?_; refine (cl (outU_spec _ t hs k u hu) fun s => ?_); refine GX.wT ?_; intros)
      | (refine GX.gow ?_; refine (cl (global_spec _ t hs) fun s => ?_); refine GX.wT ?_; intros)
      | (refine GX.wR ?_; intros; exact meet ⟨_, _⟩ ⟨rfl, rfl, rfl, rfl, rfl, trivial⟩ trivial)
  obtain ⟨b6, b7⟩ := s
  dsimp only
  refine frzB b6 ?_
  refine frzB b7 ?_
  refine GX.wR ?_; intros
  refine GX.nmS 71 ?_; rintro aT cT rfl rfl
  refine GX.o (cl (rising_spec aT cT u.takes 72 [.pointer (some ⟨b6, 0, none⟩)] [Pt (Ty.slice Ty.int) b6 0 (outOf t u)] [] (fun n => decide (n ∈ outOf t u)) (fun n _ => unit1_spec b6 (outOf t u) n)) fun _ => ?_)
  refine GX.wR ?_; intros
  refine GX.nmS 75 ?_; rintro aO cO rfl rfl
  refine GX.o (cl (rising_spec aO cO u.owns 73 [.pointer (some ⟨b2, 0, none⟩), .pointer (some ⟨b6, 0, none⟩), .pointer (some ⟨b7, 0, none⟩)] [Pt tyRTg b2 0 t, Pt (Ty.slice Ty.int) b6 0 (outOf t u), Pt (Ty.slice Ty.int) b7 0 (glob t)] [] (fun n => decide (IsClass t n ∧ n ∉ outOf t u ∧ n ∉ glob t)) (fun n _ => unit2_spec b2 b6 b7 t (outOf t u) (glob t) n)) fun _ => ?_)
  have e1 := upP_dec (Q := fun n => n ∈ outOf t u) u.takes
  have e2 := upP_dec (Q := fun n => IsClass t n ∧ n ∉ outOf t u ∧ n ∉ glob t) u.owns
  by_cases h1 : UpP (fun n => decide (n ∈ outOf t u)) u.takes
  · have h1' := Classical.not_not.2 h1
    by_cases h2 : UpP (fun n => decide (IsClass t n ∧ n ∉ outOf t u ∧ n ∉ glob t)) u.owns
    · have h2' := Classical.not_not.2 h2
      refine GX.wR ?_; intros
      refine GX.nmS 85 ?_; rintro aI cI rfl rfl
      refine GX.loop (σ := Nat) (fun i => [(2, .pointer (some ⟨b2, 0, none⟩)), (5, .pointer (some ⟨b5, 0, none⟩)), (85, .slice aI u.ins.length cI), (86, .int .i64 (u.ins.length : Int)), (87, .int .i64 (i : Int))]) (fun _ => []) (fun _ => [])
        (fun i => i ≤ u.ins.length ∧ ∀ x ∈ u.ins.take i, Bare x ∧ Fits t u x) (fun i => u.ins.length - i) 0 ⟨rfl, rfl, rfl, rfl, rfl, trivial⟩ ⟨by omega, by simp⟩ (fun i hi => ?_)
      obtain ⟨hi, hA⟩ := hi
      by_cases hlt : i < u.ins.length
      · obtain ⟨x, hx⟩ := get_lt hlt
        refine GX.wR ?_; intros
        refine GX.o (cl (bare_spec _ x) fun _ => ?_)
        by_cases h3 : Bare x
        · have h3' := Classical.not_not.2 h3
          refine GX.wR ?_; intros
          refine GX.o (bdv fun cv => ?_)
          refine GX.wR ?_; intros
          refine GX.o (cl (fits_spec cv ⟨t, u, x⟩) fun _ => ?_)
          by_cases h4 : Fits t u x
          · have h4' := Classical.not_not.2 h4
            refine GX.wR ?_; intros
            refine again (i + 1) ⟨rfl, rfl, rfl, rfl, rfl, trivial⟩ ⟨by omega, fun y hy => ?_⟩ (by omega)
            rw [List.take_add_one, hx, List.mem_append] at hy
            rcases hy with hy | hy
            · exact hA y hy
            · simp at hy; subst hy; exact ⟨h3, h4⟩
          · refine GX.wR ?_; intros
            exact rt1 () (vN fun h => h4 (h.2 x (List.mem_of_getElem? hx)).2)
        · refine GX.wR ?_; intros
          exact rt1 () (vN fun h => h3 (h.2 x (List.mem_of_getElem? hx)).1)
      · rw [List.take_of_length_le (by omega)] at hA
        have hne : u.ins.length ≠ 0 := fun h => hH.2.2.2 (List.length_eq_zero_iff.1 h)
        obtain ⟨m, hm⟩ : ∃ m, u.ins.length = m + 1 := ⟨u.ins.length - 1, by omega⟩
        obtain ⟨x, hx⟩ := get_lt (show m < u.ins.length by omega)
        have hlo : lastOp u = x.op := by unfold lastOp; rw [hm, Nat.add_sub_cancel, hx]
        have all : (x.op = 16 ∨ x.op = 17 ∨ x.op = 18) ↔ UnitOk t u := ⟨fun h => ⟨⟨hH.1, hH.2.1, hH.2.2.1, hH.2.2.2, e1.1 h1, e2.1 h2, by rw [hlo]; exact h⟩, hA⟩, fun h => by rw [← hlo]; exact h.1.2.2.2.2.2.2⟩
        by_cases g1 : x.op = 16
        · refine GX.wR ?_; intros
          exact rt1 () (vY (all.1 (.inl g1)))
        · by_cases g2 : x.op = 17
          · refine GX.wR ?_; intros
            exact rt1 () (vY (all.1 (.inr (.inl g2))))
          · refine GX.wR ?_; intros
            exact rt1 () (vI (all.symm.trans ⟨fun h => h.elim (fun h => absurd h g1) fun h => h.elim (fun h => absurd h g2) id, fun h => .inr (.inr h)⟩))
    · refine GX.wR ?_; intros
      exact rt1 () (vN fun h => h2 (e2.2 h.1.2.2.2.2.2.1))
  · refine GX.wR ?_; intros
    exact rt1 () (vN fun h => h1 (e1.2 h.1.2.2.2.2.1))

theorem units_spec (cs : List Value) (t : RTg) (hs : Small t) : Does Tryz.prog 23 [.agg cs.toArray] [Ag tyRTg cs t] [] (fun _ : Unit => .bool (decide (UnitsOk t))) (fun _ => []) (fun _ => []) := by
  refine enter Tryz.func23 rfl Tryz.ntmps23 rfl fun b => ?_
  refine GX.wR ?_; intros
  refine GX.nmP 1 ?_; rintro b1 rfl
  refine GX.nmS 7 ?_; rintro aU cU rfl rfl
  refine GX.loop (σ := Nat) (fun i => [(1, .pointer (some ⟨b1, 0, none⟩)), (3, .int .i64 ((insOf (t.units.take i) : Nat) : Int)), (7, .slice aU t.units.length cU), (8, .int .i64 (t.units.length : Int)), (9, .int .i64 (i : Int))]) (fun _ => []) (fun _ => [])
    (fun i => i ≤ t.units.length ∧ insOf (t.units.take i) ≤ 16000 ∧ ∀ u ∈ t.units.take i, UnitOk t u) (fun i => t.units.length - i) 0 ⟨rfl, rfl, rfl, rfl, rfl, trivial⟩ ⟨by omega, by simp [insOf], by simp⟩ (fun i hi => ?_)
  obtain ⟨hi, hn, hA⟩ := hi
  by_cases hlt : i < t.units.length
  · obtain ⟨u, hu⟩ := get_lt hlt
    have hm := List.mem_of_getElem? hu
    have hul := (hs.unit u hm).2
    have ht : t.units.take (i + 1) = t.units.take i ++ [u] := by rw [List.take_add_one, hu]; rfl
    have hsn : ((insOf (t.units.take i) : Nat) : Int) + (u.ins.length : Int) = ((insOf (t.units.take (i + 1)) : Nat) : Int) := by rw [ht, insOf_snoc]; omega
    have hle := insOf_take t.units (i + 1)
    refine GX.wR ?_; intros
    rw [hsn]
    by_cases h1 : 16000 < ((insOf (t.units.take (i + 1)) : Nat) : Int)
    · refine GX.wR ?_; intros
      exact rt1 () (vN fun h => by have := h.1; omega)
    · refine GX.wR ?_; intros
      refine GX.o (cl (unit_spec _ t hs i u hu) fun _ => ?_)
      by_cases h2 : UnitOk t u
      · have h2' := Classical.not_not.2 h2
        refine GX.wR ?_; intros
        refine again (i + 1) ⟨rfl, rfl, rfl, rfl, rfl, trivial⟩ ⟨by omega, by omega, fun x hx => ?_⟩ (by omega)
        rw [ht, List.mem_append, List.mem_singleton] at hx
        rcases hx with hx | hx
        · exact hA x hx
        · subst hx; exact h2
      · refine GX.wR ?_; intros
        exact rt1 () (vN fun h => h2 (h.2 u hm))
  · have hil : i = t.units.length := by omega
    subst hil
    rw [List.take_length] at hA hn
    refine GX.wR ?_; intros
    exact rt1 () (vY ⟨hn, hA⟩)

theorem right_spec (cs : List Value) (t : RTg) (hs : Small t) : Does Tryz.prog 13 [.agg cs.toArray] [Ag tyRTg cs t] [] (fun _ : Unit => .bool (decide (RightP t))) (fun _ => []) (fun _ => []) := by
  refine enter Tryz.func13 rfl Tryz.ntmps13 rfl fun b => ?_
  by_cases h1 : 60 < (t.classes.length : Int)
  · refine GX.wR ?_; intros
    exact rt1 () (vN fun h => by have := h.1.1; omega)
  by_cases h2 : 8 < (t.globals.length : Int)
  · refine GX.wR ?_; intros
    exact rt1 () (vN fun h => by have := h.1.2.1; omega)
  by_cases h3 : (t.units.length : Int) = 0
  · refine GX.wR ?_; intros
    exact rt1 () (vN fun h => by have := h.1.2.2.1; omega)
  by_cases h4 : 16 < (t.units.length : Int)
  · refine GX.wR ?_; intros
    exact rt1 () (vN fun h => by have := h.1.2.2.2; omega)
  by_cases h5 : t.main < 0
  · have e : ¬ MainOk t := by unfold MainOk; rw [gt_out (.inl h5)]; exact id
    refine GX.wR ?_; intros
    exact rt1 () (vN fun h => e h.2.1)
  by_cases h6 : (t.units.length : Int) ≤ t.main
  · have e : ¬ MainOk t := by unfold MainOk; rw [gt_out (.inr h6)]; exact id
    refine GX.wR ?_; intros
    exact rt1 () (vN fun h => e h.2.1)
  obtain ⟨u, hu, k, hk, hkl, hu2⟩ := gt_in (l := t.units) (n := t.main) ⟨by omega, by omega⟩
  have e : MainOk t ↔ u.params = 0 ∧ u.result = -3 := by unfold MainOk; rw [hu]
  by_cases h7 : u.params = 0
  · by_cases h8 : u.result = -3
    · refine GX.wR ?_; intros
      refine GX.o (cl (layouts_spec _ t) fun _ => ?_)
      by_cases h9 : ∀ L ∈ t.classes, LayoutOk t L
      · refine GX.wR ?_; intros
        refine GX.nmS 60 ?_; rintro aG cG rfl rfl
        refine GX.o (cl (entries_spec _ t aG cG t.globals) fun _ => ?_)
        by_cases h10 : Entries t t.globals
        · refine GX.wR ?_; intros
          refine GX.o (cl (units_spec _ t hs) fun _ => ?_)
          refine GX.wR ?_; intros
          exact rt1 () (vI ⟨fun h => h.2.2.2.2, fun h => ⟨⟨by omega, by omega, by omega, by omega⟩, e.2 ⟨h7, h8⟩, h9, h10, h⟩⟩)
        · refine GX.wR ?_; intros
          exact rt1 () (vN fun h => h10 h.2.2.2.1)
      · refine GX.wR ?_; intros
        exact rt1 () (vN fun h => h9 h.2.2.1)
    · refine GX.wR ?_; intros
      exact rt1 () (vN fun h => h8 (e.1 h.2.1).2)
  · refine GX.wR ?_; intros
    exact rt1 () (vN fun h => h7 (e.1 h.2.1).1)
end Go.Proofs.YtomfpmbapdhbgaaGreat

/- The walk over 'great' of chapter 28's laws. -/
namespace Go.Proofs.YtomfpmbapdhbgaaGreat
open Go Go.RR Go.RX Go.GX Go.Api Go.RiseM Go.ReachM Go.RtM
attribute [local irreducible] wpList Code.wp wpPlan Exit.then Exit.inBlock bodyPost NoPanic Went GX.Post GX.Again GX.Meet GX.RowR GX.Own GX.Owns GX.Box GX.Sl GX.Pt GX.Ag GX.MapR GX.Kept GX.Pin wpT GoK AtEnd Both
/-- A unit such as the laws speak of. -/
def TinyU (u : Unt) : Prop := (u.vars.length ≤ 150 ∧ u.ins.length ≤ 400 ∧ u.takes.length ≤ 80 ∧ u.owns.length ≤ 80) ∧ ∀ i ∈ u.ins, i.args.length ≤ 80
instance (u : Unt) : Decidable (TinyU u) := by unfold TinyU; infer_instance
def Tiny (t : RTg) : Prop := (t.classes.length ≤ 80 ∧ t.globals.length ≤ 20 ∧ t.units.length ≤ 20) ∧ (∀ L ∈ t.classes, L.refs.length ≤ 20) ∧ ∀ u ∈ t.units, TinyU u
instance (t : RTg) : Decidable (Tiny t) := by unfold Tiny; infer_instance
theorem sum_le {l : List Nat} {k : Nat} (h : ∀ x ∈ l, x ≤ k) : l.sum ≤ l.length * k := by
  induction l with
  | nil => simp
  | cons x l ih =>
    have h1 := h x (by simp)
    have h2 := ih fun y hy => h y (by simp [hy])
    rw [List.sum_cons, List.length_cons, Nat.add_mul]; omega
theorem Tiny.small {t : RTg} (h : Tiny t) : Small t := by
  refine ⟨by have := h.1.1; omega, ?_, by have := h.1.2.1; omega, by have := h.1.2.2; omega, fun u hu => ?_⟩
  · have h1 : ∀ x ∈ (flds t).map List.length, x ≤ 20 := fun x hx => by
      obtain ⟨l, hl, rfl⟩ := List.mem_map.1 hx
      obtain ⟨L, hL, rfl⟩ := List.mem_map.1 hl
      exact h.2.1 L hL
    have h2 := sum_le h1
    rw [List.length_map, flds_len] at h2
    have := h.1.1
    omega
  · have := (h.2.2 u hu).1; omega
end Go.Proofs.YtomfpmbapdhbgaaGreat

/- 'make([]T, 0, n)'; a slice that is not nil. No program in sight. -/
namespace Go.GX
open Go Go.RowKit Go.RR Go.RX
section
variable {P : Program} {n : Nat} {env : Env} {b : Base} {ps : List Pf} {hp : List Res} {Q : Exit → Act → World → Prop} {K : Act → World → Prop}
theorem nesl {d : Nat} {ty : TypeId} {pos : String} {aft : Array Edge} {gd : Option (Nat × Bool)} {t t' e : TypeId} {x y : Operand} {ao : Option Addr} {len cap : Nat} [h0 : USlice P t e] (h : G n ((d, .bool (!ao.isNone)) :: env) b ps hp K) (hx : ev env x = some (.slice ao len cap) := by exact rfl) (hy : ev env y = some (.slice none 0 0) := by exact rfl) (hd : Nat.blt d n = true := by exact rfl) :
    GO P n env b ps hp ⟨some d, .binOp .neq t x y t', ty, pos, aft, gd⟩ K Q := rd1 (fun a ha o ho w _ => by
  simp only [execOp, ho, ha.ev hx, ha.ev hy]
  simp [eqGuard, run_binNeq (P := P) (t := t) (x := .slice ao len cap) (y := .slice none 0 0) (b := ao.isNone) (by cases ao <;> rfl) (fun d w => by cases ao <;> simp [Op.equalIn, run_underlying h0.u])]) hd h
theorem mks0 {d : Nat} {ty : TypeId} {pos : String} {aft : Array Edge} {gd : Option (Nat × Bool)} {t et : TypeId} {x y : Operand} {α : Type} {e : Ty α} {kx ky : IntKind} {c : Nat} {i j : Int} {zv : Value} {size bytes : Nat} [ht : USlice P t et] [hi : UElem P et zv size bytes] (h : ∀ bl, G n ((d, .slice (some ⟨bl, 0, none⟩) ([] : List α).length c) :: env) b ps (Own et e (some ⟨bl, 0, none⟩) c [] :: hp) K)
    (hx : ev env x = some (.int kx j) := by exact rfl) (hy : ev env y = some (.int ky i) := by exact rfl) (hj0 : j = 0 := by first | rfl | omega) (hi0 : i = (c : Int) := by first | rfl | omega) (hb : bytes * c ≤ 281474976710656 := by omega) (h63 : c ≤ 4611686018427387904 := by omega) (hsz : e.size = size := by exact rfl) (hzs : zv.cells.size = size := by exact rfl) (hd : Nat.blt d n = true := by exact rfl) :
    GO P n env b ps hp ⟨some d, .makeSlice t x y, ty, pos, aft, gd⟩ K Q := by
  subst hsz; subst hj0; subst hi0
  refine Acts.use (hp1 := []) (rest := hp) (ι := Nat) (val := fun bl => .slice (some ⟨bl, 0, none⟩) ([] : List α).length c) (pf := fun bl => []) (hr := fun bl => [Own et e (some ⟨bl, 0, none⟩) c []]) ?_ (List.Perm.refl _) h
  intro F w K Q b s hk
  obtain ⟨ii, i0, i1, i2, i3⟩ := info_parts hi.i
  have hr := run_make (P := P) w t et ii zv ht.u i0 i1 kx ky 0 (c : Int) (by omega) (by omega) (by
    rw [i3]
    have h : ((bytes * c : Nat) : Int) ≤ 281474976710656 := by omega
    rwa [Int.natCast_mul] at h) (by omega)
  simp only [Int.toNat_natCast] at hr
  refine RX.eff (v := .slice (some ⟨w.heap.size, 0, none⟩) ([] : List α).length c) (w' := w.alloc (.cells (madeCells zv.cells (c * ii.size)) et)) (fun a ha => ?_) hd (hk w.heap.size _ (mkOkN s ((Upd.refl _ _).alloc _) ⟨[], ⟨by simp, .inr ⟨w.heap.size, c, _, rfl, Nat.zero_le _, heap_alloc_new w _, Nat.zero_le _, by simp only [maxLen]; omega, by rw [i2]; simp [size_madeCells], by simp⟩⟩, rfl⟩ (fun k hk => ?_)))
  · simp [execOp, ha.ev hx, ha.ev hy, hr]
  · have hk : (some w.heap.size : Option Nat) = some k := hk
    cases hk; exact Nat.le_refl _
end
end Go.GX

/- The walks over guard's Accepts and States. -/
namespace Go.Proofs.YtomfpmbapdhbgaaGreat
open Go Go.RR Go.RX Go.GX Go.Api Go.RiseM Go.ReachM Go.RtM Go.LivM Go.FlowM
attribute [local irreducible] wpList Code.wp wpPlan Exit.then Exit.inBlock bodyPost NoPanic Went GX.Post GX.Again GX.Meet GX.RowR GX.Own GX.Owns GX.Box GX.Sl GX.Pt GX.Ag GX.MapR GX.Kept GX.Pin wpT GoK AtEnd Both
theorem unW {t : RTg} (hT : Tiny t) (hR : RightP t) {u : Unt} (hu : u ∈ t.units) : UnW t u := by
  obtain ⟨⟨u1, u2, u3, u4⟩, ua⟩ := hT.2.2 u hu
  obtain ⟨⟨_, _, _, hne, _, ⟨_, ho⟩, _⟩, hI⟩ := hR.2.2.2.2.2 u hu
  have hc := hT.1.1
  refine ⟨hne, by omega, by omega, by omega, ?_, by omega, fun x hx => ⟨by have := ua x hx; omega, fun h13 => ?_⟩, fun x hx h21 c hc2 => ?_⟩
  · have := fromL_len (flds t) t.globals
    rw [flds_len] at this
    have : (glob t).length ≤ t.classes.length := this
    omega
  · have hf := (hI x hx).2
    unfold Fits at hf
    repeat rw [if_neg (by omega)] at hf
    unfold Goes at hf
    rw [if_pos h13] at hf
    unfold CallOk at hf
    cases hg : gt t.units x.c with
    | none => rw [hg] at hf; exact hf.elim
    | some g =>
      obtain ⟨j, h1, _, h2⟩ := gt_some hg
      exact ⟨j, g, h1, h2⟩
  · have hf := (hI x hx).2
    unfold Fits at hf
    repeat rw [if_neg (by omega)] at hf
    unfold Goes at hf
    repeat rw [if_neg (by omega)] at hf
    exact (ho c (hf.2.2 c hc2)).1
/-- Every unit of a program is accepted. -/
def AccT (t : RTg) : Prop := RightP t ∧ Accs t t.units.length
noncomputable instance decAccT (t : RTg) : Decidable (AccT t) := Classical.propDecidable _
theorem accepts_spec (cs : List Value) (t : RTg) (hT : Tiny t) : Does Tryz.prog 7 [.agg cs.toArray] [Ag tyRTg cs t] [] (fun _ : Unit => .bool (decide (AccT t))) (fun _ => []) (fun _ => []) := by
  refine enter Tryz.func7 rfl Tryz.ntmps7 rfl fun b => ?_
  have hs := hT.small
  refine GX.wa_R ?_; intros
  refine GX.nmA 3 ?_; rintro c3 rfl
  refine GX.o (cl (right_spec c3 t hs) fun _ => ?_)
  by_cases hR : RightP t
  · refine GX.wa_R ?_; intros
    refine GX.nmA 6 ?_; rintro c6 rfl
    have h0 := hR.1.2.2.1
    refine GX.o (cl (look_spec c6 t hs (fun h => h0 (by rw [h]; rfl)) (by have := hT.1.2.2; omega) (fun u hu => unW hT hR hu)) fun s => ?_)
    obtain ⟨v, s, hv⟩ := s
    dsimp only
    rcases hv with ⟨rfl, h1⟩ | ⟨g, rfl, h1, h2, h3⟩
    · refine GX.o (nesl ?_)
      refine GX.wa_R ?_; intros
      exact rt1 () (vN fun h => h1 h.2)
    · refine GX.o (nesl ?_)
      refine GX.wa_R ?_; intros
      exact rt1 () (vY ⟨hR, by have := h2.acc; rw [h3] at this; exact this⟩)
  · refine GX.wa_R ?_; intros
    exact rt1 () (vN fun h => hR h.1)
structure StR (t : RTg) (u : Unt) where
  ao : Option Addr
  cap : Nat
  S : List Api.State
  good : Good t 0 u S
set_option maxHeartbeats 1000000 in
theorem states_spec (cs : List Value) (t : RTg) (u : Unt) (hT : Tiny t) (hR : RightP t) (hu : t.units = [u]) (hA : GuaM.AccU t 0 u) : Does Tryz.prog 16 [.agg cs.toArray, .int .i64 0] [Ag tyRTg cs t] []
    (fun s : StR t u => .tuple #[.slice s.ao s.S.length s.cap, .bool true]) (fun s => [Sl tyState s.ao s.cap s.S]) (fun _ => []) := by
  refine enter Tryz.func16 rfl Tryz.ntmps16 rfl fun b => ?_
  have hs := hT.small
  have hul : t.units.length = 1 := by rw [hu]; rfl
  refine GX.wa_R ?_; intros
  refine GX.nmP 2 ?_; rintro b2 rfl
  refine GX.nmA 10 ?_; rintro c10 rfl
  refine GX.o (cl (right_spec c10 t hs) fun _ => ?_)
  have hR' : ¬ ¬ RightP t := fun h => h hR
  refine GX.wa_R ?_; intros
  refine GX.nmA 24 ?_; rintro c24 rfl
  refine GX.o (cl (look_spec c24 t hs (by rw [hu]; simp) (by omega) (fun u hu => unW hT hR hu)) fun s => ?_)
  obtain ⟨v, s, hv⟩ := s
  dsimp only
  rcases hv with ⟨rfl, h1⟩ | ⟨g, rfl, h1, h2, h3⟩
  · refine absurd (fun k u' hk hu' => ?_) h1
    have : k = 0 := by omega
    subst this
    rw [hu] at hu'
    cases hu'
    exact hA
  · obtain ⟨p, S, u', e1, e2, e3, hG⟩ := h2.one (by omega)
    rw [hu] at e3
    cases e3
    obtain ⟨i, ao, cap, ps, last⟩ := s
    dsimp only at *
    subst e1; subst e2; subst h1
    refine lastO p S (by simp) ?_
    have hp0 : [some p][0]? = some (some p) := rfl
    have hSl := hG.snd.len
    refine GX.wa_R ?_; intros
    refine GX.o (GX.lref (q := p) (y := some p) (get := fun y => y) ?_ rfl)
    have hSn : S.length ≤ 400 := by
      have := (hT.2.2 u (by rw [hu]; simp)).1.2.1
      omega
    refine GX.wa_R ?_; intros
    refine GX.o (GX.mks0 (e := tyState) fun b36 => ?_)
    refine GX.wa_R ?_; intros
    refine GX.o (GX.lref (q := p) (y := some p) (get := fun y => y) ?_ rfl)
    refine GX.wa_R ?_; intros
    refine GX.nmS 43 ?_; rintro a43 c43 rfl rfl
    rw [show ([] : List Api.State).length = (S.take 0).length from rfl, show ([] : List Api.State) = S.take 0 from rfl]
    refine GX.loop (σ := Nat × Option Addr × Nat) (fun s => [(7, .slice s.2.1 (S.take s.1).length s.2.2), (43, .slice a43 S.length c43), (44, .int .i64 (S.length : Int)), (45, .int .i64 (s.1 : Int))]) (fun _ => []) (fun s => [GX.Own 48 tyState s.2.1 s.2.2 (S.take s.1)])
      (fun s => s.1 ≤ S.length) (fun s => S.length - s.1) (0, some ⟨b36, 0, none⟩, S.length) ⟨rfl, rfl, rfl, rfl, trivial⟩ (by simp) (fun s hi => ?_)
    obtain ⟨i, ao, cp⟩ := s
    dsimp only at *
    have htl : (S.take i).length ≤ 400 := by rw [List.length_take]; omega
    by_cases hlt : i < S.length
    · obtain ⟨s, hs2⟩ := get_lt hlt
      have hll : s.live.length ≤ 100000 := by
        have h5 := (unW hT hR (show u ∈ t.units by rw [hu]; simp))
        have := GuaM.snd_live hG.snd h5.cr hs2
        have := h5.cls
        omega
      have hsl : s.stale.length ≤ 100000 := by
        have h5 := (unW hT hR (show u ∈ t.units by rw [hu]; simp))
        have := (GuaM.snd_stale hG.snd hs2).2
        have := h5.vars
        omega
      have e : S.take i ++ [⟨s.met, s.live, s.stale⟩] = S.take (i + 1) := by rw [List.take_add_one, hs2]; rfl
      refine GX.wa_R ?_; intros
      refine GX.nmP 9 ?_; rintro b9 rfl
      refine frzB b9 ?_
      refine GX.drawn0  (fun j => !(List.contains [10, 11] j)) [(0, true), (1, true), (2, true), (3, true), (4, true), (6, true), (7, true), (5, false), (8, false), (9, true), (10, false), (11, false), (12, true)] rfl (by kernel_rfl) (by kernel_rfl) (by first | ((repeat (first | apply Go.GX.SelR.nil | apply Go.GX.SelR.cons | (with_reducible apply Go.GX.TakeR.head) | apply Go.GX.TakeR.tail)); done) | (repeat (first | apply Go.GX.SelR.nil | apply Go.GX.SelR.cons | apply Go.GX.TakeR.head | apply Go.GX.TakeR.tail))) ?_; intro wd F hW hR
      refine GX.wa_T ?_; intros
      refine GX.nmS 53 ?_; rintro a53 c53 rfl rfl
      refine GX.nmS 56 ?_; rintro a56 c56 rfl rfl
      refine GX.gow ?_
      refine (cl (clone_spec a53 c53 s.live (by omega)) fun q => ?_)
      obtain ⟨a54, c54⟩ := q
      dsimp only
      refine frz a54 ?_
      refine GX.wa_T ?_; intros
      refine GX.gow ?_
      refine (cl (clone_spec a56 c56 s.stale (by omega)) fun q => ?_)
      obtain ⟨a57, c57⟩ := q
      dsimp only
      refine frz a57 ?_
      refine GX.wa_T ?_; intros
      refine GX.wa_R ?_; intros
      rw [e]
      refine GX.nmS 60 ?_; rintro a60 c60 rfl rfl
      exact again (i + 1, a60, c60) ⟨rfl, rfl, rfl, rfl, trivial⟩ (by dsimp only; omega) (by dsimp only; omega)
    · rw [List.take_of_length_le (by omega)]
      refine frz ao ?_
      refine GX.wa_R ?_; intros
      exact rt2 ⟨ao, cp, S, hG⟩ rfl
end Go.Proofs.YtomfpmbapdhbgaaGreat
