import Derived.Test.YtkagjpkgboeaiaaQ1
import Derived.Test.YtkagjpkgboeaiaaQ2
import Derived.Test.YtkagjpkgboeaiaaQ3
import Derived.Test.YtkagjpkgboeaiaaQ4
import Derived.Test.YtkagjpkgboeaiaaQ5
import Derived.Test.YtkagjpkgboeaiaaQ6
import Derived.Test.YtkagjpkgboeaiaaQ7
import Derived.Test.YtkagjpkgboeaiaaQ8
import Derived.Test.YtkagjpkgboeaiaaQ9
import Derived.Test.YtkagjpkgboeaiaaQ10
import Derived.Test.YtkagjpkgboeaiaaQ11
import Derived.Test.YtkagjpkgboeaiaaQ12
import Derived.Test.YtkagjpkgboeaiaaQ13
import Derived.Test.YtkagjpkgboeaiaaQ14
import Derived.Test.YtkagjpkgboeaiaaQ15
import Derived.Test.YtkagjpkgboeaiaaQ16
import Derived.Test.YtkagjpkgboeaiaaQ17
import Derived.Test.YtkagjpkgboeaiaaQ18
import Derived.Test.YtkagjpkgboeaiaaQ19
import Derived.Test.YtkagjpkgboeaiaaQ20
import Derived.Test.YtkagjpkgboeaiaaQ21
import Derived.Test.YtkagjpkgboeaiaaQ22
/- SolveTurned: for all numbers, constraints and turns the law returns true; its arguments read as before. No condition. -/
namespace Go.Proofs.Ytkagjpkgboeaiaa
open Go Go.RR Go.RX Go.GX Go.Api Go.RiseM Go.SolM Go.ChangeShapes Go.WideShapes Go.ChangeAt Go.RowKit
attribute [local irreducible] wpList Code.wp wpPlan Exit.then Exit.inBlock bodyPost NoPanic Went GX.Post GX.Again GX.Meet GX.RowR GX.Own GX.Owns GX.Box GX.Sl GX.Pt GX.Ag GX.MapR GX.Kept GX.Pin wpT GoK AtEnd Both
set_option maxHeartbeats 4000000 in
theorem solveTurned_does (N : Int) (_ : I64 N) (S : Int) (_ : I64 S) (W : Int) (_ : I64 W) (ao : Option Addr) (cap : Nat) (l : List Con) (_ : ∀ x ∈ l, Con.ok x) (s2 : Option Addr) (cp2 : Nat) (ts : List Int) (_ : ∀ x ∈ ts, I64 x) : Does Try.prog 6 [.int .i64 N, .int .i64 S, .int .i64 W, .slice ao l.length cap, .slice s2 ts.length cp2] [Sl tyCon ao cap l, Sl Ty.int s2 cp2 ts] [] (fun _ : Unit => .bool true) (fun _ => []) (fun _ => []) := by
  refine enter Try.func6 rfl Try.ntmps6 rfl fun b => ?_
  refine sln ao fun h1 _ _ => ?_
  refine sln s2 fun h2 _ _ => ?_
  by_cases hn : 100 < N ∧ N ≤ 70000
  · obtain ⟨hn1, hn2⟩ := hn
    refine GX.wbR ?_; intros
    exact rt1 () rfl
  by_cases h60 : 60 < (l.length : Int)
  · by_cases hn1 : 100 < N
    · have hn2 : ¬ N ≤ 70000 := fun h => hn ⟨hn1, h⟩
      refine GX.wbR ?_; intros
      exact rt1 () rfl
    · refine GX.wbR ?_; intros
      exact rt1 () rfl
  by_cases h0 : (l.length : Int) = 0
  · by_cases hn1 : 100 < N
    · have hn2 : ¬ N ≤ 70000 := fun h => hn ⟨hn1, h⟩
      refine GX.wbR ?_; intros
      exact rt1 () rfl
    · refine GX.wbR ?_; intros
      exact rt1 () rfl
  obtain ⟨c0, hc0⟩ := get_lt (show 0 < l.length by omega)
  refine GX.wbRN ?_; intros
  apply GX.region
  refine GX.wbRN ?_; intros
  refine GX.cut (σ := Unit) (fun _ => [(0, .int .i64 N), (1, .int .i64 S), (2, .int .i64 W), (3, .slice ao l.length cap), (4, .slice s2 ts.length cp2), (33, .bool false)]) (fun _ => []) (fun _ => []) (fun _ => True) ?_ (fun _ _ => ?_)
  · by_cases hn1 : 100 < N
    · have hn2 : ¬ N ≤ 70000 := fun h => hn ⟨hn1, h⟩
      refine GX.wbR ?_; intros
      exact meet () ⟨rfl, rfl, rfl, rfl, rfl, congrArg (fun b => some (Value.bool b)) (decide_eq_false h0), trivial⟩ trivial
    · refine GX.wbR ?_; intros
      exact meet () ⟨rfl, rfl, rfl, rfl, rfl, congrArg (fun b => some (Value.bool b)) (decide_eq_false h0), trivial⟩ trivial
  refine GX.wbR ?_; intros
  refine GX.cut (σ := Option Addr × Nat) (fun p => [(0, .int .i64 N), (1, .int .i64 S), (2, .int .i64 W), (3, .slice ao l.length cap), (4, .slice s2 ts.length cp2), (11, .slice p.1 (l ++ [c0]).length p.2)]) (fun _ => []) (fun p => [GX.Own 38 tyCon p.1 p.2 (l ++ [c0])]) (fun _ => True) ?_ (fun p _ => ?_)
  · refine GX.drawnT (fun j => !(List.contains [] j)) (.br [(0, true), (2, true), (3, true), (4, true)] (.alt 1 (.lin [(5, false), (6, false), (7, true)]) (.alt 5 (.lin [(1, false), (6, false), (7, true)]) .nil))) (by kernel_rfl) (by kernel_rfl) ?_; intro wd F hW hR
    refine GX.wbT ?_; intros
    repeat' first
      | (refine GX.treeA ?_ ?_ <;> (refine GX.wbT ?_; intros))
    all_goals
      refine GX.wbR ?_; intros
      refine GX.nmS 11 ?_; rintro am cm rfl rfl
      exact meet (am, cm) ⟨rfl, rfl, rfl, rfl, rfl, rfl, trivial⟩ trivial
  obtain ⟨am, cm⟩ := p
  dsimp only
  refine GX.wbR ?_; intros
  have hK : (l ++ [c0]).length = l.length + 1 := by simp
  refine GX.loop (σ := Nat × List Con) (fun q => [(0, .int .i64 N), (1, .int .i64 S), (2, .int .i64 W), (3, .slice ao l.length cap), (4, .slice s2 ts.length cp2), (11, .slice am (l ++ [c0]).length cm), (12, .int .i64 (q.1 : Int))]) (fun _ => []) (fun q => [GX.Own 38 tyCon am cm q.2])
    (fun q => q.1 ≤ (l ++ [c0]).length ∧ q.2.length = (l ++ [c0]).length ∧ ∀ c, c ∈ q.2 ↔ c ∈ l ++ [c0]) (fun q => (l ++ [c0]).length - q.1) (0, l ++ [c0]) ⟨rfl, rfl, rfl, rfl, rfl, rfl, rfl, trivial⟩ ⟨by simp, rfl, fun _ => Iff.rfl⟩ (fun q hq => ?_)
  obtain ⟨i, m⟩ := q
  obtain ⟨hi, hml, hmm⟩ := hq
  dsimp only at *
  by_cases hlt : i < (l ++ [c0]).length
  · obtain ⟨x, hx⟩ := get_lt (show i < m.length by omega)
    refine GX.opn am fun _ _ ha => ?_
    obtain ⟨h9, _⟩ | ⟨g, rfl⟩ := ha
    · rw [h9] at hx; simp at hx
    by_cases hts : i < ts.length
    · obtain ⟨t, htt⟩ := get_lt hts
      obtain ⟨k, hk⟩ : ∃ k, k = low10 t % (l ++ [c0]).length := ⟨_, rfl⟩
      have hkl : k < (l ++ [c0]).length := by rw [hk]; exact Nat.mod_lt _ (by omega)
      obtain ⟨y, hy⟩ := get_lt (show k < m.length by omega)
      refine GX.wbR ?_; intros
      rw [← hk]
      refine GX.drawn1 (GX.Own 38 tyCon (some ⟨g, 0, none⟩) cm _) (fun j => !(List.contains [13, 15] j)) [(0, true), (1, true), (2, true), (3, true), (4, true), (5, true), (6, true), (7, true), (8, true), (9, true), (10, true), (11, true), (12, true), (13, false), (14, true), (15, false)] rfl (by kernel_rfl) (by kernel_rfl) (by first | ((repeat (first | apply Go.GX.SelR.nil | apply Go.GX.SelR.cons | (with_reducible apply Go.GX.TakeR.head) | apply Go.GX.TakeR.tail)); done) | (repeat (first | apply Go.GX.SelR.nil | apply Go.GX.SelR.cons | apply Go.GX.TakeR.head | apply Go.GX.TakeR.tail))) ?_; intro wd F hW hR
      refine GX.wbT ?_; intros
      refine GX.unpin (GX.Own 38 tyCon (some ⟨g, 0, none⟩) cm _) ?_
      refine GX.wbT ?_; intros
      refine GX.wbR ?_; intros
      refine again (i + 1, (m.set i y).set k x) ⟨rfl, rfl, rfl, rfl, rfl, rfl, rfl, trivial⟩ ⟨by dsimp only; omega, by simp only [List.length_set]; exact hml, fun c => (mem_swap hx hy c).trans (hmm c)⟩ (by dsimp only; omega)
    · obtain ⟨k, hk⟩ : ∃ k : Nat, k = 0 := ⟨0, rfl⟩
      have h9 : (0 : Int) = (k : Int) := by omega
      have hkl : k < (l ++ [c0]).length := by omega
      obtain ⟨y, hy⟩ := get_lt (show k < m.length by omega)
      refine GX.wbR ?_; intros
      refine GX.keep [(0, .int .i64 N), (1, .int .i64 S), (2, .int .i64 W), (3, .slice ao l.length cap), (4, .slice s2 ts.length cp2), (11, .slice (some ⟨g, 0, none⟩) (l ++ [c0]).length cm), (12, .int .i64 (i : Int)), (13, .int .i64 (k : Int))] ⟨rfl, rfl, rfl, rfl, rfl, rfl, rfl, by rw [← h9]; rfl, trivial⟩ ?_
      refine GX.drawn1 (GX.Own 38 tyCon (some ⟨g, 0, none⟩) cm _) (fun j => !(List.contains [13, 15] j)) [(0, true), (1, true), (2, true), (3, true), (4, true), (5, true), (6, true), (7, true), (8, true), (9, true), (10, true), (11, true), (12, true), (13, false), (14, true), (15, false)] rfl (by kernel_rfl) (by kernel_rfl) (by first | ((repeat (first | apply Go.GX.SelR.nil | apply Go.GX.SelR.cons | (with_reducible apply Go.GX.TakeR.head) | apply Go.GX.TakeR.tail)); done) | (repeat (first | apply Go.GX.SelR.nil | apply Go.GX.SelR.cons | apply Go.GX.TakeR.head | apply Go.GX.TakeR.tail))) ?_; intro wd F hW hR
      refine GX.wbT ?_; intros
      refine GX.unpin (GX.Own 38 tyCon (some ⟨g, 0, none⟩) cm _) ?_
      refine GX.wbT ?_; intros
      refine GX.wbR ?_; intros
      refine again (i + 1, (m.set i y).set k x) ⟨rfl, rfl, rfl, rfl, rfl, rfl, rfl, trivial⟩ ⟨by dsimp only; omega, by simp only [List.length_set]; exact hml, fun c => (mem_swap hx hy c).trans (hmm c)⟩ (by dsimp only; omega)
  refine GX.wbR ?_; intros
  refine GX.o (cl (points_spec ao cap l N S W (by omega)) fun s => ?_)
  obtain ⟨cs1, p1, y1, e1⟩ := s
  dsimp only
  refine GX.wbR ?_; intros
  refine frz am ?_
  rw [← hml]
  refine GX.o (cl (points_spec am cm m N S W (by omega)) fun s => ?_)
  obtain ⟨cs2, p2, y2, e2⟩ := s
  obtain ⟨ey, ep⟩ := ptsR_eq (fun c => by rw [hmm]; simp; rintro rfl; exact List.mem_of_getElem? hc0) ⟨cs1, p1, y1, e1⟩ ⟨cs2, p2, y2, e2⟩
  dsimp only at ey ep ⊢
  subst ey; subst ep
  refine GX.wbR ?_; intros
  refine GX.o (cl (rSamePoints_spec _ _ p1 p1) fun _ => ?_)
  rw [decide_eq_true (show p1.nodes = p1.nodes ∧ p1.fields = p1.fields from ⟨rfl, rfl⟩)]
  refine GX.wbR ?_; intros
  refine GX.o (cl known20_spec fun _ => ?_)
  refine GX.wbR ?_; intros
  exact rt1 () rfl
theorem solveTurned_own : ownKnob Try.prog.godebug = none := by kernel_rfl
theorem solveTurned_laidOut : laidOutB Try.prog = true := by kernel_rfl
set_option maxRecDepth 100000 in
theorem solveTurned_lifted (os : Os) (started : os.Started) (H : Type) (enc : TypeId × Value → H) :
    ReturnsInHanded {} Try.checked os 6 .any (Rows.solveTurnedSpec.pre6 enc Try.prog Try.f6 Rows.solveTurnedRow.domain false) (Rows.solveTurnedSpec.post enc Try.prog Try.f6 false true false false) := by
  refine returnsInHanded_of_change (C := Try.checked) solveTurned_own started (by kernel_rfl) Try.func6
    (ChangeSpec.witness6 (enc := enc) (C := Try.checked) false ⟨#[], #[.int .i64 0, .int .i64 0, .int .i64 0, .slice none 0 0, .slice none 0 0], []⟩ 8 (by kernel_rfl) (by kernel_rfl) (by kernel_rfl) (by kernel_rfl)) ?_
  intro W base args ds gs before hval0 hW hcnd _
  have hval : ∀ (j : Nat) t v, Try.f6.params[j]? = some t → args[j]? = some v → Value.okWide Try.prog W .any base t v := hval0
  have hW' := hW
  obtain ⟨p, q, hA0, hV, rfl, hfz, hnd⟩ := hW
  have hA : DataW.TrodAll enc Try.prog W 0 (fun _ => true) true Try.f6.params.toList args.toList ds p := hA0
  rw [Try.params6] at hA hval
  obtain ⟨v0, vs0, d0, ds0, p0, q0, hargs, rfl, rfl, h0, r0⟩ := trodAll_cons hA
  obtain ⟨v1, vs1, d1, ds1, p1, q1, rfl, rfl, rfl, h1, r1⟩ := trodAll_cons r0
  obtain ⟨v2, vs2, d2, ds2, p2, q2, rfl, rfl, rfl, h2, r2⟩ := trodAll_cons r1
  obtain ⟨v3, vs3, d3, ds3, p3, q3, rfl, rfl, rfl, h3, r3⟩ := trodAll_cons r2
  obtain ⟨v4, vs4, d4, ds4, p4, q4, rfl, rfl, rfl, h4, r4⟩ := trodAll_cons r3
  obtain ⟨rfl, rfl, rfl⟩ := trodAll_nil r4
  obtain rfl : args = #[v0, v1, v2, v3, v4] := by cases args; simp_all
  obtain ⟨rfl, rfl⟩ := trodVars_none hV
  have hlt := hW'.lt
  have hl0 : ∀ x ∈ p0, x.block < W.heap.size := fun x hx => hlt x (by simp [hx])
  obtain ⟨a0, rfl, e0, g0, w0⟩ := open_int Try.underlying3 (hval 0 3 v0 rfl rfl) h0
  have b0 : -9223372036854775808 ≤ a0 ∧ a0 ≤ 9223372036854775807 := wf_i64 w0
  have hl1 : ∀ x ∈ p1, x.block < W.heap.size := fun x hx => hlt x (by simp [hx])
  obtain ⟨a1, rfl, e1, g1, w1⟩ := open_int Try.underlying3 (hval 1 3 v1 rfl rfl) h1
  have b1 : -9223372036854775808 ≤ a1 ∧ a1 ≤ 9223372036854775807 := wf_i64 w1
  have hl2 : ∀ x ∈ p2, x.block < W.heap.size := fun x hx => hlt x (by simp [hx])
  obtain ⟨a2, rfl, e2, g2, w2⟩ := open_int Try.underlying3 (hval 2 3 v2 rfl rfl) h2
  have b2 : -9223372036854775808 ≤ a2 ∧ a2 ≤ 9223372036854775807 := wf_i64 w2
  have hl3 : ∀ x ∈ p3, x.block < W.heap.size := fun x hx => hlt x (by simp [hx])
  obtain ⟨s3, n3, c3, rfl⟩ := okWide_slice Try.underlying22 (hval 3 22 v3 rfl rfl)
  obtain ⟨x3, z3, o3⟩ := conv_cons enc W _ _ _ _ _ h3.choose_spec
  obtain ⟨rfl, f3⟩ := sl_in z3
  have hl4 : ∀ x ∈ p4, x.block < W.heap.size := fun x hx => hlt x (by simp [hx])
  obtain ⟨s4, n4, c4, rfl⟩ := okWide_slice Try.underlying35 (hval 4 35 v4 rfl rfl)
  obtain ⟨x4, z4, o4⟩ := cv_ints enc W _ _ _ _ _ h4.choose_spec
  obtain ⟨rfl, f4⟩ := sl_in z4
  refine ((solveTurned_does a0 b0 a1 b1 a2 b2 s3 c3 x3 o3 s4 c4 x4 o4).calls W (all_cons f3 (all_cons f4 all_nil))).mono fun e W' ⟨he, hu⟩ => ?_
  subst he
  have hb := hu.below
  exact ⟨_, rfl, _, _, _, [], _, [], hW', trodAll_cons_mk (shut_bool Try.underlying4 _) trodAll_mk0, (trodAll_cons_mk (hb.trod solveTurned_laidOut (by kernel_rfl) (of_decide_eq_true (by kernel_rfl)) h0 hl0) (trodAll_cons_mk (hb.trod solveTurned_laidOut (by kernel_rfl) (of_decide_eq_true (by kernel_rfl)) h1 hl1) (trodAll_cons_mk (hb.trod solveTurned_laidOut (by kernel_rfl) (of_decide_eq_true (by kernel_rfl)) h2 hl2) (trodAll_cons_mk (hb.trod solveTurned_laidOut (by kernel_rfl) (of_decide_eq_true (by kernel_rfl)) h3 hl3) (trodAll_cons_mk (hb.trod solveTurned_laidOut (by kernel_rfl) (of_decide_eq_true (by kernel_rfl)) h4 hl4) trodAll_mk0))))), rfl, hb.frame _, fun h => by cases h⟩
theorem solveTurned_holds : Rows.SolveTurnedSaid :=
  OpenClaim.holds_of_wide 6 Try.f6 rfl rfl rfl rfl rfl rfl rfl ⟨rfl, rfl, rfl, rfl, rfl⟩ rfl rfl rfl rfl rfl (by kernel_rfl) Try.func6 (by kernel_rfl)
    (of_decide_eq_true (by kernel_rfl)) (by unfold Func.isWrapper; first | (rw [if_pos (by decide +kernel)]; kernel_rfl) | (rw [if_neg (by decide +kernel)]; exact ⟨rfl, rfl⟩))
    (fun os started H enc _ => solveTurned_lifted os started H enc)
end Go.Proofs.Ytkagjpkgboeaiaa
