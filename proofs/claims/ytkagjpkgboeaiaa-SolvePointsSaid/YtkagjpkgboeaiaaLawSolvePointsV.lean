import Derived.Test.YtkagjpkgboeaiaaV1
import Derived.Test.YtkagjpkgboeaiaaV2
import Derived.Test.YtkagjpkgboeaiaaV3
import Derived.Test.YtkagjpkgboeaiaaV4
import Derived.Test.YtkagjpkgboeaiaaV5
import Derived.Test.YtkagjpkgboeaiaaV6
import Derived.Test.YtkagjpkgboeaiaaV7
import Derived.Test.YtkagjpkgboeaiaaV8
import Derived.Test.YtkagjpkgboeaiaaV9
import Derived.Test.YtkagjpkgboeaiaaV10
import Derived.Test.YtkagjpkgboeaiaaV11
import Derived.Test.YtkagjpkgboeaiaaV12
import Derived.Test.YtkagjpkgboeaiaaV13
import Derived.Test.YtkagjpkgboeaiaaV14
import Derived.Test.YtkagjpkgboeaiaaV15
import Derived.Test.YtkagjpkgboeaiaaV16
import Derived.Test.YtkagjpkgboeaiaaV17
import Derived.Test.YtkagjpkgboeaiaaV18
import Derived.Test.YtkagjpkgboeaiaaV19
import Derived.Test.YtkagjpkgboeaiaaV20
import Derived.Test.YtkagjpkgboeaiaaV21
import Derived.Test.YtkagjpkgboeaiaaV22
import Derived.Test.YtkagjpkgboeaiaaV23
/- SolvePoints: for all numbers and constraints the law returns true; its arguments read as before. No condition. -/
namespace Go.Proofs.Ytkagjpkgboeaiaa
open Go Go.RR Go.RX Go.GX Go.Api Go.RiseM Go.SolM Go.ChangeShapes Go.WideShapes Go.ChangeAt Go.RowKit
attribute [local irreducible] wpList Code.wp wpPlan Exit.then Exit.inBlock bodyPost NoPanic Went GX.Post GX.Again GX.Meet GX.RowR GX.Own GX.Owns GX.Box GX.Sl GX.Pt GX.Ag GX.MapR GX.Kept GX.Pin wpT GoK AtEnd Both
set_option maxHeartbeats 4000000 in
theorem solvePoints_does (N : Int) (_ : I64 N) (S : Int) (_ : I64 S) (W : Int) (_ : I64 W) (ao : Option Addr) (cap : Nat) (l : List Con) (_ : ∀ x ∈ l, Con.ok x) : Does Try.prog 3 [.int .i64 N, .int .i64 S, .int .i64 W, .slice ao l.length cap] [Sl tyCon ao cap l] [] (fun _ : Unit => .bool true) (fun _ => []) (fun _ => []) := by
  refine enter Try.func3 rfl Try.ntmps3 rfl fun b => ?_
  refine sln ao fun h1 _ _ => ?_
  by_cases hn : 300 < N ∧ N ≤ 70000
  · obtain ⟨hn1, hn2⟩ := hn
    refine GX.wbR ?_; intros
    exact rt1 () rfl
  by_cases h60 : 120 < (l.length : Int)
  · by_cases hn1 : 300 < N
    · have hn2 : ¬ N ≤ 70000 := fun h => hn ⟨hn1, h⟩
      refine GX.wbR ?_; intros
      exact rt1 () rfl
    · refine GX.wbR ?_; intros
      exact rt1 () rfl
  refine GX.wbRN ?_; intros
  apply GX.region
  refine GX.wbRN ?_; intros
  refine GX.cut (σ := Unit) (fun _ => [(0, .int .i64 N), (1, .int .i64 S), (2, .int .i64 W), (3, .slice ao l.length cap), (23, .bool false)]) (fun _ => []) (fun _ => []) (fun _ => True) ?_ (fun _ _ => ?_)
  · by_cases hn1 : 300 < N
    · have hn2 : ¬ N ≤ 70000 := fun h => hn ⟨hn1, h⟩
      refine GX.wbR ?_; intros
      exact meet () ⟨rfl, rfl, rfl, rfl, congrArg (fun b => some (Value.bool b)) (decide_eq_false h60), trivial⟩ trivial
    · refine GX.wbR ?_; intros
      exact meet () ⟨rfl, rfl, rfl, rfl, congrArg (fun b => some (Value.bool b)) (decide_eq_false h60), trivial⟩ trivial
  refine GX.wbR ?_; intros
  refine GX.o (cl (points_spec ao cap l N S W (by omega)) fun s => ?_)
  obtain ⟨cs1, p1, y1, e1⟩ := s
  dsimp only
  refine GX.wbR ?_; intros
  refine GX.o (cl (rpoints_spec ao cap l N S W (by omega)) fun s => ?_)
  obtain ⟨cs2, p2, y2, e2⟩ := s
  obtain ⟨ey, ep⟩ := ptsR_eq (fun c => Iff.rfl) ⟨cs1, p1, y1, e1⟩ ⟨cs2, p2, y2, e2⟩
  dsimp only at ey ep ⊢
  subst ey; subst ep
  refine GX.wbR ?_; intros
  refine GX.o (cl (rSamePoints_spec _ _ p1 p1) fun _ => ?_)
  rw [decide_eq_true (show p1.nodes = p1.nodes ∧ p1.fields = p1.fields from ⟨rfl, rfl⟩)]
  refine GX.wbR ?_; intros
  refine GX.o (cl known20_spec fun _ => ?_)
  refine GX.wbR ?_; intros
  exact rt1 () rfl
theorem solvePoints_own : ownKnob Try.prog.godebug = none := by kernel_rfl
theorem solvePoints_laidOut : laidOutB Try.prog = true := by kernel_rfl
set_option maxRecDepth 100000 in
theorem solvePoints_lifted (os : Os) (started : os.Started) (H : Type) (enc : TypeId × Value → H) :
    ReturnsInHanded {} Try.checked os 3 .any (Rows.solvePointsSpec.pre6 enc Try.prog Try.f3 Rows.solvePointsRow.domain false) (Rows.solvePointsSpec.post enc Try.prog Try.f3 false true false false) := by
  refine returnsInHanded_of_change (C := Try.checked) solvePoints_own started (by kernel_rfl) Try.func3
    (ChangeSpec.witness6 (enc := enc) (C := Try.checked) false ⟨#[], #[.int .i64 0, .int .i64 0, .int .i64 0, .slice none 0 0], []⟩ 8 (by kernel_rfl) (by kernel_rfl) (by kernel_rfl) (by kernel_rfl)) ?_
  intro W base args ds gs before hval0 hW hcnd _
  have hval : ∀ (j : Nat) t v, Try.f3.params[j]? = some t → args[j]? = some v → Value.okWide Try.prog W .any base t v := hval0
  have hW' := hW
  obtain ⟨p, q, hA0, hV, rfl, hfz, hnd⟩ := hW
  have hA : DataW.TrodAll enc Try.prog W 0 (fun _ => true) true Try.f3.params.toList args.toList ds p := hA0
  rw [Try.params3] at hA hval
  obtain ⟨v0, vs0, d0, ds0, p0, q0, hargs, rfl, rfl, h0, r0⟩ := trodAll_cons hA
  obtain ⟨v1, vs1, d1, ds1, p1, q1, rfl, rfl, rfl, h1, r1⟩ := trodAll_cons r0
  obtain ⟨v2, vs2, d2, ds2, p2, q2, rfl, rfl, rfl, h2, r2⟩ := trodAll_cons r1
  obtain ⟨v3, vs3, d3, ds3, p3, q3, rfl, rfl, rfl, h3, r3⟩ := trodAll_cons r2
  obtain ⟨rfl, rfl, rfl⟩ := trodAll_nil r3
  obtain rfl : args = #[v0, v1, v2, v3] := by cases args; simp_all
  obtain ⟨rfl, rfl⟩ := trodVars_none hV
  have hlt := hW'.lt
  have hl0 : ∀ x ∈ p0, x.block < W.heap.size := fun x hx => hlt x (by simp [hx])
  obtain ⟨a0, rfl, e0, g0, w0⟩ := open_int Try.underlying3 (hval 0 3 v0 rfl rfl) h0
  have b0 : -9223372036854775808 ≤ a0 ∧ a0 ≤ 9223372036854775807 := wf_i64 w0
  have hl1 : ∀ x ∈ p1, x.block < W.heap.size := fun x hx => hlt x (by simp [hx])
  obtain ⟨a1, rfl, e1, g1, w1⟩ := open_int Try.underlying3 (hval 1 3 v1 rfl rfl) h1
  have b1 : -9223372036854775808 ≤ a1 ∧ a1 ≤ 9223372036854775807 := wf_i64 w1
  have hl2 : ∀ x ∈ p2, x.block < W.heap.size := fun x hx => hlt x (by simp [hx])
  obtain ⟨a2, rfl, e2, g2, w2⟩ := open_int Try.underlying3 (hval 2 3 v2 rfl rfl) h2
  have b2 : -9223372036854775808 ≤ a2 ∧ a2 ≤ 9223372036854775807 := wf_i64 w2
  have hl3 : ∀ x ∈ p3, x.block < W.heap.size := fun x hx => hlt x (by simp [hx])
  obtain ⟨s3, n3, c3, rfl⟩ := okWide_slice Try.underlying22 (hval 3 22 v3 rfl rfl)
  obtain ⟨x3, z3, o3⟩ := conv_cons enc W _ _ _ _ _ h3.choose_spec
  obtain ⟨rfl, f3⟩ := sl_in z3
  refine ((solvePoints_does a0 b0 a1 b1 a2 b2 s3 c3 x3 o3).calls W (all_cons f3 all_nil)).mono fun e W' ⟨he, hu⟩ => ?_
  subst he
  have hb := hu.below
  exact ⟨_, rfl, _, _, _, [], _, [], hW', trodAll_cons_mk (shut_bool Try.underlying4 _) trodAll_mk0, (trodAll_cons_mk (hb.trod solvePoints_laidOut (by kernel_rfl) (of_decide_eq_true (by kernel_rfl)) h0 hl0) (trodAll_cons_mk (hb.trod solvePoints_laidOut (by kernel_rfl) (of_decide_eq_true (by kernel_rfl)) h1 hl1) (trodAll_cons_mk (hb.trod solvePoints_laidOut (by kernel_rfl) (of_decide_eq_true (by kernel_rfl)) h2 hl2) (trodAll_cons_mk (hb.trod solvePoints_laidOut (by kernel_rfl) (of_decide_eq_true (by kernel_rfl)) h3 hl3) trodAll_mk0)))), rfl, hb.frame _, fun h => by cases h⟩
theorem solvePoints_holds : Rows.SolvePointsSaid :=
  OpenClaim.holds_of_wide 3 Try.f3 rfl rfl rfl rfl rfl rfl rfl ⟨rfl, rfl, rfl, rfl, rfl⟩ rfl rfl rfl rfl rfl (by kernel_rfl) Try.func3 (by kernel_rfl)
    (of_decide_eq_true (by kernel_rfl)) (by unfold Func.isWrapper; first | (rw [if_pos (by decide +kernel)]; kernel_rfl) | (rw [if_neg (by decide +kernel)]; exact ⟨rfl, rfl⟩))
    (fun os started H enc _ => solvePoints_lifted os started H enc)
end Go.Proofs.Ytkagjpkgboeaiaa
