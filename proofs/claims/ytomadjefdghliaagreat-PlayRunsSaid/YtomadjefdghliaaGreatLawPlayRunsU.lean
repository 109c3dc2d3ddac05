import Derived.Test.YtomadjefdghliaaGreatU1
import Derived.Test.YtomadjefdghliaaGreatU2
import Derived.Test.YtomadjefdghliaaGreatU3
import Derived.Test.YtomadjefdghliaaGreatU4
import Derived.Test.YtomadjefdghliaaGreatU5
import Derived.Test.YtomadjefdghliaaGreatU6
import Derived.Test.YtomadjefdghliaaGreatU7
import Derived.Test.YtomadjefdghliaaGreatU8
import Derived.Test.YtomadjefdghliaaGreatU9
import Derived.Test.YtomadjefdghliaaGreatU10
import Derived.Test.YtomadjefdghliaaGreatU11
import Derived.Test.YtomadjefdghliaaGreatU12
import Derived.Test.YtomadjefdghliaaGreatU13
import Derived.Test.YtomadjefdghliaaGreatU14
import Derived.Test.YtomadjefdghliaaGreatU15
import Derived.Test.YtomadjefdghliaaGreatU16
import Derived.Test.YtomadjefdghliaaGreatU17
import Derived.Test.YtomadjefdghliaaGreatU18
import Derived.Test.YtomadjefdghliaaGreatU19
import Derived.Test.YtomadjefdghliaaGreatU20
import Derived.Test.YtomadjefdghliaaGreatU21
import Derived.Test.YtomadjefdghliaaGreatU22
import Derived.Test.YtomadjefdghliaaGreatU23
import Derived.Test.YtomadjefdghliaaGreatU24
import Derived.Test.YtomadjefdghliaaGreatU25
import Derived.Test.YtomadjefdghliaaGreatU26
import Derived.Test.YtomadjefdghliaaGreatU27
import Derived.Test.YtomadjefdghliaaGreatU28
import Derived.Test.YtomadjefdghliaaGreatU29
import Derived.Test.YtomadjefdghliaaGreatU30
import Derived.Test.YtomadjefdghliaaGreatU31
import Derived.Test.YtomadjefdghliaaGreatU32
import Derived.Test.YtomadjefdghliaaGreatU33
import Derived.Test.YtomadjefdghliaaGreatU34
import Derived.Test.YtomadjefdghliaaGreatU35
import Derived.Test.YtomadjefdghliaaGreatU36
/- PlayRuns: for all programs t with regions, all lists of integers in and all integers fuel the law returns true; its arguments read as before. No condition. -/
namespace Go.Proofs.YtomadjefdghliaaGreat
open Go Go.RR Go.RX Go.GX Go.Api Go.RtM Go.ChangeShapes Go.WideShapes Go.ChangeAt Go.RowKit
attribute [local irreducible] wpList Code.wp wpPlan Exit.then Exit.inBlock bodyPost NoPanic Went GX.Post GX.Again GX.Meet GX.RowR GX.Own GX.Owns GX.Box GX.Sl GX.Pt GX.Ag GX.MapR GX.Kept GX.Pin wpT GoK AtEnd Both

theorem playRuns_does (cs : List Value) (t : RTg) (_ : RTg.ok t) (ao : Option Addr) (cap : Nat) (inp : List Int) (_ : ∀ x ∈ inp, I64 x) (fuel : Int) (_ : -9223372036854775808 ≤ fuel ∧ fuel ≤ 9223372036854775807) :
  Does Tryz.prog 3 [.agg cs.toArray, .slice ao inp.length cap, .int .i64 fuel] [Ag tyRTg cs t, Sl Ty.int ao cap inp] [] (fun _ : Unit => .bool true) (fun _ => []) (fun _ => []) := by
 refine enter Tryz.func3 rfl Tryz.ntmps3 rfl fun b => ?_
 refine GX.wR ?_; intros
 refine GX.nmP 3 ?_; rintro b3 rfl
 refine GX.nmA 7 ?_; rintro c7 rfl
 refine GX.o (cl (great30_spec c7 t) fun _ => ?_)
 by_cases hT : Tiny t
 ·have hT' := Classical.not_not.2 hT
  by_cases hi : 100 < (inp.length : Int)
  ·refine GX.wR ?_; intros
   exact rt1 () rfl
  by_cases g1 : 4000 < fuel
  ·refine GX.wR ?_; intros
   exact rt1 () rfl
  refine GX.wR ?_; intros
  refine GX.drawn0  (fun j => !(List.contains [7, 8, 10] j)) [(0, true), (1, true), (2, true), (4, true), (5, true), (6, true), (3, false), (7, false), (8, false), (9, true), (10, false), (11, true), (12, true)] rfl (by kernel_rfl) (by kernel_rfl) GX.sA ?_; intro wd F hW hR
  refine GX.wT ?_; intros
  refine GX.nmA 18 ?_; rintro c18 rfl
  refine GX.nmA 22 ?_; rintro c22 rfl
  refine GX.gow ?_
  refine (cl (run_spec c18 t hT.small hT.tame ao cap inp fuel (by omega)) fun s => ?_)
  refine GX.wT ?_; intros
  refine GX.gow ?_
  refine (cl (rrun_spec c22 t hT.small hT.tame (fun g hg => by have := (hT.2.2 g hg).1.2.2.1; omega) ao cap inp fuel (by omega)) fun s2 => ?_)
  generalize playP t inp fuel = y
  have hyy : y = y := rfl
  refine GX.wT ?_; intros
  refine GX.nmA 21 ?_; rintro c21 rfl
  refine GX.nmA 25 ?_; rintro c25 rfl
  refine GX.gow ?_
  refine (cl (same29_spec30 c21 c25 y y) fun _ => ?_)
  rw [show decide (y = y) = true from decide_eq_true rfl]
  refine GX.wT ?_; intros
  refine GX.gow ?_
  refine (cl known30_spec fun _ => ?_)
  refine GX.wT ?_; intros
  refine GX.wR ?_; intros
  exact rt1 () rfl
 ·refine GX.wR ?_; intros
  exact rt1 () rfl
theorem playRuns_own : ownKnob Tryz.prog.godebug = none := by kernel_rfl
theorem playRuns_laidOut : laidOutB Tryz.prog = true := by kernel_rfl
set_option maxRecDepth 100000 in
theorem playRuns_lifted (os : Os) (started : os.Started) (H : Type) (enc : TypeId × Value → H) :
  ReturnsInHanded {} Tryz.checked os 3 .any (Rows.playRunsSpec.pre6 enc Tryz.prog Tryz.f3 Rows.playRunsRow.domain false) (Rows.playRunsSpec.post enc Tryz.prog Tryz.f3 false true false false) := by
 refine returnsInHanded_of_change (C := Tryz.checked) playRuns_own started (by kernel_rfl) Tryz.func3
  (ChangeSpec.witness6 (enc := enc) (C := Tryz.checked) false ⟨#[], #[.agg #[(.slice none 0 0), (.slice none 0 0), (.slice none 0 0), (.int .i64 0)], .slice none 0 0, .int .i64 0], []⟩ 8 (by kernel_rfl) (by kernel_rfl) (by kernel_rfl) (by kernel_rfl)) ?_
 intro W base args ds gs before hval0 hW hcnd _
 have hval : ∀ (j : Nat) t v, Tryz.f3.params[j]? = some t → args[j]? = some v → Value.okWide Tryz.prog W .any base t v := hval0
 have hW' := hW
 obtain ⟨p, q, hA0, hV, rfl, hfz, hnd⟩ := hW
 have hA : DataW.TrodAll enc Tryz.prog W 0 (fun _ => true) true Tryz.f3.params.toList args.toList ds p := hA0
 rw [Tryz.params3] at hA hval
 obtain ⟨v0, vs0, d0, ds0, p0, q0, hargs, rfl, rfl, h0, r0⟩ := trodAll_cons hA
 obtain ⟨v1, vs1, d1, ds1, p1, q1, rfl, rfl, rfl, h1, r1⟩ := trodAll_cons r0
 obtain ⟨v2, vs2, d2, ds2, p2, q2, rfl, rfl, rfl, h2, r2⟩ := trodAll_cons r1
 obtain ⟨rfl, rfl, rfl⟩ := trodAll_nil r2
 obtain rfl : args = #[v0, v1, v2] := by cases args; simp_all
 obtain ⟨rfl, rfl⟩ := trodVars_none hV
 have hlt := hW'.lt
 have hl0 : ∀ x ∈ p0, x.block < W.heap.size := fun x hx => hlt x (by simp [hx])
 obtain ⟨c0, rfl⟩ : ∃ cs, v0 = .agg cs := by have := hval 0 26 v0 rfl rfl; unfold Value.okWide at this; rw [Tryz.underlying26] at this; obtain ⟨cs, h, _⟩ := this; exact ⟨cs, h⟩
 obtain ⟨x0, z0, o0⟩ := conv_rtg enc W _ _ _ _ _ h0.choose_spec
 have f0 := ag_in z0
 have hl1 : ∀ x ∈ p1, x.block < W.heap.size := fun x hx => hlt x (by simp [hx])
 obtain ⟨s1, n1, c1, rfl⟩ := okWide_slice Tryz.underlying23 (hval 1 23 v1 rfl rfl)
 obtain ⟨x1, z1, o1⟩ := cv_ints enc W _ _ _ _ _ h1.choose_spec
 obtain ⟨rfl, f1⟩ := sl_in z1
 have hl2 : ∀ x ∈ p2, x.block < W.heap.size := fun x hx => hlt x (by simp [hx])
 obtain ⟨a2, rfl, e2, g2, w2⟩ := open_int Tryz.underlying3 (hval 2 3 v2 rfl rfl) h2
 have b2 : -9223372036854775808 ≤ a2 ∧ a2 ≤ 9223372036854775807 := wf_i64 w2
 refine ((playRuns_does c0.toList x0 o0 s1 c1 x1 o1 a2 b2).calls W (all_cons f0 (all_cons f1 all_nil))).mono fun e W' ⟨he, hu⟩ => ?_
 subst he
 have hb := hu.below
 exact ⟨_, rfl, _, _, _, [], _, [], hW', trodAll_cons_mk (shut_bool Tryz.underlying4 _) trodAll_mk0, (trodAll_cons_mk (hb.trod playRuns_laidOut (by kernel_rfl) (of_decide_eq_true (by kernel_rfl)) h0 hl0) (trodAll_cons_mk (hb.trod playRuns_laidOut (by kernel_rfl) (of_decide_eq_true (by kernel_rfl)) h1 hl1) (trodAll_cons_mk (hb.trod playRuns_laidOut (by kernel_rfl) (of_decide_eq_true (by kernel_rfl)) h2 hl2) trodAll_mk0))), rfl, hb.frame _, fun h => by cases h⟩
theorem playRuns_holds : Rows.PlayRunsSaid :=
 OpenClaim.holds_of_wide 3 Tryz.f3 rfl rfl rfl rfl rfl rfl rfl ⟨rfl, rfl, rfl, rfl, rfl⟩ rfl rfl rfl rfl rfl (by kernel_rfl) Tryz.func3 (by kernel_rfl)
  (of_decide_eq_true (by kernel_rfl)) (by unfold Func.isWrapper; first | (rw [if_pos (by decide +kernel)]; kernel_rfl) | (rw [if_neg (by decide +kernel)]; exact ⟨rfl, rfl⟩))
  (fun os started H enc _ => playRuns_lifted os started H enc)
end Go.Proofs.YtomadjefdghliaaGreat
