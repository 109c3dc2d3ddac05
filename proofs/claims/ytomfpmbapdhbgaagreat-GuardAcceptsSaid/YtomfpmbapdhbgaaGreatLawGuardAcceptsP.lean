import Derived.Test.YtomfpmbapdhbgaaGreatP1
import Derived.Test.YtomfpmbapdhbgaaGreatP2
import Derived.Test.YtomfpmbapdhbgaaGreatP3
import Derived.Test.YtomfpmbapdhbgaaGreatP4
import Derived.Test.YtomfpmbapdhbgaaGreatP5
import Derived.Test.YtomfpmbapdhbgaaGreatP6
import Derived.Test.YtomfpmbapdhbgaaGreatP7
import Derived.Test.YtomfpmbapdhbgaaGreatP8
import Derived.Test.YtomfpmbapdhbgaaGreatP9
import Derived.Test.YtomfpmbapdhbgaaGreatP10
import Derived.Test.YtomfpmbapdhbgaaGreatP11
import Derived.Test.YtomfpmbapdhbgaaGreatP12
import Derived.Test.YtomfpmbapdhbgaaGreatP13
import Derived.Test.YtomfpmbapdhbgaaGreatP14
import Derived.Test.YtomfpmbapdhbgaaGreatP15
import Derived.Test.YtomfpmbapdhbgaaGreatP16
import Derived.Test.YtomfpmbapdhbgaaGreatP17
import Derived.Test.YtomfpmbapdhbgaaGreatP18
import Derived.Test.YtomfpmbapdhbgaaGreatP19
import Derived.Test.YtomfpmbapdhbgaaGreatP20
import Derived.Test.YtomfpmbapdhbgaaGreatP21
import Derived.Test.YtomfpmbapdhbgaaGreatP22
import Derived.Test.YtomfpmbapdhbgaaGreatP23
import Derived.Test.YtomfpmbapdhbgaaGreatP24
import Derived.Test.YtomfpmbapdhbgaaGreatP25
import Derived.Test.YtomfpmbapdhbgaaGreatP26
import Derived.Test.YtomfpmbapdhbgaaGreatP27
import Derived.Test.YtomfpmbapdhbgaaGreatP28
import Derived.Test.YtomfpmbapdhbgaaGreatP29
import Derived.Test.YtomfpmbapdhbgaaGreatP30
import Derived.Test.YtomfpmbapdhbgaaGreatP31
import Derived.Test.YtomfpmbapdhbgaaGreatP32
import Derived.Test.YtomfpmbapdhbgaaGreatP33
import Derived.Test.YtomfpmbapdhbgaaGreatP34
import Derived.Test.YtomfpmbapdhbgaaGreatP35
/- GuardAccepts: for all programs t with regions the law returns true; its argument reads as before. No condition. -/
namespace Go.Proofs.YtomfpmbapdhbgaaGreat
open Go Go.RR Go.RX Go.GX Go.Api Go.RtM Go.ChangeShapes Go.WideShapes Go.ChangeAt Go.RowKit
attribute [local irreducible] wpList Code.wp wpPlan Exit.then Exit.inBlock bodyPost NoPanic Went GX.Post GX.Again GX.Meet GX.RowR GX.Own GX.Owns GX.Box GX.Sl GX.Pt GX.Ag GX.MapR GX.Kept GX.Pin wpT GoK AtEnd Both

theorem guardAccepts_does (cs : List Value) (t : RTg) (_ : RTg.ok t) : Does Tryz.prog 3 [.agg cs.toArray] [Ag tyRTg cs t] [] (fun _ : Unit => .bool true) (fun _ => []) (fun _ => []) := by
  refine enter Tryz.func3 rfl Tryz.ntmps3 rfl fun b => ?_
  refine GX.wR ?_; intros
  refine GX.nmP 1 ?_; rintro b1 rfl
  refine GX.nmA 3 ?_; rintro c3 rfl
  refine GX.o (cl (great28_spec c3 t) fun _ => ?_)
  by_cases hT : Tiny t
  · have hT' := Classical.not_not.2 hT
    have hq : (decide (AccT t) == decide (AccT t)) = true := by simp
    refine GX.wR ?_; intros
    refine GX.drawn0  (fun j => !(List.contains [3, 6] j)) [(0, true), (2, true), (1, false), (3, false), (4, true), (5, true), (6, false), (7, true), (8, true)] rfl (by kernel_rfl) (by kernel_rfl) (by first | ((repeat (first | apply Go.GX.SelR.nil | apply Go.GX.SelR.cons | (with_reducible apply Go.GX.TakeR.head) | apply Go.GX.TakeR.tail)); done) | (repeat (first | apply Go.GX.SelR.nil | apply Go.GX.SelR.cons | apply Go.GX.TakeR.head | apply Go.GX.TakeR.tail))) ?_; intro wd F hW hR
    refine GX.wT ?_; intros
    refine GX.nmA 5 ?_; rintro c5 rfl
    refine GX.nmA 7 ?_; rintro c7 rfl
    refine GX.gow ?_
    refine (cl (accepts_spec c5 t hT) fun _ => ?_)
    refine GX.wT ?_; intros
    refine GX.gow ?_
    refine (cl (raccepts_spec c7 t hT) fun _ => ?_)
    refine GX.wT ?_; intros
    refine GX.gow ?_
    refine (cl known28_spec fun _ => ?_)
    refine GX.wT ?_; intros
    refine GX.wR ?_; intros
    exact rt1 () rfl
  · refine GX.wR ?_; intros
    exact rt1 () rfl

theorem guardAccepts_own : ownKnob Tryz.prog.godebug = none := by kernel_rfl
theorem guardAccepts_laidOut : laidOutB Tryz.prog = true := by kernel_rfl
set_option maxRecDepth 100000 in
theorem guardAccepts_lifted (os : Os) (started : os.Started) (H : Type) (enc : TypeId × Value → H) :
    ReturnsInHanded {} Tryz.checked os 3 .any (Rows.guardAcceptsSpec.pre6 enc Tryz.prog Tryz.f3 Rows.guardAcceptsRow.domain false) (Rows.guardAcceptsSpec.post enc Tryz.prog Tryz.f3 false true false false) := by
  refine returnsInHanded_of_change (C := Tryz.checked) guardAccepts_own started (by kernel_rfl) Tryz.func3
    (ChangeSpec.witness6 (enc := enc) (C := Tryz.checked) false ⟨#[], #[.agg #[(.slice none 0 0), (.slice none 0 0), (.slice none 0 0), (.int .i64 0)]], []⟩ 8 (by kernel_rfl) (by kernel_rfl) (by kernel_rfl) (by kernel_rfl)) ?_
  intro W base args ds gs before hval0 hW hcnd _
  have hval : ∀ (j : Nat) t v, Tryz.f3.params[j]? = some t → args[j]? = some v → Value.okWide Tryz.prog W .any base t v := hval0
  have hW' := hW
  obtain ⟨p, q, hA0, hV, rfl, hfz, hnd⟩ := hW
  have hA : DataW.TrodAll enc Tryz.prog W 0 (fun _ => true) true Tryz.f3.params.toList args.toList ds p := hA0
  rw [Tryz.params3] at hA hval
  obtain ⟨v0, vs0, d0, ds0, p0, q0, hargs, rfl, rfl, h0, r0⟩ := trodAll_cons hA
  obtain ⟨rfl, rfl, rfl⟩ := trodAll_nil r0
  obtain rfl : args = #[v0] := by cases args; simp_all
  obtain ⟨rfl, rfl⟩ := trodVars_none hV
  have hlt := hW'.lt
  have hl0 : ∀ x ∈ p0, x.block < W.heap.size := fun x hx => hlt x (by simp [hx])
  obtain ⟨c0, rfl⟩ : ∃ cs, v0 = .agg cs := by have := hval 0 26 v0 rfl rfl; unfold Value.okWide at this; rw [Tryz.underlying26] at this; obtain ⟨cs, h, _⟩ := this; exact ⟨cs, h⟩
  obtain ⟨x0, z0, o0⟩ := conv_rtg enc W _ _ _ _ _ h0.choose_spec
  have f0 := ag_in z0
  refine ((guardAccepts_does c0.toList x0 o0).calls W (all_cons f0 all_nil)).mono fun e W' ⟨he, hu⟩ => ?_
  subst he
  have hb := hu.below
  exact ⟨_, rfl, _, _, _, [], _, [], hW', trodAll_cons_mk (shut_bool Tryz.underlying4 _) trodAll_mk0, (trodAll_cons_mk (hb.trod guardAccepts_laidOut (by kernel_rfl) (of_decide_eq_true (by kernel_rfl)) h0 hl0) trodAll_mk0), rfl, hb.frame _, fun h => by cases h⟩
theorem guardAccepts_holds : Rows.GuardAcceptsSaid :=
  OpenClaim.holds_of_wide 3 Tryz.f3 rfl rfl rfl rfl rfl rfl rfl ⟨rfl, rfl, rfl, rfl, rfl⟩ rfl rfl rfl rfl rfl (by kernel_rfl) Tryz.func3 (by kernel_rfl)
    (of_decide_eq_true (by kernel_rfl)) (by unfold Func.isWrapper; first | (rw [if_pos (by decide +kernel)]; kernel_rfl) | (rw [if_neg (by decide +kernel)]; exact ⟨rfl, rfl⟩))
    (fun os started H enc _ => guardAccepts_lifted os started H enc)
end Go.Proofs.YtomfpmbapdhbgaaGreat
