import Derived.Test.YtomadjefdghliaaGreatW1
import Derived.Test.YtomadjefdghliaaGreatW2
import Derived.Test.YtomadjefdghliaaGreatW3
import Derived.Test.YtomadjefdghliaaGreatW4
import Derived.Test.YtomadjefdghliaaGreatW5
import Derived.Test.YtomadjefdghliaaGreatW6
import Derived.Test.YtomadjefdghliaaGreatW7
import Derived.Test.YtomadjefdghliaaGreatW8
import Derived.Test.YtomadjefdghliaaGreatW9
import Derived.Test.YtomadjefdghliaaGreatW10
import Derived.Test.YtomadjefdghliaaGreatW11
import Derived.Test.YtomadjefdghliaaGreatW12
import Derived.Test.YtomadjefdghliaaGreatW13
import Derived.Test.YtomadjefdghliaaGreatW14
import Derived.Test.YtomadjefdghliaaGreatW15
import Derived.Test.YtomadjefdghliaaGreatW16
import Derived.Test.YtomadjefdghliaaGreatW17
import Derived.Test.YtomadjefdghliaaGreatW18
import Derived.Test.YtomadjefdghliaaGreatW19
import Derived.Test.YtomadjefdghliaaGreatW20
import Derived.Test.YtomadjefdghliaaGreatW21
import Derived.Test.YtomadjefdghliaaGreatW22
import Derived.Test.YtomadjefdghliaaGreatW23
import Derived.Test.YtomadjefdghliaaGreatW24
import Derived.Test.YtomadjefdghliaaGreatW25
import Derived.Test.YtomadjefdghliaaGreatW26
import Derived.Test.YtomadjefdghliaaGreatW27
import Derived.Test.YtomadjefdghliaaGreatW28
import Derived.Test.YtomadjefdghliaaGreatW29
import Derived.Test.YtomadjefdghliaaGreatW30
import Derived.Test.YtomadjefdghliaaGreatW31
import Derived.Test.YtomadjefdghliaaGreatW32
import Derived.Test.YtomadjefdghliaaGreatW33
import Derived.Test.YtomadjefdghliaaGreatW34
/- PlayMore: for all programs t with regions, all lists of integers in, all integers fuel and more the law returns true; its arguments read as before. No condition. -/
namespace Go.Proofs.YtomadjefdghliaaGreat
open Go Go.RR Go.RX Go.GX Go.Api Go.RtM Go.ChangeShapes Go.WideShapes Go.ChangeAt Go.RowKit
attribute [local irreducible] wpList Code.wp wpPlan Exit.then Exit.inBlock bodyPost NoPanic Went GX.Post GX.Again GX.Meet GX.RowR GX.Own GX.Owns GX.Box GX.Sl GX.Pt GX.Ag GX.MapR GX.Kept GX.Pin wpT GoK AtEnd Both

theorem playMore_does (cs : List Value) (t : RTg) (_ : RTg.ok t) (ao : Option Addr) (cap : Nat) (inp : List Int) (_ : ∀ x ∈ inp, I64 x) (fuel : Int) (_ : -9223372036854775808 ≤ fuel ∧ fuel ≤ 9223372036854775807) (more : Int) (_ : -9223372036854775808 ≤ more ∧ more ≤ 9223372036854775807) :
    Does Tryz.prog 4 [.agg cs.toArray, .slice ao inp.length cap, .int .i64 fuel, .int .i64 more] [Ag tyRTg cs t, Sl Ty.int ao cap inp] [] (fun _ : Unit => .bool true) (fun _ => []) (fun _ => []) := by
  refine enter Tryz.func4 rfl Tryz.ntmps4 rfl fun b => ?_
  refine GX.wR ?_; intros
  refine GX.nmP 4 ?_; rintro b4 rfl
  refine GX.nmA 11 ?_; rintro c11 rfl
  refine GX.o (cl (great30_spec c11 t) fun _ => ?_)
  by_cases hT : Tiny t
  · have hT' := Classical.not_not.2 hT
    by_cases hi : 100 < (inp.length : Int)
    · refine GX.wR ?_; intros
      exact rt1 () rfl
    by_cases g1 : fuel < 0
    · refine GX.wR ?_; intros
      exact rt1 () rfl
    by_cases g2 : 2000 < fuel
    · refine GX.wR ?_; intros
      exact rt1 () rfl
    by_cases g3 : more < 0
    · refine GX.wR ?_; intros
      exact rt1 () rfl
    by_cases g4 : 2000 < more
    · refine GX.wR ?_; intros
      exact rt1 () rfl
    refine GX.wR ?_; intros
    refine GX.nmA 34 ?_; rintro c34 rfl
    refine GX.o (cl (run_spec c34 t hT.small hT.tame ao cap inp fuel (by omega)) fun s => ?_)
    refine GX.wR ?_; intros
    refine GX.nmA 38 ?_; rintro c38 rfl
    refine GX.o (cl (run_spec c38 t hT.small hT.tame ao cap inp (fuel + more) (by omega)) fun s2 => ?_)
    have hm : ((playP t inp fuel).beh.end_ ≠ 3 ∧ playP t inp fuel = playP t inp (fuel + more) ∧ (playP t inp fuel).beh.steps ≤ fuel) ∨
      ((playP t inp fuel).beh.end_ = 3 ∧ (playP t inp fuel).beh.steps = fuel ∧ fuel ≤ (playP t inp (fuel + more)).beh.steps ∧ (playP t inp fuel).beh.out <+: (playP t inp (fuel + more)).beh.out ∧
      (playP t inp fuel).made ≤ (playP t inp (fuel + more)).made ∧ (playP t inp fuel).gone ≤ (playP t inp (fuel + more)).gone ∧ (playP t inp fuel).peak ≤ (playP t inp (fuel + more)).peak ∧
      (playP t inp fuel).most ≤ (playP t inp (fuel + more)).most ∧ (playP t inp (fuel + more)).slack ≤ (playP t inp fuel).slack) := by
      by_cases hR : RightP t
      · rw [show playP t inp fuel = ranP t (glob t) inp fuel from if_pos hR, show playP t inp (fuel + more) = ranP t (glob t) inp (fuel + more) from if_pos hR]
        exact ran_more hR inp fuel more (by omega) (by omega)
      · rw [show playP t inp fuel = ran0 from if_neg hR, show playP t inp (fuel + more) = ran0 from if_neg hR]
        exact .inl ⟨by show (0 : Int) ≠ 3; omega, rfl, by show (0 : Int) ≤ fuel; omega⟩
    generalize playP t inp fuel = y at hm ⊢
    generalize playP t inp (fuel + more) = z at hm ⊢
    rcases hm with ⟨h1, h2, h3⟩ | ⟨h1, h2, h3, h4, h5, h6, h7, h8, h9⟩
    · refine GX.wR ?_; intros
      refine GX.nmA 48 ?_; rintro c48 rfl
      refine GX.nmA 49 ?_; rintro c49 rfl
      refine GX.o (cl (same29_spec30 c48 c49 y z) fun _ => ?_)
      refine GX.wR ?_; intros
      refine GX.o (cl known30_spec fun _ => ?_)
      refine GX.wR ?_; intros
      exact rt1 () rfl
    · refine GX.wR ?_; intros
      refine GX.nmS 76 ?_; rintro a76 d76 rfl rfl
      refine GX.nmS 79 ?_; rintro a79 d79 rfl rfl
      refine GX.o (cl (begins_spec a76 a79 d76 d79 y.beh.out z.beh.out) fun _ => ?_)
      refine GX.wR ?_; intros
      refine GX.o (cl known30_spec fun _ => ?_)
      refine GX.wR ?_; intros
      exact rt1 () rfl
  · refine GX.wR ?_; intros
    exact rt1 () rfl
theorem playMore_own : ownKnob Tryz.prog.godebug = none := by kernel_rfl
theorem playMore_laidOut : laidOutB Tryz.prog = true := by kernel_rfl
set_option maxRecDepth 100000 in
theorem playMore_lifted (os : Os) (started : os.Started) (H : Type) (enc : TypeId × Value → H) :
    ReturnsInHanded {} Tryz.checked os 4 .any (Rows.playMoreSpec.pre6 enc Tryz.prog Tryz.f4 Rows.playMoreRow.domain false) (Rows.playMoreSpec.post enc Tryz.prog Tryz.f4 false true false false) := by
  refine returnsInHanded_of_change (C := Tryz.checked) playMore_own started (by kernel_rfl) Tryz.func4
    (ChangeSpec.witness6 (enc := enc) (C := Tryz.checked) false ⟨#[], #[.agg #[(.slice none 0 0), (.slice none 0 0), (.slice none 0 0), (.int .i64 0)], .slice none 0 0, .int .i64 0, .int .i64 0], []⟩ 8 (by kernel_rfl) (by kernel_rfl) (by kernel_rfl) (by kernel_rfl)) ?_
  intro W base args ds gs before hval0 hW hcnd _
  have hval : ∀ (j : Nat) t v, Tryz.f4.params[j]? = some t → args[j]? = some v → Value.okWide Tryz.prog W .any base t v := hval0
  have hW' := hW
  obtain ⟨p, q, hA0, hV, rfl, hfz, hnd⟩ := hW
  have hA : DataW.TrodAll enc Tryz.prog W 0 (fun _ => true) true Tryz.f4.params.toList args.toList ds p := hA0
  rw [Tryz.params4] at hA hval
  obtain ⟨v0, vs0, d0, ds0, p0, q0, hargs, rfl, rfl, h0, r0⟩ := trodAll_cons hA
  obtain ⟨v1, vs1, d1, ds1, p1, q1, rfl, rfl, rfl, h1, r1⟩ := trodAll_cons r0
  obtain ⟨v2, vs2, d2, ds2, p2, q2, rfl, rfl, rfl, h2, r2⟩ := trodAll_cons r1
  obtain ⟨v3, vs3, d3, ds3, p3, q3, rfl, rfl, rfl, h3, r3⟩ := trodAll_cons r2
  obtain ⟨rfl, rfl, rfl⟩ := trodAll_nil r3
  obtain rfl : args = #[v0, v1, v2, v3] := by cases args; simp_all
  obtain ⟨rfl, rfl⟩ := trodVars_none hV
  have hlt := hW'.lt
  have hl0 : ∀ x ∈ p0, x.block < W.heap.size := fun x hx => hlt x (by simp [hx])
  obtain ⟨c0, rfl⟩ : ∃ cs, v0 = .agg cs := by have := hval 0 26 v0 rfl rfl; unfold Value.okWide at this; rw [Tryz.underlying26] at this; obtain ⟨cs, h, _⟩ := this; exact ⟨cs, h⟩
  obtain ⟨x0, z0, o0⟩ := conv_rtg enc W _ _ _ _ _ h0.choose_spec
  have f0 := ag_in z0
  have hl1 : ∀ x ∈ p1, x.block < W.heap.size := fun x hx => hlt x (by simp [hx])
  obtain ⟨s1, n1, c1, rfl⟩ := okWide_slice Tryz.underlying23 (hval 1 23 v1 rfl rfl)
  obtain ⟨x1, z1, o1⟩ := cv_ints enc W _ _ _ _ _ h1.choose_spec
  obtain ⟨rfl, f1⟩ := sl_in z1
  have hl2 : ∀ x ∈ p2, x.block < W.heap.size := fun x hx => hlt x (by simp [hx])
  obtain ⟨a2, rfl, e2, g2, w2⟩ := open_int Tryz.underlying3 (hval 2 3 v2 rfl rfl) h2
  have b2 : -9223372036854775808 ≤ a2 ∧ a2 ≤ 9223372036854775807 := wf_i64 w2
  have hl3 : ∀ x ∈ p3, x.block < W.heap.size := fun x hx => hlt x (by simp [hx])
  obtain ⟨a3, rfl, e3, g3, w3⟩ := open_int Tryz.underlying3 (hval 3 3 v3 rfl rfl) h3
  have b3 : -9223372036854775808 ≤ a3 ∧ a3 ≤ 9223372036854775807 := wf_i64 w3
  refine ((playMore_does c0.toList x0 o0 s1 c1 x1 o1 a2 b2 a3 b3).calls W (all_cons f0 (all_cons f1 all_nil))).mono fun e W' ⟨he, hu⟩ => ?_
  subst he
  have hb := hu.below
  exact ⟨_, rfl, _, _, _, [], _, [], hW', trodAll_cons_mk (shut_bool Tryz.underlying4 _) trodAll_mk0, (trodAll_cons_mk (hb.trod playMore_laidOut (by kernel_rfl) (of_decide_eq_true (by kernel_rfl)) h0 hl0) (trodAll_cons_mk (hb.trod playMore_laidOut (by kernel_rfl) (of_decide_eq_true (by kernel_rfl)) h1 hl1) (trodAll_cons_mk (hb.trod playMore_laidOut (by kernel_rfl) (of_decide_eq_true (by kernel_rfl)) h2 hl2) (trodAll_cons_mk (hb.trod playMore_laidOut (by kernel_rfl) (of_decide_eq_true (by kernel_rfl)) h3 hl3) trodAll_mk0)))), rfl, hb.frame _, fun h => by cases h⟩
theorem playMore_holds : Rows.PlayMoreSaid :=
  OpenClaim.holds_of_wide 4 Tryz.f4 rfl rfl rfl rfl rfl rfl rfl ⟨rfl, rfl, rfl, rfl, rfl⟩ rfl rfl rfl rfl rfl (by kernel_rfl) Tryz.func4 (by kernel_rfl)
    (of_decide_eq_true (by kernel_rfl)) (by unfold Func.isWrapper; first | (rw [if_pos (by decide +kernel)]; kernel_rfl) | (rw [if_neg (by decide +kernel)]; exact ⟨rfl, rfl⟩))
    (fun os started H enc _ => playMore_lifted os started H enc)
end Go.Proofs.YtomadjefdghliaaGreat
