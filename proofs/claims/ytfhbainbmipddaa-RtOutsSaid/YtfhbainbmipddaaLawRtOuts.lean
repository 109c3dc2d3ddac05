/- RtOuts: for all programs t with regions and numbers u the law returns true; its arguments read as before. No condition. -/
import Derived.Test.YtfhbainbmipddaaRRt3
import Derived.Test.YtfhbainbmipddaaKnown26
import Derived.Test.YtfhbainbmipddaaSame
import Derived.Test.YtfhbainbmipddaaApiC
namespace Go.Proofs.Ytfhbainbmipddaa
open Go Go.RR Go.RX Go.GX Go.Api Go.RiseM Go.ReachM Go.RtM Go.ChangeShapes Go.WideShapes Go.ChangeAt Go.RowKit
attribute [local irreducible] wpList Code.wp wpPlan Exit.then Exit.inBlock bodyPost NoPanic Went GX.Post GX.Again GX.Meet GX.RowR GX.Own GX.Owns GX.Box GX.Sl GX.Pt GX.Ag GX.MapR GX.Kept GX.Pin wpT GoK AtEnd Both

theorem rtOuts_does (cs : List Value) (t : RTg) (_ : RTg.ok t) (u : Int) (_ : -9223372036854775808 ≤ u ∧ u ≤ 9223372036854775807) : Does Try.prog 4 [.agg cs.toArray, .int .i64 u] [Ag tyRTg cs t] [] (fun _ : Unit => .bool true) (fun _ => []) (fun _ => []) := by
  refine enter Try.func4 rfl Try.ntmps4 rfl fun b => ?_
  refine GX.wR ?_; intros
  refine GX.o (cl (great_spec _ t) fun _ => ?_)
  by_cases ht : Tiny t
  · have ht' := Classical.not_not.2 ht
    refine GX.wR ?_; intros
    refine GX.drawn0  (fun j => !(List.contains [3, 4, 9, 10, 18, 19, 22] j)) [(0, true), (2, true), (1, false), (3, false), (4, false), (5, true), (6, true), (8, true), (7, false), (9, false), (10, false), (11, true), (12, true), (13, true), (14, true), (16, true), (17, true), (15, false), (18, false), (19, false), (20, true), (21, true), (22, false), (23, true), (24, true)] rfl (by kernel_rfl) (by kernel_rfl) (by first | ((repeat (first | apply Go.GX.SelR.nil | apply Go.GX.SelR.cons | (with_reducible apply Go.GX.TakeR.head) | apply Go.GX.TakeR.tail)); done) | (repeat (first | apply Go.GX.SelR.nil | apply Go.GX.SelR.cons | apply Go.GX.TakeR.head | apply Go.GX.TakeR.tail))) ?_; intro wd F hW hR
    refine GX.wT ?_; intros
    refine GX.gow ?_
    refine (cl (fields_spec _ t ht.small) fun s => ?_)
    obtain ⟨a1, c1⟩ := s
    dsimp only
    refine GX.wT ?_; intros
    refine GX.gow ?_
    refine (cl (rfields_spec _ t ht.small) fun s => ?_)
    obtain ⟨a2, c2⟩ := s
    dsimp only
    refine GX.wT ?_; intros
    refine GX.gow ?_
    refine (cl (same_spec a1 a2 c1 c2 (flds t) (flds t)) fun _ => ?_)
    rw [decide_eq_true rfl]
    refine GX.wT ?_; intros
    refine GX.gow ?_
    refine (cl (global_spec _ t ht.small) fun s => ?_)
    obtain ⟨a3, c3⟩ := s
    dsimp only
    refine GX.wT ?_; intros
    refine GX.gow ?_
    refine (cl (rglobal_spec _ t ht.small) fun s => ?_)
    obtain ⟨a4, c4⟩ := s
    dsimp only
    refine GX.wT ?_; intros
    refine GX.gow ?_
    refine (cl (ints_same a3 a4 c3 c4 (glob t) (glob t)) fun _ => ?_)
    rw [decide_eq_true rfl]
    refine GX.wT ?_; intros
    refine GX.gow ?_
    refine (cl (out_spec _ t ht.small u) fun s => ?_)
    obtain ⟨a5, c5⟩ := s
    dsimp only
    refine GX.wT ?_; intros
    refine GX.gow ?_
    refine (cl (rout_spec _ t ht.small u) fun s => ?_)
    obtain ⟨a6, c6⟩ := s
    dsimp only
    refine GX.wT ?_; intros
    refine GX.gow ?_
    refine (cl (ints_same a5 a6 c5 c6 (out t u) (out t u)) fun _ => ?_)
    rw [decide_eq_true rfl]
    refine GX.wT ?_; intros
    refine GX.gow ?_
    refine (cl known26_spec fun _ => ?_)
    refine GX.wT ?_; intros
    refine GX.wR ?_; intros
    exact rt1 () rfl
  · refine GX.wR ?_; intros
    exact rt1 () rfl

theorem rtOuts_own : ownKnob Try.prog.godebug = none := by kernel_rfl
theorem rtOuts_laidOut : laidOutB Try.prog = true := by kernel_rfl
set_option maxRecDepth 100000 in
theorem rtOuts_lifted (os : Os) (started : os.Started) (H : Type) (enc : TypeId × Value → H) :
    ReturnsInHanded {} Try.checked os 4 .any (Rows.rtOutsSpec.pre6 enc Try.prog Try.f4 Rows.rtOutsRow.domain false) (Rows.rtOutsSpec.post enc Try.prog Try.f4 false true false false) := by
  refine returnsInHanded_of_change (C := Try.checked) rtOuts_own started (by kernel_rfl) Try.func4
    (ChangeSpec.witness6 (enc := enc) (C := Try.checked) false ⟨#[], #[.agg #[(.slice none 0 0), (.slice none 0 0), (.slice none 0 0), (.int .i64 0)], .int .i64 0], []⟩ 8 (by kernel_rfl) (by kernel_rfl) (by kernel_rfl) (by kernel_rfl)) ?_
  intro W base args ds gs before hval0 hW hcnd _
  have hval : ∀ (j : Nat) t v, Try.f4.params[j]? = some t → args[j]? = some v → Value.okWide Try.prog W .any base t v := hval0
  have hW' := hW
  obtain ⟨p, q, hA0, hV, rfl, hfz, hnd⟩ := hW
  have hA : DataW.TrodAll enc Try.prog W 0 (fun _ => true) true Try.f4.params.toList args.toList ds p := hA0
  rw [Try.params4] at hA hval
  obtain ⟨v0, vs0, d0, ds0, p0, q0, hargs, rfl, rfl, h0, r0⟩ := trodAll_cons hA
  obtain ⟨v1, vs1, d1, ds1, p1, q1, rfl, rfl, rfl, h1, r1⟩ := trodAll_cons r0
  obtain ⟨rfl, rfl, rfl⟩ := trodAll_nil r1
  obtain rfl : args = #[v0, v1] := by cases args; simp_all
  obtain ⟨rfl, rfl⟩ := trodVars_none hV
  have hlt := hW'.lt
  have hl0 : ∀ x ∈ p0, x.block < W.heap.size := fun x hx => hlt x (by simp [hx])
  obtain ⟨c0, rfl⟩ : ∃ cs, v0 = .agg cs := by have := hval 0 26 v0 rfl rfl; unfold Value.okWide at this; rw [Try.underlying26] at this; obtain ⟨cs, h, _⟩ := this; exact ⟨cs, h⟩
  obtain ⟨x0, z0, o0⟩ := conv_rtg enc W _ _ _ _ _ h0.choose_spec
  have f0 := ag_in z0
  have hl1 : ∀ x ∈ p1, x.block < W.heap.size := fun x hx => hlt x (by simp [hx])
  obtain ⟨a1, rfl, e1, g1, w1⟩ := open_int Try.underlying3 (hval 1 3 v1 rfl rfl) h1
  have b1 : -9223372036854775808 ≤ a1 ∧ a1 ≤ 9223372036854775807 := wf_i64 w1
  refine ((rtOuts_does c0.toList x0 o0 a1 b1).calls W (all_cons f0 all_nil)).mono fun e W' ⟨he, hu⟩ => ?_
  subst he
  have hb := hu.below
  exact ⟨_, rfl, _, _, _, [], _, [], hW', trodAll_cons_mk (shut_bool Try.underlying4 _) trodAll_mk0, (trodAll_cons_mk (hb.trod rtOuts_laidOut (by kernel_rfl) (of_decide_eq_true (by kernel_rfl)) h0 hl0) (trodAll_cons_mk (hb.trod rtOuts_laidOut (by kernel_rfl) (of_decide_eq_true (by kernel_rfl)) h1 hl1) trodAll_mk0)), rfl, hb.frame _, fun h => by cases h⟩
theorem rtOuts_holds : Rows.RtOutsSaid :=
  OpenClaim.holds_of_wide 4 Try.f4 rfl rfl rfl rfl rfl rfl rfl ⟨rfl, rfl, rfl, rfl, rfl⟩ rfl rfl rfl rfl rfl (by kernel_rfl) Try.func4 (by kernel_rfl)
    (of_decide_eq_true (by kernel_rfl)) (by unfold Func.isWrapper; first | (rw [if_pos (by decide +kernel)]; kernel_rfl) | (rw [if_neg (by decide +kernel)]; exact ⟨rfl, rfl⟩))
    (fun os started H enc _ => rtOuts_lifted os started H enc)
end Go.Proofs.Ytfhbainbmipddaa
