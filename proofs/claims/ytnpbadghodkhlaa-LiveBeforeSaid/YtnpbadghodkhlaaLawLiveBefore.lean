/- LiveBefore: for all codes the law returns true; its argument reads as before. No condition. -/
import Derived.Test.YtnpbadghodkhlaaKnown16
import Derived.Test.YtnpbadghodkhlaaRLiv4
import Derived.Test.YtnpbadghodkhlaaLivConv
namespace Go.Proofs.Ytnpbadghodkhlaa
open Go Go.RR Go.RX Go.GX Go.Api Go.FlowM Go.RiseM Go.LivM Go.ChangeShapes Go.WideShapes Go.ChangeAt Go.RowKit
attribute [local irreducible] wpList Code.wp wpPlan Exit.then Exit.inBlock bodyPost NoPanic Went GX.Post GX.Again GX.Meet GX.RowR GX.Own GX.Owns GX.Box GX.Sl GX.Pt GX.Ag GX.MapR GX.Kept GX.Pin wpT GoK AtEnd Both
theorem liveBefore_does (cs : List Value) (c : Api.Code) (hc : CodeW c) : Does Try.prog 3 [.agg cs.toArray] [Ag tyCode cs c] [] (fun _ : Unit => .bool true) (fun _ => []) (fun _ => []) := by
  refine enter Try.func3 rfl Try.ntmps3 rfl fun b => ?_
  by_cases hl : 120 < (c.ins.length : Int)
  · refine GX.wR ?_; intros
    exact rt1 () rfl
  have hu : decide (befores c.ins = befores c.ins) = true := decide_eq_true rfl
  refine GX.wR ?_; intros
  refine GX.drawn0  (fun j => !(List.contains [3, 4, 6] j)) [(0, true), (2, true), (1, false), (3, false), (4, false), (5, true), (6, false), (7, true), (8, true)] rfl (by kernel_rfl) (by kernel_rfl) (by first | ((repeat (first | apply Go.GX.SelR.nil | apply Go.GX.SelR.cons | (with_reducible apply Go.GX.TakeR.head) | apply Go.GX.TakeR.tail)); done) | (repeat (first | apply Go.GX.SelR.nil | apply Go.GX.SelR.cons | apply Go.GX.TakeR.head | apply Go.GX.TakeR.tail))) ?_; intro wd F hW hR
  refine GX.wT ?_; intros
  refine GX.gow ?_
  refine (cl (before_spec _ c hc.2 (by omega)) fun s => ?_)
  obtain ⟨a1, c1⟩ := s
  dsimp only
  refine GX.wT ?_; intros
  refine GX.gow ?_
  refine (cl (rbefore_spec _ c (by omega)) fun s => ?_)
  obtain ⟨a2, c2⟩ := s
  dsimp only
  refine GX.wT ?_; intros
  refine GX.gow ?_
  refine (cl (same_spec _ _ _ _ (befores c.ins) (befores c.ins)) fun _ => ?_)
  rw [hu]
  refine GX.wT ?_; intros
  refine GX.gow ?_
  refine (cl known16_spec fun _ => ?_)
  refine GX.wT ?_; intros
  refine GX.wR ?_; intros
  exact rt1 () rfl

theorem liveBefore_own : ownKnob Try.prog.godebug = none := by kernel_rfl
theorem liveBefore_laidOut : laidOutB Try.prog = true := by kernel_rfl
set_option maxRecDepth 100000 in
theorem liveBefore_lifted (os : Os) (started : os.Started) (H : Type) (enc : TypeId × Value → H) :
    ReturnsInHanded {} Try.checked os 3 .any (Rows.liveBeforeSpec.pre6 enc Try.prog Try.f3 Rows.liveBeforeRow.domain false) (Rows.liveBeforeSpec.post enc Try.prog Try.f3 false true false false) := by
  refine returnsInHanded_of_change_sized (C := Try.checked) liveBefore_own started (by kernel_rfl) Try.func3
    (ChangeSpec.witness6 (enc := enc) (C := Try.checked) false ⟨#[], #[.agg #[(.int .i64 0), (.slice none 0 0), (.bool false), (.int .i64 0), (.int .i64 0), (.int .i64 0), (.slice none 0 0)]], []⟩ 8 (by kernel_rfl) (by kernel_rfl) (by kernel_rfl) (by kernel_rfl)) ?_
  intro W base args ds gs before hval0 hW hcnd hsz0 _
  have hval : ∀ (j : Nat) t v, Try.f3.params[j]? = some t → args[j]? = some v → Value.okWide Try.prog W .any base t v := hval0
  have hW' := hW
  obtain ⟨p, q, hA0, hV, rfl, hfz, hnd⟩ := hW
  have hA : DataW.TrodAll enc Try.prog W 0 (fun _ => true) true Try.f3.params.toList args.toList ds p := hA0
  rw [Try.params3] at hA hval
  obtain ⟨v0, vs0, d0, ds0, p0, q0, hargs, rfl, rfl, h0, r0⟩ := trodAll_cons hA
  obtain ⟨rfl, rfl, rfl⟩ := trodAll_nil r0
  obtain rfl : args = #[v0] := by cases args; simp_all
  obtain ⟨rfl, rfl⟩ := trodVars_none hV
  have hlt := hW'.lt
  have hl0 : ∀ x ∈ p0, x.block < W.heap.size := fun x hx => hlt x (by simp [hx])
  obtain ⟨c0, rfl⟩ : ∃ cs, v0 = .agg cs := by have := hval 0 27 v0 rfl rfl; unfold Value.okWide at this; rw [Try.underlying27] at this; obtain ⟨cs, h, _⟩ := this; exact ⟨cs, h⟩
  have hsz1 : LeR Try.prog 27 d0 := fun n hn => by simpa using List.all_eq_true.1 hsz0 n (DataW.weights_mem_each (j := 0) (t := 27) rfl rfl n hn)
  obtain ⟨x0, z0, o0⟩ := convW_code enc W _ _ _ _ _ h0.choose_spec hsz1
  have f0 := ag_in z0
  refine ((liveBefore_does c0.toList x0 o0).calls W (all_cons f0 all_nil)).mono fun e W' ⟨he, hu⟩ => ?_
  subst he
  have hb := hu.below
  exact ⟨_, rfl, _, _, _, [], _, [], hW', trodAll_cons_mk (shut_bool Try.underlying4 _) trodAll_mk0, (trodAll_cons_mk (hb.trod liveBefore_laidOut (by kernel_rfl) (of_decide_eq_true (by kernel_rfl)) h0 hl0) trodAll_mk0), rfl, hb.frame _, fun h => by cases h⟩
theorem liveBefore_holds : Rows.LiveBeforeSaid :=
  OpenClaim.holds_of_wide 3 Try.f3 rfl rfl rfl rfl rfl rfl rfl ⟨rfl, rfl, rfl, rfl, rfl⟩ rfl rfl rfl rfl rfl (by kernel_rfl) Try.func3 (by kernel_rfl)
    (of_decide_eq_true (by kernel_rfl)) (by unfold Func.isWrapper; first | (rw [if_pos (by decide +kernel)]; kernel_rfl) | (rw [if_neg (by decide +kernel)]; exact ⟨rfl, rfl⟩))
    (fun os started H enc _ => liveBefore_lifted os started H enc)
end Go.Proofs.Ytnpbadghodkhlaa
