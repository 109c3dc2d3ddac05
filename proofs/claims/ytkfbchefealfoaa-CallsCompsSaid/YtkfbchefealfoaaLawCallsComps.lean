/- CallsComps: for all lists of calls the law returns true; its argument reads as before. No condition. -/
import Derived.Test.YtkfbchefealfoaaKnown17
import Derived.Test.YtkfbchefealfoaaApiC
namespace Go.Proofs.Ytkfbchefealfoaa
open Go Go.RR Go.RX Go.GX Go.Api Go.CalM Go.TarM Go.ChangeShapes Go.WideShapes Go.ChangeAt Go.RowKit
attribute [local irreducible] wpList Code.wp wpPlan Exit.then Exit.inBlock bodyPost NoPanic Went GX.Post GX.Again GX.Meet GX.RowR GX.Own GX.Owns GX.Box GX.Sl GX.Pt GX.Ag GX.MapR GX.Kept GX.Pin wpT GoK AtEnd Both

theorem callsComps_does (ao : Option Addr) (cap : Nat) (e : List (List Int)) (_ : ∀ x ∈ e, ∀ y ∈ x, I64 y) : Does Try.prog 4 [.slice ao e.length cap] [Sl (Ty.slice Ty.int) ao cap e] [] (fun _ : Unit => .bool true) (fun _ => []) (fun _ => []) := by
  refine enter Try.func4 rfl Try.ntmps4 rfl fun b => ?_
  refine GX.wR ?_; intros
  refine GX.o (cl (great17_spec ao cap e) fun _ => ?_)
  by_cases hg : Fit17 e
  · have hg' := Classical.not_not.2 hg
    have hf := hg.few.prog
    refine GX.wR ?_; intros
    refine GX.o (cl (program_spec ao cap e hg.few) fun s => ?_)
    refine GX.wR ?_; intros
    refine GX.nmP 3 ?_; rintro b3 rfl
    refine frzB b3 ?_
    refine GX.drawn0  (fun j => !(List.contains [3, 4, 6] j)) [(0, true), (2, true), (1, false), (3, false), (4, false), (5, true), (6, false), (7, true), (8, true)] rfl (by kernel_rfl) (by kernel_rfl) (by first | ((repeat (first | apply Go.GX.SelR.nil | apply Go.GX.SelR.cons | (with_reducible apply Go.GX.TakeR.head) | apply Go.GX.TakeR.tail)); done) | (repeat (first | apply Go.GX.SelR.nil | apply Go.GX.SelR.cons | apply Go.GX.TakeR.head | apply Go.GX.TakeR.tail))) ?_; intro wd F hW hR
    refine GX.wT ?_; intros
    refine GX.gow ?_
    refine (cl (comps_spec _ (cProg e) hf) fun s => ?_)
    obtain ⟨a1, c1⟩ := s
    dsimp only
    refine GX.wT ?_; intros
    refine GX.gow ?_
    refine (cl (rcomps_spec _ (cProg e) hf) fun s => ?_)
    obtain ⟨a2, c2⟩ := s
    dsimp only
    refine GX.wT ?_; intros
    refine GX.gow ?_
    refine (cl (same_spec a1 a2 c1 c2 ((comps0 (gr (cProg e))).map zs) ((comps0 (gr (cProg e))).map zs)) fun _ => ?_)
    rw [decide_eq_true rfl]
    refine GX.wT ?_; intros
    refine GX.gow ?_
    refine (cl known17_spec fun _ => ?_)
    refine GX.wT ?_; intros
    refine GX.wR ?_; intros
    exact rt1 () rfl
  · refine GX.wR ?_; intros
    exact rt1 () rfl
theorem callsComps_own : ownKnob Try.prog.godebug = none := by kernel_rfl
theorem callsComps_laidOut : laidOutB Try.prog = true := by kernel_rfl
set_option maxRecDepth 100000 in
theorem callsComps_lifted (os : Os) (started : os.Started) (H : Type) (enc : TypeId × Value → H) :
    ReturnsInHanded {} Try.checked os 4 .any (Rows.callsCompsSpec.pre6 enc Try.prog Try.f4 Rows.callsCompsRow.domain false) (Rows.callsCompsSpec.post enc Try.prog Try.f4 false true false false) := by
  refine returnsInHanded_of_change (C := Try.checked) callsComps_own started (by kernel_rfl) Try.func4
    (ChangeSpec.witness6 (enc := enc) (C := Try.checked) false ⟨#[], #[.slice none 0 0], []⟩ 8 (by kernel_rfl) (by kernel_rfl) (by kernel_rfl) (by kernel_rfl)) ?_
  intro W base args ds gs before hval0 hW hcnd _
  have hval : ∀ (j : Nat) t v, Try.f4.params[j]? = some t → args[j]? = some v → Value.okWide Try.prog W .any base t v := hval0
  have hW' := hW
  obtain ⟨p, q, hA0, hV, rfl, hfz, hnd⟩ := hW
  have hA : DataW.TrodAll enc Try.prog W 0 (fun _ => true) true Try.f4.params.toList args.toList ds p := hA0
  rw [Try.params4] at hA hval
  obtain ⟨v0, vs0, d0, ds0, p0, q0, hargs, rfl, rfl, h0, r0⟩ := trodAll_cons hA
  obtain ⟨rfl, rfl, rfl⟩ := trodAll_nil r0
  obtain rfl : args = #[v0] := by cases args; simp_all
  obtain ⟨rfl, rfl⟩ := trodVars_none hV
  have hlt := hW'.lt
  have hl0 : ∀ x ∈ p0, x.block < W.heap.size := fun x hx => hlt x (by simp [hx])
  obtain ⟨s0, n0, c0, rfl⟩ := okWide_slice Try.underlying22 (hval 0 22 v0 rfl rfl)
  obtain ⟨x0, z0, o0⟩ := cv_intss enc W _ _ _ _ _ h0.choose_spec
  obtain ⟨rfl, f0⟩ := sl_in z0
  refine ((callsComps_does s0 c0 x0 o0).calls W (all_cons f0 all_nil)).mono fun e W' ⟨he, hu⟩ => ?_
  subst he
  have hb := hu.below
  exact ⟨_, rfl, _, _, _, [], _, [], hW', trodAll_cons_mk (shut_bool Try.underlying4 _) trodAll_mk0, (trodAll_cons_mk (hb.trod callsComps_laidOut (by kernel_rfl) (of_decide_eq_true (by kernel_rfl)) h0 hl0) trodAll_mk0), rfl, hb.frame _, fun h => by cases h⟩
theorem callsComps_holds : Rows.CallsCompsSaid :=
  OpenClaim.holds_of_wide 4 Try.f4 rfl rfl rfl rfl rfl rfl rfl ⟨rfl, rfl, rfl, rfl, rfl⟩ rfl rfl rfl rfl rfl (by kernel_rfl) Try.func4 (by kernel_rfl)
    (of_decide_eq_true (by kernel_rfl)) (by unfold Func.isWrapper; first | (rw [if_pos (by decide +kernel)]; kernel_rfl) | (rw [if_neg (by decide +kernel)]; exact ⟨rfl, rfl⟩))
    (fun os started H enc _ => callsComps_lifted os started H enc)
end Go.Proofs.Ytkfbchefealfoaa
