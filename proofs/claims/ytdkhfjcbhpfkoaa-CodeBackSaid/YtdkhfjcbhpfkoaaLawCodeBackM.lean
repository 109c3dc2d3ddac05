import Derived.Test.YtdkhfjcbhpfkoaaM1
import Derived.Test.YtdkhfjcbhpfkoaaM2
import Derived.Test.YtdkhfjcbhpfkoaaM3
import Derived.Test.YtdkhfjcbhpfkoaaM4
import Derived.Test.YtdkhfjcbhpfkoaaM5
import Derived.Test.YtdkhfjcbhpfkoaaM6
import Derived.Test.YtdkhfjcbhpfkoaaM7
import Derived.Test.YtdkhfjcbhpfkoaaM8
import Derived.Test.YtdkhfjcbhpfkoaaM9
import Derived.Test.YtdkhfjcbhpfkoaaM10
import Derived.Test.YtdkhfjcbhpfkoaaM11
import Derived.Test.YtdkhfjcbhpfkoaaM12
import Derived.Test.YtdkhfjcbhpfkoaaM13
import Derived.Test.YtdkhfjcbhpfkoaaM14
import Derived.Test.YtdkhfjcbhpfkoaaM15
import Derived.Test.YtdkhfjcbhpfkoaaM16
import Derived.Test.YtdkhfjcbhpfkoaaM17
import Derived.Test.YtdkhfjcbhpfkoaaM18
import Derived.Test.YtdkhfjcbhpfkoaaM19
import Derived.Test.YtdkhfjcbhpfkoaaM20
import Derived.Test.YtdkhfjcbhpfkoaaM21
import Derived.Test.YtdkhfjcbhpfkoaaM22
import Derived.Test.YtdkhfjcbhpfkoaaM23
import Derived.Test.YtdkhfjcbhpfkoaaM24
import Derived.Test.YtdkhfjcbhpfkoaaM25
import Derived.Test.YtdkhfjcbhpfkoaaM26
import Derived.Test.YtdkhfjcbhpfkoaaM27
import Derived.Test.YtdkhfjcbhpfkoaaM28
/- CodeBack: for all programs t with regions the law returns true; its argument reads as before. No condition. -/
namespace Go.Proofs.Ytdkhfjcbhpfkoaa
open Go Go.RR Go.RX Go.GX Go.Api Go.RtM Go.NumM Go.ChangeShapes Go.WideShapes Go.ChangeAt Go.RowKit
attribute [local irreducible] wpList Code.wp wpPlan Exit.then Exit.inBlock bodyPost NoPanic Went GX.Post GX.Again GX.Meet GX.RowR GX.Own GX.Owns GX.Box GX.Sl GX.Pt GX.Ag GX.MapR GX.Kept GX.Pin wpT GoK AtEnd Both

set_option maxHeartbeats 1000000 in
theorem codeBack_does (cs : List Value) (t : RTg) (ht : RTg.ok t) : Does Try.prog 5 [.agg cs.toArray] [Ag tyRTg cs t] [] (fun _ : Unit => .bool true) (fun _ => []) (fun _ => []) := by
  refine enter Try.func5 rfl Try.ntmps5 rfl fun b => ?_
  refine GX.wbR ?_; intros
  refine GX.o (cl (great27_spec _ t) fun _ => ?_)
  by_cases hT : Tiny t
  · have hT' := Classical.not_not.2 hT
    have hl := encT_le ht hT
    refine GX.wbR ?_; intros
    refine GX.o (cl (put27_spec _ t ht hT.small (by omega)) fun s => ?_)
    obtain ⟨a1, c1⟩ := s
    dsimp only
    refine GX.wbR ?_; intros
    refine GX.o (cl (rright_spec _ t hT.small) fun _ => ?_)
    by_cases hR : RightP t
    · have hR' := Classical.not_not.2 hR
      rw [putT_right hR, putE_right hR]
      refine GX.wbR ?_; intros
      refine GX.o (cl (get27_spec a1 c1 (encT t)) fun s => ?_)
      obtain ⟨cs2, t2, e2, h2⟩ := s
      have hl2 := right_le ht hR hT
      obtain ⟨h3, h4⟩ := get_of h2 (show Is _ t from ⟨ht, hR, rfl⟩) (by omega)
      replace h3 := h3.symm
      dsimp only
      clear h2
      subst h3 h4
      have hss : decide (t = t) = true := decide_eq_true rfl
      refine GX.wbR ?_; intros
      refine GX.o (cl (same27_spec _ _ t t) fun _ => ?_)
      rw [hss]
      refine GX.wbR ?_; intros
      refine GX.o (cl known27_spec fun _ => ?_)
      refine GX.wbR ?_; intros
      exact rt1 () rfl
    · rw [show putT t = [] from if_neg hR, show putE t = 5 from if_neg hR]
      have h0 : ((([] : List Int).length : Nat) : Int) = 0 := rfl
      refine GX.wbR ?_; intros
      refine GX.o (cl known27_spec fun _ => ?_)
      refine GX.wbR ?_; intros
      exact rt1 () rfl
  · refine GX.wbR ?_; intros
    exact rt1 () rfl

theorem codeBack_own : ownKnob Try.prog.godebug = none := by kernel_rfl
theorem codeBack_laidOut : laidOutB Try.prog = true := by kernel_rfl
set_option maxRecDepth 100000 in
theorem codeBack_lifted (os : Os) (started : os.Started) (H : Type) (enc : TypeId × Value → H) :
    ReturnsInHanded {} Try.checked os 5 .any (Rows.codeBackSpec.pre6 enc Try.prog Try.f5 Rows.codeBackRow.domain false) (Rows.codeBackSpec.post enc Try.prog Try.f5 false true false false) := by
  refine returnsInHanded_of_change (C := Try.checked) codeBack_own started (by kernel_rfl) Try.func5
    (ChangeSpec.witness6 (enc := enc) (C := Try.checked) false ⟨#[], #[.agg #[(.slice none 0 0), (.slice none 0 0), (.slice none 0 0), (.int .i64 0)]], []⟩ 8 (by kernel_rfl) (by kernel_rfl) (by kernel_rfl) (by kernel_rfl)) ?_
  intro W base args ds gs before hval0 hW hcnd _
  have hval : ∀ (j : Nat) t v, Try.f5.params[j]? = some t → args[j]? = some v → Value.okWide Try.prog W .any base t v := hval0
  have hW' := hW
  obtain ⟨p, q, hA0, hV, rfl, hfz, hnd⟩ := hW
  have hA : DataW.TrodAll enc Try.prog W 0 (fun _ => true) true Try.f5.params.toList args.toList ds p := hA0
  rw [Try.params5] at hA hval
  obtain ⟨v0, vs0, d0, ds0, p0, q0, hargs, rfl, rfl, h0, r0⟩ := trodAll_cons hA
  obtain ⟨rfl, rfl, rfl⟩ := trodAll_nil r0
  obtain rfl : args = #[v0] := by cases args; simp_all
  obtain ⟨rfl, rfl⟩ := trodVars_none hV
  have hlt := hW'.lt
  have hl0 : ∀ x ∈ p0, x.block < W.heap.size := fun x hx => hlt x (by simp [hx])
  obtain ⟨c0, rfl⟩ : ∃ cs, v0 = .agg cs := by have := hval 0 26 v0 rfl rfl; unfold Value.okWide at this; rw [Try.underlying26] at this; obtain ⟨cs, h, _⟩ := this; exact ⟨cs, h⟩
  obtain ⟨x0, z0, o0⟩ := conv_rtg enc W _ _ _ _ _ h0.choose_spec
  have f0 := ag_in z0
  refine ((codeBack_does c0.toList x0 o0).calls W (all_cons f0 all_nil)).mono fun e W' ⟨he, hu⟩ => ?_
  subst he
  have hb := hu.below
  exact ⟨_, rfl, _, _, _, [], _, [], hW', trodAll_cons_mk (shut_bool Try.underlying4 _) trodAll_mk0, (trodAll_cons_mk (hb.trod codeBack_laidOut (by kernel_rfl) (of_decide_eq_true (by kernel_rfl)) h0 hl0) trodAll_mk0), rfl, hb.frame _, fun h => by cases h⟩
theorem codeBack_holds : Rows.CodeBackSaid :=
  OpenClaim.holds_of_wide 5 Try.f5 rfl rfl rfl rfl rfl rfl rfl ⟨rfl, rfl, rfl, rfl, rfl⟩ rfl rfl rfl rfl rfl (by kernel_rfl) Try.func5 (by kernel_rfl)
    (of_decide_eq_true (by kernel_rfl)) (by unfold Func.isWrapper; first | (rw [if_pos (by decide +kernel)]; kernel_rfl) | (rw [if_neg (by decide +kernel)]; exact ⟨rfl, rfl⟩))
    (fun os started H enc _ => codeBack_lifted os started H enc)
end Go.Proofs.Ytdkhfjcbhpfkoaa
