import Derived.Test.YtomadjefdghliaaV1
import Derived.Test.YtomadjefdghliaaV2
import Derived.Test.YtomadjefdghliaaV3
import Derived.Test.YtomadjefdghliaaV4
import Derived.Test.YtomadjefdghliaaV5
import Derived.Test.YtomadjefdghliaaV6
import Derived.Test.YtomadjefdghliaaV7
import Derived.Test.YtomadjefdghliaaV8
import Derived.Test.YtomadjefdghliaaV9
import Derived.Test.YtomadjefdghliaaV10
import Derived.Test.YtomadjefdghliaaV11
import Derived.Test.YtomadjefdghliaaV12
import Derived.Test.YtomadjefdghliaaV13
import Derived.Test.YtomadjefdghliaaV14
import Derived.Test.YtomadjefdghliaaV15
import Derived.Test.YtomadjefdghliaaV16
import Derived.Test.YtomadjefdghliaaV17
import Derived.Test.YtomadjefdghliaaV18
import Derived.Test.YtomadjefdghliaaV19
import Derived.Test.YtomadjefdghliaaV20
import Derived.Test.YtomadjefdghliaaV21
import Derived.Test.YtomadjefdghliaaV22
import Derived.Test.YtomadjefdghliaaV23
import Derived.Test.YtomadjefdghliaaV24
import Derived.Test.YtomadjefdghliaaV25
import Derived.Test.YtomadjefdghliaaV26
import Derived.Test.YtomadjefdghliaaV27
import Derived.Test.YtomadjefdghliaaV28
import Derived.Test.YtomadjefdghliaaV29
import Derived.Test.YtomadjefdghliaaV30
/- PlayDeep: for all integers n the law returns true. No condition. -/
namespace Go.Proofs.Ytomadjefdghliaa
open Go Go.RR Go.RX Go.GX Go.Api Go.RtM Go.ChangeShapes Go.WideShapes Go.ChangeAt Go.RowKit
attribute [local irreducible] wpList Code.wp wpPlan Exit.then Exit.inBlock bodyPost NoPanic Went GX.Post GX.Again GX.Meet GX.RowR GX.Own GX.Owns GX.Box GX.Sl GX.Pt GX.Ag GX.MapR GX.Kept GX.Pin wpT GoK AtEnd Both

theorem d_tiny (k : Nat) : Tiny (dT (k : Int)) := by
  refine ⟨⟨by show 1 ≤ 80; omega, by show 0 ≤ 20; omega, by show 2 ≤ 20; omega⟩, fun L hL => ?_, fun u hu => ?_⟩
  · have hL : L ∈ [(⟨false, []⟩ : Layout)] := hL
    obtain rfl := List.mem_singleton.1 hL
    show 0 ≤ 20; omega
  · have hu : u = dU0 (k : Int) ∨ u = dU1 := by simpa [dT] using hu
    rcases hu with rfl | rfl
    · refine ⟨⟨by show 1 ≤ 150; omega, by show 3 ≤ 400; omega, by show 0 ≤ 80; omega, by show 0 ≤ 80; omega⟩, ?_⟩
      intro i hi
      simp [dU0] at hi
      rcases hi with rfl | rfl | rfl <;> (simp)
    · refine ⟨⟨by show 5 ≤ 150; omega, by show 9 ≤ 400; omega, by show 0 ≤ 80; omega, by show 1 ≤ 80; omega⟩, ?_⟩
      have : ∀ i ∈ dU1.ins, i.args.length ≤ 80 := by decide
      exact this
theorem frzE {n : Nat} {env : Env} {b : Base} {ps : List Pf} {hp : List Res} {K : Act → World → Prop} {α : Type} {e : Ty α} (ao : Option Addr) {t : TypeId} {cap : Nat} {xs : List α} (ys : List α) {rest : List Res} [hf : FOwn ao hp t e cap xs rest] (h : G n env b (Sl e ao cap ys :: ps) rest K) (he : xs = ys := by exact rfl) : G n env b ps hp K := by
  subst he
  exact frz ao h
theorem playDeep_does (a : Int) (ha : -9223372036854775808 ≤ a ∧ a ≤ 9223372036854775807) : Does Try.prog 4 [.int .i64 a] [] [] (fun _ : Unit => .bool true) (fun _ => []) (fun _ => []) := by
  refine enter Try.func4 rfl Try.ntmps4 rfl fun b => ?_
  by_cases h1 : a < 0
  · refine GX.wR ?_; intros
    exact rt1 () rfl
  by_cases h2 : 60 < a
  · refine GX.wR ?_; intros
    exact rt1 () rfl
  obtain ⟨k, rfl⟩ := Int.eq_ofNat_of_zero_le (show 0 ≤ a by omega)
  have hk : k < 61 := by omega
  have hR := d_right k hk
  have hT := d_tiny k
  have hs := d_said ⟨k, hk⟩
  have hp : playP (dT (k : Int)) [] 3000 = ranP (dT (k : Int)) [] [] 3000 := by
    unfold playP
    rw [if_pos hR, d_glob]
  dsimp only at hs
  rw [← hp] at hs
  refine GX.wRA ?_; intros
  refine GX.o (GX.mks (c := 2) ?_)
  intro gb
  rw [show List.replicate 2 (⟨0, [], 0, [], [], []⟩ : Unt) = [⟨0, [], 0, [], [], []⟩, ⟨0, [], 0, [], [], []⟩] from rfl]
  have e0 : ([⟨0, [], 0, [], [], []⟩, ⟨0, [], 0, [], [], []⟩] : List Unt)[0]? = some ⟨0, [], 0, [], [], []⟩ := rfl
  have e1 : (([⟨0, [], 0, [], [], []⟩, ⟨0, [], 0, [], [], []⟩] : List Unt).set 0 ⟨0, [-2], -3, [], [], [⟨1, 0, 0, 0, (k : Int), []⟩, ⟨13, -1, 0, 1, 0, [0]⟩, ⟨18, -1, 0, 0, 0, []⟩]⟩)[1]? = some ⟨0, [], 0, [], [], []⟩ := rfl
  have e2 : ((([⟨0, [], 0, [], [], []⟩, ⟨0, [], 0, [], [], []⟩] : List Unt).set 0 ⟨0, [-2], -3, [], [], [⟨1, 0, 0, 0, (k : Int), []⟩, ⟨13, -1, 0, 1, 0, [0]⟩, ⟨18, -1, 0, 0, 0, []⟩]⟩).set 1 ⟨1, [-2, -2, -2, -2, 0], -3, [], [0], []⟩)[1]? = some ⟨1, [-2, -2, -2, -2, 0], -3, [], [0], []⟩ := rfl
  have l0 : ([⟨0, [], 0, [], [], []⟩, ⟨0, [], 0, [], [], []⟩] : List Unt).length = 2 := rfl
  have l1 : (([⟨0, [], 0, [], [], []⟩, ⟨0, [], 0, [], [], []⟩] : List Unt).set 0 ⟨0, [-2], -3, [], [], [⟨1, 0, 0, 0, (k : Int), []⟩, ⟨13, -1, 0, 1, 0, [0]⟩, ⟨18, -1, 0, 0, 0, []⟩]⟩).length = 2 := rfl
  refine GX.wRA ?_; intros
  refine GX.o (GX.som (e := tyUnt) (i := 0) (sz := 6) ?_)
  refine GX.wRA ?_; intros
  refine GX.o (GX.som (e := tyUnt) (i := 1) (sz := 6) ?_)
  refine GX.wRA ?_; intros
  refine frzE (some ⟨gb, 0, none⟩) [dU0 (k : Int), dU1] ?_
  refine GX.wRA ?_; intros
  refine slNil Ty.int ?_
  refine GX.agZ (e := tyRTg) 59 (dT (k : Int)) ?_
  refine GX.o (cl (run_spec _ (dT (k : Int)) hT.small hT.tame none 0 [] 3000 (by omega)) fun s => ?_)
  generalize playP (dT (k : Int)) [] 3000 = y at hs ⊢
  unfold DSaid at hs
  by_cases hd : k + 2 ≤ 40
  · rw [if_pos hd] at hs
    obtain ⟨q1, q2, q3, q4, q5, q6⟩ := hs
    refine GX.wR ?_; intros
    refine GX.o (cl known30_spec fun _ => ?_)
    refine GX.wR ?_; intros
    exact rt1 () rfl
  · rw [if_neg hd] at hs
    obtain ⟨q1, q2, q3, q4, q5, q6⟩ := hs
    refine GX.wR ?_; intros
    refine GX.o (cl known30_spec fun _ => ?_)
    refine GX.wR ?_; intros
    exact rt1 () rfl
theorem playDeep_own : ownKnob Try.prog.godebug = none := by kernel_rfl
theorem playDeep_laidOut : laidOutB Try.prog = true := by kernel_rfl
set_option maxRecDepth 100000 in
theorem playDeep_lifted (os : Os) (started : os.Started) (H : Type) (enc : TypeId × Value → H) :
    ReturnsInHanded {} Try.checked os 4 .any (Rows.playDeepSpec.pre6 enc Try.prog Try.f4 Rows.playDeepRow.domain false) (Rows.playDeepSpec.post enc Try.prog Try.f4 false true false false) := by
  refine returnsInHanded_of_change (C := Try.checked) playDeep_own started (by kernel_rfl) Try.func4
    (ChangeSpec.witness6 (enc := enc) (C := Try.checked) false ⟨#[], #[.int .i64 0], []⟩ 8 (by kernel_rfl) (by kernel_rfl) (by kernel_rfl) (by kernel_rfl)) ?_
  intro W base args ds gs before hval0 hW hcnd _
  have hval : ∀ (j : Nat) t v, Try.f4.params[j]? = some t → args[j]? = some v → Value.okWide Try.prog W .any base t v := hval0
  have hW' := hW
  obtain ⟨p, q, hA0, hV, rfl, hfz, hnd⟩ := hW
  have hA : DataW.TrodAll enc Try.prog W 0 (fun _ => true) true Try.f4.params.toList args.toList ds p := hA0
  rw [Try.params4] at hA hval
  obtain ⟨v0, vs0, d0, ds0, p0, q0, hargs, rfl, rfl, h0, r0⟩ := trodAll_cons hA
  obtain ⟨rfl, rfl, rfl⟩ := trodAll_nil r0
  obtain rfl : args = #[v0] := by cases args; simp_all
  obtain ⟨rfl, rfl⟩ := trodVars_none hV
  have hlt := hW'.lt
  have hl0 : ∀ x ∈ p0, x.block < W.heap.size := fun x hx => hlt x (by simp [hx])
  obtain ⟨a0, rfl, e0, g0, w0⟩ := open_int Try.underlying3 (hval 0 3 v0 rfl rfl) h0
  have b0 : -9223372036854775808 ≤ a0 ∧ a0 ≤ 9223372036854775807 := wf_i64 w0
  refine ((playDeep_does a0 b0).calls W all_nil).mono fun e W' ⟨he, hu⟩ => ?_
  subst he
  have hb := hu.below
  exact ⟨_, rfl, _, _, _, [], _, [], hW', trodAll_cons_mk (shut_bool Try.underlying4 _) trodAll_mk0, (trodAll_cons_mk (hb.trod playDeep_laidOut (by kernel_rfl) (of_decide_eq_true (by kernel_rfl)) h0 hl0) trodAll_mk0), rfl, hb.frame _, fun h => by cases h⟩
theorem playDeep_holds : Rows.PlayDeepSaid :=
  OpenClaim.holds_of_wide 4 Try.f4 rfl rfl rfl rfl rfl rfl rfl ⟨rfl, rfl, rfl, rfl, rfl⟩ rfl rfl rfl rfl rfl (by kernel_rfl) Try.func4 (by kernel_rfl)
    (of_decide_eq_true (by kernel_rfl)) (by unfold Func.isWrapper; first | (rw [if_pos (by decide +kernel)]; kernel_rfl) | (rw [if_neg (by decide +kernel)]; exact ⟨rfl, rfl⟩))
    (fun os started H enc _ => playDeep_lifted os started H enc)
end Go.Proofs.Ytomadjefdghliaa
