import Derived.Test.YtdkhfjcbhpfkoaaM1
import Derived.Test.YtdkhfjcbhpfkoaaM2
import Derived.Test.YtdkhfjcbhpfkoaaM3
import Derived.Test.YtdkhfjcbhpfkoaaM4
import Derived.Test.YtdkhfjcbhpfkoaaM5
import Derived.Test.YtdkhfjcbhpfkoaaM6
import Derived.Test.YtdkhfjcbhpfkoaaM7
import Derived.Test.YtdkhfjcbhpfkoaaM8
import Derived.Test.YtdkhfjcbhpfkoaaM9
import Derived.Test.YtdkhfjcbhpfkoaaM10
import Derived.Test.YtdkhfjcbhpfkoaaM11
import Derived.Test.YtdkhfjcbhpfkoaaM12
import Derived.Test.YtdkhfjcbhpfkoaaM13
import Derived.Test.YtdkhfjcbhpfkoaaM14
import Derived.Test.YtdkhfjcbhpfkoaaM15
import Derived.Test.YtdkhfjcbhpfkoaaM16
import Derived.Test.YtdkhfjcbhpfkoaaM17
import Derived.Test.YtdkhfjcbhpfkoaaM18
import Derived.Test.YtdkhfjcbhpfkoaaM19
import Derived.Test.YtdkhfjcbhpfkoaaM20
import Derived.Test.YtdkhfjcbhpfkoaaM21
import Derived.Test.YtdkhfjcbhpfkoaaM22
import Derived.Test.YtdkhfjcbhpfkoaaM23
import Derived.Test.YtdkhfjcbhpfkoaaM24
import Derived.Test.YtdkhfjcbhpfkoaaM25
import Derived.Test.YtdkhfjcbhpfkoaaM26
import Derived.Test.YtdkhfjcbhpfkoaaM27
import Derived.Test.YtdkhfjcbhpfkoaaM28
/- CodeCut: for all programs t with regions, numbers n and lists of bytes the law returns true; its arguments read as before. No condition. -/
namespace Go.Proofs.Ytdkhfjcbhpfkoaa
open Go Go.RR Go.RX Go.GX Go.Api Go.RtM Go.NumM Go.ChangeShapes Go.WideShapes Go.ChangeAt Go.RowKit
attribute [local irreducible] wpList Code.wp wpPlan Exit.then Exit.inBlock bodyPost NoPanic Went GX.Post GX.Again GX.Meet GX.RowR GX.Own GX.Owns GX.Box GX.Sl GX.Pt GX.Ag GX.MapR GX.Kept GX.Pin wpT GoK AtEnd Both

theorem get_none {B : List Int} {t : RTg} {e : Int} (h : (e = 0 ∧ Is B t ∧ ∀ t2, Is B t2 → t = t2) ∨ (t = ⟨[], [], [], 0⟩ ∧ (∀ t2, B.length ≤ 4194304 → ¬ Is B t2) ∧ e = if 4194304 < B.length then 4 else 6)) (h2 : ∀ t2, ¬ Is B t2) (hB : B.length ≤ 4194304) : t = ⟨[], [], [], 0⟩ ∧ e = 6 := by
  rcases h with ⟨_, h, _⟩ | ⟨h, _, h3⟩
  · exact absurd h (h2 _)
  · rw [if_neg (by omega)] at h3
    exact ⟨h, h3⟩
set_option maxHeartbeats 2000000 in
theorem codeCut_does (cs : List Value) (t : RTg) (ht : RTg.ok t) (n : Int) (hn : -9223372036854775808 ≤ n ∧ n ≤ 9223372036854775807) (a0 : Option Addr) (c0 : Nat) (M : List Int) (hM : ∀ x ∈ M, 0 ≤ x ∧ x ≤ 255) : Does Try.prog 7 [.agg cs.toArray, .int .i64 n, .slice a0 M.length c0] [Ag tyRTg cs t, Sl Ty.byte a0 c0 M] [] (fun _ : Unit => .bool true) (fun _ => []) (fun _ => []) := by
  refine enter Try.func7 rfl Try.ntmps7 rfl fun b => ?_
  refine agI (e := tyRTg) (cs := [.slice none 0 0, .slice none 0 0, .slice none 0 0, .int .i64 0]) (y := (⟨[], [], [], 0⟩ : RTg)) ?_
  refine GX.wbR ?_; intros
  refine GX.o (cl (great27_spec _ t) fun _ => ?_)
  by_cases hT : Tiny t
  rotate_left
  · refine GX.wbR ?_; intros
    exact rt1 () rfl
  have hT' := Classical.not_not.2 hT
  by_cases hM2 : 100 < (M.length : Int)
  · refine GX.wbR ?_; intros
    exact rt1 () rfl
  have hl := encT_le ht hT
  refine GX.wbR ?_; intros
  refine GX.o (cl (put27_spec _ t ht hT.small (by omega)) fun s => ?_)
  obtain ⟨a1, c1⟩ := s
  dsimp only
  by_cases hR : RightP t
  rotate_left
  · rw [show putT t = [] from if_neg hR, show putE t = 5 from if_neg hR]
    refine GX.wbR ?_; intros
    refine GX.o (cl known27_spec fun _ => ?_)
    refine GX.wbR ?_; intros
    exact rt1 () rfl
  rw [putT_right hR, putE_right hR]
  have hl2 := right_le ht hR hT
  obtain ⟨k, hk, hk2⟩ := and20 n
  have hss : decide (t = t) = true := decide_eq_true rfl
  have hzz : decide ((⟨[], [], [], 0⟩ : RTg) = ⟨[], [], [], 0⟩) = true := decide_eq_true rfl
  refine GX.wbR ?_; intros
  rw [hk]
  refine GX.wbRB ?_; intros
  refine GX.nmP 3 ?_; rintro b3 rfl
  refine GX.cut (σ := Unit) (fun _ => [(2, .slice a0 M.length c0), (3, .pointer (some ⟨b3, 0, none⟩)), (6, .bool false), (7, .slice a1 (encT t).length c1)]) (fun _ => []) (fun _ => []) (fun _ => True) ?_ (fun _ _ => ?_)
  · by_cases hkl : k < (encT t).length
    · refine GX.wbR ?_; intros
      refine GX.nmS 38 ?_; rintro a3 c3 rfl rfl
      refine GX.o (cl (get27_spec a3 c3 ((encT t).take (k : Int).toNat)) fun s => ?_)
      obtain ⟨cs2, u, e2, h2⟩ := s
      obtain ⟨h3, h4⟩ := get_none h2 (fun t2 h => not_cut hkl h.2.2) (by rw [List.length_take]; omega)
      dsimp only
      clear h2
      subst h3 h4
      refine GX.wbR ?_; intros
      refine GX.o (cl (same27_spec _ _ ⟨[], [], [], 0⟩ ⟨[], [], [], 0⟩) fun _ => ?_)
      rw [hzz]
      refine GX.wbR ?_; intros
      exact meet () ⟨rfl, rfl, rfl, rfl, trivial⟩ trivial
    · refine GX.wbR ?_; intros
      exact meet () ⟨rfl, rfl, rfl, rfl, trivial⟩ trivial
  refine GX.wbR ?_; intros
  refine GX.nmS 54 ?_; rintro a4 c4 rfl rfl
  refine frz a4 ?_
  refine GX.o (cl (get27_spec a4 c4 (encT t ++ M)) fun s => ?_)
  obtain ⟨cs2, u, e2, h2⟩ := s
  by_cases hm0 : (M.length : Int) = 0
  · have hme : M = [] := List.length_eq_zero_iff.1 (by omega)
    obtain ⟨h3, h4⟩ := get_of h2 (show Is _ t from ⟨ht, hR, by rw [hme, List.append_nil]⟩) (by rw [List.length_append]; omega)
    replace h3 := h3.symm
    dsimp only
    clear h2
    subst h3 h4
    refine GX.wbR ?_; intros
    refine GX.o (cl (same27_spec _ _ t t) fun _ => ?_)
    rw [hss]
    refine GX.wbR ?_; intros
    refine GX.o (cl known27_spec fun _ => ?_)
    refine GX.wbR ?_; intros
    exact rt1 () rfl
  · obtain ⟨h3, h4⟩ := get_none h2 (fun t2 h => not_more (fun hme => hm0 (by rw [hme]; rfl)) h.2.2) (by rw [List.length_append]; omega)
    dsimp only
    clear h2
    subst h3 h4
    refine GX.wbR ?_; intros
    refine GX.o (cl (same27_spec _ _ ⟨[], [], [], 0⟩ ⟨[], [], [], 0⟩) fun _ => ?_)
    rw [hzz]
    refine GX.wbR ?_; intros
    refine GX.o (cl known27_spec fun _ => ?_)
    refine GX.wbR ?_; intros
    exact rt1 () rfl

theorem codeCut_own : ownKnob Try.prog.godebug = none := by kernel_rfl
theorem codeCut_laidOut : laidOutB Try.prog = true := by kernel_rfl
set_option maxRecDepth 100000 in
theorem codeCut_lifted (os : Os) (started : os.Started) (H : Type) (enc : TypeId × Value → H) :
    ReturnsInHanded {} Try.checked os 7 .any (Rows.codeCutSpec.pre6 enc Try.prog Try.f7 Rows.codeCutRow.domain false) (Rows.codeCutSpec.post enc Try.prog Try.f7 false true false false) := by
  refine returnsInHanded_of_change (C := Try.checked) codeCut_own started (by kernel_rfl) Try.func7
    (ChangeSpec.witness6 (enc := enc) (C := Try.checked) false ⟨#[], #[.agg #[(.slice none 0 0), (.slice none 0 0), (.slice none 0 0), (.int .i64 0)], .int .i64 0, .slice none 0 0], []⟩ 8 (by kernel_rfl) (by kernel_rfl) (by kernel_rfl) (by kernel_rfl)) ?_
  intro W base args ds gs before hval0 hW hcnd _
  have hval : ∀ (j : Nat) t v, Try.f7.params[j]? = some t → args[j]? = some v → Value.okWide Try.prog W .any base t v := hval0
  have hW' := hW
  obtain ⟨p, q, hA0, hV, rfl, hfz, hnd⟩ := hW
  have hA : DataW.TrodAll enc Try.prog W 0 (fun _ => true) true Try.f7.params.toList args.toList ds p := hA0
  rw [Try.params7] at hA hval
  obtain ⟨v0, vs0, d0, ds0, p0, q0, hargs, rfl, rfl, h0, r0⟩ := trodAll_cons hA
  obtain ⟨v1, vs1, d1, ds1, p1, q1, rfl, rfl, rfl, h1, r1⟩ := trodAll_cons r0
  obtain ⟨v2, vs2, d2, ds2, p2, q2, rfl, rfl, rfl, h2, r2⟩ := trodAll_cons r1
  obtain ⟨rfl, rfl, rfl⟩ := trodAll_nil r2
  obtain rfl : args = #[v0, v1, v2] := by cases args; simp_all
  obtain ⟨rfl, rfl⟩ := trodVars_none hV
  have hlt := hW'.lt
  have hl0 : ∀ x ∈ p0, x.block < W.heap.size := fun x hx => hlt x (by simp [hx])
  obtain ⟨c0, rfl⟩ : ∃ cs, v0 = .agg cs := by have := hval 0 26 v0 rfl rfl; unfold Value.okWide at this; rw [Try.underlying26] at this; obtain ⟨cs, h, _⟩ := this; exact ⟨cs, h⟩
  obtain ⟨x0, z0, o0⟩ := conv_rtg enc W _ _ _ _ _ h0.choose_spec
  have f0 := ag_in z0
  have hl1 : ∀ x ∈ p1, x.block < W.heap.size := fun x hx => hlt x (by simp [hx])
  obtain ⟨a1, rfl, e1, g1, w1⟩ := open_int Try.underlying3 (hval 1 3 v1 rfl rfl) h1
  have b1 : -9223372036854775808 ≤ a1 ∧ a1 ≤ 9223372036854775807 := wf_i64 w1
  have hl2 : ∀ x ∈ p2, x.block < W.heap.size := fun x hx => hlt x (by simp [hx])
  obtain ⟨s2, n2, c2, rfl⟩ := okWide_slice Try.underlying28 (hval 2 28 v2 rfl rfl)
  obtain ⟨x2, z2, o2⟩ := cv_bytes enc W _ _ _ _ _ h2.choose_spec
  obtain ⟨rfl, f2⟩ := sl_in z2
  refine ((codeCut_does c0.toList x0 o0 a1 b1 s2 c2 x2 o2).calls W (all_cons f0 (all_cons f2 all_nil))).mono fun e W' ⟨he, hu⟩ => ?_
  subst he
  have hb := hu.below
  exact ⟨_, rfl, _, _, _, [], _, [], hW', trodAll_cons_mk (shut_bool Try.underlying4 _) trodAll_mk0, (trodAll_cons_mk (hb.trod codeCut_laidOut (by kernel_rfl) (of_decide_eq_true (by kernel_rfl)) h0 hl0) (trodAll_cons_mk (hb.trod codeCut_laidOut (by kernel_rfl) (of_decide_eq_true (by kernel_rfl)) h1 hl1) (trodAll_cons_mk (hb.trod codeCut_laidOut (by kernel_rfl) (of_decide_eq_true (by kernel_rfl)) h2 hl2) trodAll_mk0))), rfl, hb.frame _, fun h => by cases h⟩
theorem codeCut_holds : Rows.CodeCutSaid :=
  OpenClaim.holds_of_wide 7 Try.f7 rfl rfl rfl rfl rfl rfl rfl ⟨rfl, rfl, rfl, rfl, rfl⟩ rfl rfl rfl rfl rfl (by kernel_rfl) Try.func7 (by kernel_rfl)
    (of_decide_eq_true (by kernel_rfl)) (by unfold Func.isWrapper; first | (rw [if_pos (by decide +kernel)]; kernel_rfl) | (rw [if_neg (by decide +kernel)]; exact ⟨rfl, rfl⟩))
    (fun os started H enc _ => codeCut_lifted os started H enc)
end Go.Proofs.Ytdkhfjcbhpfkoaa
