import Derived.Test.YtdkhfjcbhpfkoaaM1
import Derived.Test.YtdkhfjcbhpfkoaaM2
import Derived.Test.YtdkhfjcbhpfkoaaM3
import Derived.Test.YtdkhfjcbhpfkoaaM4
import Derived.Test.YtdkhfjcbhpfkoaaM5
import Derived.Test.YtdkhfjcbhpfkoaaM6
import Derived.Test.YtdkhfjcbhpfkoaaM7
import Derived.Test.YtdkhfjcbhpfkoaaM8
import Derived.Test.YtdkhfjcbhpfkoaaM9
import Derived.Test.YtdkhfjcbhpfkoaaM10
import Derived.Test.YtdkhfjcbhpfkoaaM11
import Derived.Test.YtdkhfjcbhpfkoaaM12
import Derived.Test.YtdkhfjcbhpfkoaaM13
import Derived.Test.YtdkhfjcbhpfkoaaM14
import Derived.Test.YtdkhfjcbhpfkoaaM15
import Derived.Test.YtdkhfjcbhpfkoaaM16
import Derived.Test.YtdkhfjcbhpfkoaaM17
import Derived.Test.YtdkhfjcbhpfkoaaM18
import Derived.Test.YtdkhfjcbhpfkoaaM19
import Derived.Test.YtdkhfjcbhpfkoaaM20
import Derived.Test.YtdkhfjcbhpfkoaaM21
import Derived.Test.YtdkhfjcbhpfkoaaM22
import Derived.Test.YtdkhfjcbhpfkoaaM23
import Derived.Test.YtdkhfjcbhpfkoaaM24
import Derived.Test.YtdkhfjcbhpfkoaaM25
import Derived.Test.YtdkhfjcbhpfkoaaM26
import Derived.Test.YtdkhfjcbhpfkoaaM27
import Derived.Test.YtdkhfjcbhpfkoaaM28
/- CodeTurned: for all programs t with regions, numbers at and bytes v the law returns true; its arguments read as before. No condition. -/
namespace Go.Proofs.Ytdkhfjcbhpfkoaa
open Go Go.RR Go.RX Go.GX Go.Api Go.RtM Go.NumM Go.ChangeShapes Go.WideShapes Go.ChangeAt Go.RowKit
attribute [local irreducible] wpList Code.wp wpPlan Exit.then Exit.inBlock bodyPost NoPanic Went GX.Post GX.Again GX.Meet GX.RowR GX.Own GX.Owns GX.Box GX.Sl GX.Pt GX.Ag GX.MapR GX.Kept GX.Pin wpT GoK AtEnd Both

theorem get_noneT {B : List Int} {t : RTg} {e : Int} (h : (e = 0 ∧ Is B t ∧ ∀ t2, Is B t2 → t = t2) ∨ (t = ⟨[], [], [], 0⟩ ∧ (∀ t2, B.length ≤ 4194304 → ¬ Is B t2) ∧ e = if 4194304 < B.length then 4 else 6)) (h2 : ∀ t2, ¬ Is B t2) (hB : B.length ≤ 4194304) : t = ⟨[], [], [], 0⟩ ∧ e = 6 := by
  rcases h with ⟨_, h, _⟩ | ⟨h, _, h3⟩
  · exact absurd h (h2 _)
  · rw [if_neg (by omega)] at h3
    exact ⟨h, h3⟩
theorem set_byt {l : List Int} {k : Nat} {v : Int} (h : Byt l) (hv : 0 ≤ v ∧ v ≤ 255) : Byt (l.set k v) := fun x hx => by
  rcases List.mem_or_eq_of_mem_set hx with hx | rfl
  · exact h x hx
  · exact hv
theorem set_same {l : List Int} {k : Nat} {x v : Int} (h : l[k]? = some x) : l.set k v = l ↔ x = v := by
  constructor
  · intro e
    have := congrArg (fun m => m[k]?) e
    have hk : k < l.length := (List.getElem?_eq_some_iff.1 h).1
    simp only [List.getElem?_set_self hk, h] at this
    simpa using this.symm
  · rintro rfl
    obtain ⟨hk, e⟩ := List.getElem?_eq_some_iff.1 h
    rw [← e]; exact List.set_getElem_self hk
set_option maxHeartbeats 2000000 in
theorem codeTurned_does (cs : List Value) (t : RTg) (ht : RTg.ok t) (n : Int) (hn : -9223372036854775808 ≤ n ∧ n ≤ 9223372036854775807) (v : Int) (hv : 0 ≤ v ∧ v ≤ 255) : Does Try.prog 8 [.agg cs.toArray, .int .i64 n, .int .u8 v] [Ag tyRTg cs t] [] (fun _ : Unit => .bool true) (fun _ => []) (fun _ => []) := by
  refine enter Try.func8 rfl Try.ntmps8 rfl fun b => ?_
  refine agI (e := tyRTg) (cs := [.slice none 0 0, .slice none 0 0, .slice none 0 0, .int .i64 0]) (y := (⟨[], [], [], 0⟩ : RTg)) ?_
  refine GX.wbR ?_; intros
  refine GX.o (cl (great27_spec _ t) fun _ => ?_)
  by_cases hT : Tiny t
  rotate_left
  · refine GX.wbR ?_; intros
    exact rt1 () rfl
  have hT' := Classical.not_not.2 hT
  have hl := encT_le ht hT
  refine GX.wbR ?_; intros
  refine GX.o (cl (put27_spec _ t ht hT.small (by omega)) fun s => ?_)
  obtain ⟨a1, c1⟩ := s
  dsimp only
  by_cases hR : RightP t
  rotate_left
  · rw [show putT t = [] from if_neg hR, show putE t = 5 from if_neg hR]
    refine GX.wbR ?_; intros
    refine GX.o (cl known27_spec fun _ => ?_)
    refine GX.wbR ?_; intros
    exact rt1 () rfl
  rw [putT_right hR, putE_right hR]
  have hl2 := right_le ht hR hT
  have hl1 : 1 ≤ (encT t).length := by
    have := num_pos (t.classes.length : Int)
    unfold encT; rw [List.length_append]; omega
  obtain ⟨k, hk, hk2⟩ := and20 n
  have hmod : k % (encT t).length < (encT t).length := Nat.mod_lt _ (by omega)
  refine GX.wbR ?_; intros
  refine GX.nmS 36 ?_; rintro a4 c4 rfl rfl
  rw [hk]
  obtain ⟨x, hx⟩ := get_lt hmod
  refine opn a4 fun _ _ ha => ?_
  obtain ⟨h0, _⟩ | ⟨g, rfl⟩ := ha
  · rw [h0] at hl1; simp at hl1
  refine GX.wbR ?_; intros
  obtain ⟨C, hC⟩ : ∃ C : List Int, C = (encT t).set (k % (encT t).length) v := ⟨_, rfl⟩
  have hCl : C.length = (encT t).length := by rw [hC, List.length_set]
  have hsame : C = encT t ↔ x = v := by rw [hC]; exact set_same hx
  rw [← hC, ← hCl]
  refine frz (some ⟨g, 0, none⟩ : Option Addr) ?_
  have hg := get27_spec (some ⟨g, 0, none⟩) c4 C
  refine GX.o (cl hg fun s => ?_)
  obtain ⟨cs2, u, e2, h2⟩ := s
  clear hC hg
  rcases h2 with ⟨h3, h4, _⟩ | ⟨h3, h4, h5⟩
  · dsimp only
    subst h3
    have hs := strEq_self (strOfNums C)
    have hut : (decide (u = t) == decide (x = v)) = true := by
      have : decide (u = t) = decide (x = v) := decide_eq_decide.2 ⟨fun h => hsame.1 (by rw [← h4.2.2, h]), fun h => encT_inj (by rw [h4.2.2]; exact hsame.2 h)⟩
      rw [this]; simp
    refine GX.wbR ?_; intros
    have hp := fun cs3 => put27_spec cs3 u h4.1 (small_of (by rw [h4.2.2]; omega)) (by rw [h4.2.2]; omega)
    rw [putT_right h4.2.1, putE_right h4.2.1, h4.2.2] at hp
    refine GX.o (cl (hp _) fun s => ?_)
    obtain ⟨a5, c5⟩ := s
    dsimp only
    refine GX.wbR ?_; intros
    refine GX.o (cl (same27_spec _ _ u t) fun _ => ?_)
    refine GX.wbR ?_; intros
    refine GX.o (cl known27_spec fun _ => ?_)
    refine GX.wbR ?_; intros
    exact rt1 () rfl
  · dsimp only
    have hxv : ¬ x = v := fun h => h4 t (by omega) ⟨ht, hR, (hsame.2 h).symm⟩
    have hzz : decide ((⟨[], [], [], 0⟩ : RTg) = ⟨[], [], [], 0⟩) = true := decide_eq_true rfl
    rw [if_neg (by omega)] at h5
    subst h3 h5
    refine GX.wbR ?_; intros
    refine GX.o (cl (same27_spec _ _ ⟨[], [], [], 0⟩ ⟨[], [], [], 0⟩) fun _ => ?_)
    rw [hzz]
    refine GX.wbR ?_; intros
    refine GX.o (cl known27_spec fun _ => ?_)
    refine GX.wbR ?_; intros
    exact rt1 () rfl

theorem codeTurned_own : ownKnob Try.prog.godebug = none := by kernel_rfl
theorem codeTurned_laidOut : laidOutB Try.prog = true := by kernel_rfl
set_option maxRecDepth 100000 in
theorem codeTurned_lifted (os : Os) (started : os.Started) (H : Type) (enc : TypeId × Value → H) :
    ReturnsInHanded {} Try.checked os 8 .any (Rows.codeTurnedSpec.pre6 enc Try.prog Try.f8 Rows.codeTurnedRow.domain false) (Rows.codeTurnedSpec.post enc Try.prog Try.f8 false true false false) := by
  refine returnsInHanded_of_change (C := Try.checked) codeTurned_own started (by kernel_rfl) Try.func8
    (ChangeSpec.witness6 (enc := enc) (C := Try.checked) false ⟨#[], #[.agg #[(.slice none 0 0), (.slice none 0 0), (.slice none 0 0), (.int .i64 0)], .int .i64 0, .int .u8 0], []⟩ 8 (by kernel_rfl) (by kernel_rfl) (by kernel_rfl) (by kernel_rfl)) ?_
  intro W base args ds gs before hval0 hW hcnd _
  have hval : ∀ (j : Nat) t v, Try.f8.params[j]? = some t → args[j]? = some v → Value.okWide Try.prog W .any base t v := hval0
  have hW' := hW
  obtain ⟨p, q, hA0, hV, rfl, hfz, hnd⟩ := hW
  have hA : DataW.TrodAll enc Try.prog W 0 (fun _ => true) true Try.f8.params.toList args.toList ds p := hA0
  rw [Try.params8] at hA hval
  obtain ⟨v0, vs0, d0, ds0, p0, q0, hargs, rfl, rfl, h0, r0⟩ := trodAll_cons hA
  obtain ⟨v1, vs1, d1, ds1, p1, q1, rfl, rfl, rfl, h1, r1⟩ := trodAll_cons r0
  obtain ⟨v2, vs2, d2, ds2, p2, q2, rfl, rfl, rfl, h2, r2⟩ := trodAll_cons r1
  obtain ⟨rfl, rfl, rfl⟩ := trodAll_nil r2
  obtain rfl : args = #[v0, v1, v2] := by cases args; simp_all
  obtain ⟨rfl, rfl⟩ := trodVars_none hV
  have hlt := hW'.lt
  have hl0 : ∀ x ∈ p0, x.block < W.heap.size := fun x hx => hlt x (by simp [hx])
  obtain ⟨c0, rfl⟩ : ∃ cs, v0 = .agg cs := by have := hval 0 26 v0 rfl rfl; unfold Value.okWide at this; rw [Try.underlying26] at this; obtain ⟨cs, h, _⟩ := this; exact ⟨cs, h⟩
  obtain ⟨x0, z0, o0⟩ := conv_rtg enc W _ _ _ _ _ h0.choose_spec
  have f0 := ag_in z0
  have hl1 : ∀ x ∈ p1, x.block < W.heap.size := fun x hx => hlt x (by simp [hx])
  obtain ⟨a1, rfl, e1, g1, w1⟩ := open_int Try.underlying3 (hval 1 3 v1 rfl rfl) h1
  have b1 : -9223372036854775808 ≤ a1 ∧ a1 ≤ 9223372036854775807 := wf_i64 w1
  have hl2 : ∀ x ∈ p2, x.block < W.heap.size := fun x hx => hlt x (by simp [hx])
  obtain ⟨a2, rfl, e2, g2, w2⟩ := open_int Try.underlying5 (hval 2 5 v2 rfl rfl) h2
  have b2 : 0 ≤ a2 ∧ a2 ≤ 255 := by have w := w2; simp only [Lit.wf, Bool.and_eq_true, decide_eq_true_eq] at w; exact w
  refine ((codeTurned_does c0.toList x0 o0 a1 b1 a2 b2).calls W (all_cons f0 all_nil)).mono fun e W' ⟨he, hu⟩ => ?_
  subst he
  have hb := hu.below
  exact ⟨_, rfl, _, _, _, [], _, [], hW', trodAll_cons_mk (shut_bool Try.underlying4 _) trodAll_mk0, (trodAll_cons_mk (hb.trod codeTurned_laidOut (by kernel_rfl) (of_decide_eq_true (by kernel_rfl)) h0 hl0) (trodAll_cons_mk (hb.trod codeTurned_laidOut (by kernel_rfl) (of_decide_eq_true (by kernel_rfl)) h1 hl1) (trodAll_cons_mk (hb.trod codeTurned_laidOut (by kernel_rfl) (of_decide_eq_true (by kernel_rfl)) h2 hl2) trodAll_mk0))), rfl, hb.frame _, fun h => by cases h⟩
theorem codeTurned_holds : Rows.CodeTurnedSaid :=
  OpenClaim.holds_of_wide 8 Try.f8 rfl rfl rfl rfl rfl rfl rfl ⟨rfl, rfl, rfl, rfl, rfl⟩ rfl rfl rfl rfl rfl (by kernel_rfl) Try.func8 (by kernel_rfl)
    (of_decide_eq_true (by kernel_rfl)) (by unfold Func.isWrapper; first | (rw [if_pos (by decide +kernel)]; kernel_rfl) | (rw [if_neg (by decide +kernel)]; exact ⟨rfl, rfl⟩))
    (fun os started H enc _ => codeTurned_lifted os started H enc)
end Go.Proofs.Ytdkhfjcbhpfkoaa
