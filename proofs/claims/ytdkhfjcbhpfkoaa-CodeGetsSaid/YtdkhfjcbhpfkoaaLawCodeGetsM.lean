import Derived.Test.YtdkhfjcbhpfkoaaM1
import Derived.Test.YtdkhfjcbhpfkoaaM2
import Derived.Test.YtdkhfjcbhpfkoaaM3
import Derived.Test.YtdkhfjcbhpfkoaaM4
import Derived.Test.YtdkhfjcbhpfkoaaM5
import Derived.Test.YtdkhfjcbhpfkoaaM6
import Derived.Test.YtdkhfjcbhpfkoaaM7
import Derived.Test.YtdkhfjcbhpfkoaaM8
import Derived.Test.YtdkhfjcbhpfkoaaM9
import Derived.Test.YtdkhfjcbhpfkoaaM10
import Derived.Test.YtdkhfjcbhpfkoaaM11
import Derived.Test.YtdkhfjcbhpfkoaaM12
import Derived.Test.YtdkhfjcbhpfkoaaM13
import Derived.Test.YtdkhfjcbhpfkoaaM14
import Derived.Test.YtdkhfjcbhpfkoaaM15
import Derived.Test.YtdkhfjcbhpfkoaaM16
import Derived.Test.YtdkhfjcbhpfkoaaM17
import Derived.Test.YtdkhfjcbhpfkoaaM18
import Derived.Test.YtdkhfjcbhpfkoaaM19
import Derived.Test.YtdkhfjcbhpfkoaaM20
import Derived.Test.YtdkhfjcbhpfkoaaM21
import Derived.Test.YtdkhfjcbhpfkoaaM22
import Derived.Test.YtdkhfjcbhpfkoaaM23
import Derived.Test.YtdkhfjcbhpfkoaaM24
import Derived.Test.YtdkhfjcbhpfkoaaM25
import Derived.Test.YtdkhfjcbhpfkoaaM26
import Derived.Test.YtdkhfjcbhpfkoaaM27
import Derived.Test.YtdkhfjcbhpfkoaaM28
/- CodeGets: for all lists of bytes the law returns true; its argument reads as before. No condition. -/
namespace Go.Proofs.Ytdkhfjcbhpfkoaa
open Go Go.RR Go.RX Go.GX Go.Api Go.RtM Go.NumM Go.ChangeShapes Go.WideShapes Go.ChangeAt Go.RowKit
attribute [local irreducible] wpList Code.wp wpPlan Exit.then Exit.inBlock bodyPost NoPanic Went GX.Post GX.Again GX.Meet GX.RowR GX.Own GX.Owns GX.Box GX.Sl GX.Pt GX.Ag GX.MapR GX.Kept GX.Pin wpT GoK AtEnd Both

theorem gets_same {B : List Int} {t u : RTg} {e f : Int} (hB : B.length ≤ 4194304) (h : (e = 0 ∧ Is B t ∧ ∀ t2, Is B t2 → t = t2) ∨ (t = ⟨[], [], [], 0⟩ ∧ (∀ t2, B.length ≤ 4194304 → ¬ Is B t2) ∧ e = if 4194304 < B.length then 4 else 6)) (g : (f = 0 ∧ Is B u ∧ ∀ t2, Is B t2 → u = t2) ∨ (u = ⟨[], [], [], 0⟩ ∧ (∀ t2, B.length ≤ 4194304 → ¬ Is B t2) ∧ f = if 4194304 < B.length then 4 else 6)) : u = t ∧ f = e := by
  rcases h with ⟨rfl, h2, h3⟩ | ⟨rfl, h2, rfl⟩
  · rcases g with ⟨rfl, g2, g3⟩ | ⟨rfl, g2, rfl⟩
    · exact ⟨g3 _ h2, rfl⟩
    · exact absurd h2 (g2 _ hB)
  · rcases g with ⟨rfl, g2, g3⟩ | ⟨rfl, g2, rfl⟩
    · exact absurd g2 (h2 _ hB)
    · exact ⟨rfl, rfl⟩
theorem codeGets_does (a : Option Addr) (c : Nat) (B : List Int) (hB : ∀ x ∈ B, 0 ≤ x ∧ x ≤ 255) : Does Try.prog 4 [.slice a B.length c] [Sl Ty.byte a c B] [] (fun _ : Unit => .bool true) (fun _ => []) (fun _ => []) := by
  refine enter Try.func4 rfl Try.ntmps4 rfl fun b => ?_
  by_cases hl : 4000 < (B.length : Int)
  · refine GX.wbR ?_; intros
    exact rt1 () rfl
  refine GX.wbR ?_; intros
  refine GX.o (cl (get27_spec a c B) fun s => ?_)
  obtain ⟨cs1, t, e, h1⟩ := s
  dsimp only
  refine GX.wbR ?_; intros
  refine GX.o (cl (rget27_spec a c B hB) fun s => ?_)
  obtain ⟨cs2, u, f, h2⟩ := s
  dsimp only
  obtain ⟨h3, h4⟩ := gets_same (by omega) h1 h2
  clear h1 h2
  subst h3 h4
  have hss : decide (u = u) = true := decide_eq_true rfl
  refine GX.wbR ?_; intros
  refine GX.o (cl (same27_spec _ _ u u) fun _ => ?_)
  rw [hss]
  refine GX.wbR ?_; intros
  refine GX.o (cl known27_spec fun _ => ?_)
  refine GX.wbR ?_; intros
  exact rt1 () rfl

theorem codeGets_own : ownKnob Try.prog.godebug = none := by kernel_rfl
theorem codeGets_laidOut : laidOutB Try.prog = true := by kernel_rfl
set_option maxRecDepth 100000 in
theorem codeGets_lifted (os : Os) (started : os.Started) (H : Type) (enc : TypeId × Value → H) :
    ReturnsInHanded {} Try.checked os 4 .any (Rows.codeGetsSpec.pre6 enc Try.prog Try.f4 Rows.codeGetsRow.domain false) (Rows.codeGetsSpec.post enc Try.prog Try.f4 false true false false) := by
  refine returnsInHanded_of_change (C := Try.checked) codeGets_own started (by kernel_rfl) Try.func4
    (ChangeSpec.witness6 (enc := enc) (C := Try.checked) false ⟨#[], #[.slice none 0 0], []⟩ 8 (by kernel_rfl) (by kernel_rfl) (by kernel_rfl) (by kernel_rfl)) ?_
  intro W base args ds gs before hval0 hW hcnd _
  have hval : ∀ (j : Nat) t v, Try.f4.params[j]? = some t → args[j]? = some v → Value.okWide Try.prog W .any base t v := hval0
  have hW' := hW
  obtain ⟨p, q, hA0, hV, rfl, hfz, hnd⟩ := hW
  have hA : DataW.TrodAll enc Try.prog W 0 (fun _ => true) true Try.f4.params.toList args.toList ds p := hA0
  rw [Try.params4] at hA hval
  obtain ⟨v0, vs0, d0, ds0, p0, q0, hargs, rfl, rfl, h0, r0⟩ := trodAll_cons hA
  obtain ⟨rfl, rfl, rfl⟩ := trodAll_nil r0
  obtain rfl : args = #[v0] := by cases args; simp_all
  obtain ⟨rfl, rfl⟩ := trodVars_none hV
  have hlt := hW'.lt
  have hl0 : ∀ x ∈ p0, x.block < W.heap.size := fun x hx => hlt x (by simp [hx])
  obtain ⟨s0, n0, c0, rfl⟩ := okWide_slice Try.underlying28 (hval 0 28 v0 rfl rfl)
  obtain ⟨x0, z0, o0⟩ := cv_bytes enc W _ _ _ _ _ h0.choose_spec
  obtain ⟨rfl, f0⟩ := sl_in z0
  refine ((codeGets_does s0 c0 x0 o0).calls W (all_cons f0 all_nil)).mono fun e W' ⟨he, hu⟩ => ?_
  subst he
  have hb := hu.below
  exact ⟨_, rfl, _, _, _, [], _, [], hW', trodAll_cons_mk (shut_bool Try.underlying4 _) trodAll_mk0, (trodAll_cons_mk (hb.trod codeGets_laidOut (by kernel_rfl) (of_decide_eq_true (by kernel_rfl)) h0 hl0) trodAll_mk0), rfl, hb.frame _, fun h => by cases h⟩
theorem codeGets_holds : Rows.CodeGetsSaid :=
  OpenClaim.holds_of_wide 4 Try.f4 rfl rfl rfl rfl rfl rfl rfl ⟨rfl, rfl, rfl, rfl, rfl⟩ rfl rfl rfl rfl rfl (by kernel_rfl) Try.func4 (by kernel_rfl)
    (of_decide_eq_true (by kernel_rfl)) (by unfold Func.isWrapper; first | (rw [if_pos (by decide +kernel)]; kernel_rfl) | (rw [if_neg (by decide +kernel)]; exact ⟨rfl, rfl⟩))
    (fun os started H enc _ => codeGets_lifted os started H enc)
end Go.Proofs.Ytdkhfjcbhpfkoaa
