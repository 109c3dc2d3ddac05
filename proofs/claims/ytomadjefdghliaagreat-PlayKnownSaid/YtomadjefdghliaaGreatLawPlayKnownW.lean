import Derived.Test.YtomadjefdghliaaGreatW1
import Derived.Test.YtomadjefdghliaaGreatW2
import Derived.Test.YtomadjefdghliaaGreatW3
import Derived.Test.YtomadjefdghliaaGreatW4
import Derived.Test.YtomadjefdghliaaGreatW5
import Derived.Test.YtomadjefdghliaaGreatW6
import Derived.Test.YtomadjefdghliaaGreatW7
import Derived.Test.YtomadjefdghliaaGreatW8
import Derived.Test.YtomadjefdghliaaGreatW9
import Derived.Test.YtomadjefdghliaaGreatW10
import Derived.Test.YtomadjefdghliaaGreatW11
import Derived.Test.YtomadjefdghliaaGreatW12
import Derived.Test.YtomadjefdghliaaGreatW13
import Derived.Test.YtomadjefdghliaaGreatW14
import Derived.Test.YtomadjefdghliaaGreatW15
import Derived.Test.YtomadjefdghliaaGreatW16
import Derived.Test.YtomadjefdghliaaGreatW17
import Derived.Test.YtomadjefdghliaaGreatW18
import Derived.Test.YtomadjefdghliaaGreatW19
import Derived.Test.YtomadjefdghliaaGreatW20
import Derived.Test.YtomadjefdghliaaGreatW21
import Derived.Test.YtomadjefdghliaaGreatW22
import Derived.Test.YtomadjefdghliaaGreatW23
import Derived.Test.YtomadjefdghliaaGreatW24
import Derived.Test.YtomadjefdghliaaGreatW25
import Derived.Test.YtomadjefdghliaaGreatW26
import Derived.Test.YtomadjefdghliaaGreatW27
import Derived.Test.YtomadjefdghliaaGreatW28
import Derived.Test.YtomadjefdghliaaGreatW29
import Derived.Test.YtomadjefdghliaaGreatW30
import Derived.Test.YtomadjefdghliaaGreatW31
import Derived.Test.YtomadjefdghliaaGreatW32
import Derived.Test.YtomadjefdghliaaGreatW33
import Derived.Test.YtomadjefdghliaaGreatW34
/- PlayKnown: for all integers which the law returns true. No condition. -/
namespace Go.Proofs.YtomadjefdghliaaGreat
open Go Go.RR Go.RX Go.GX Go.Api Go.RtM Go.OneM Go.ChangeShapes Go.WideShapes Go.ChangeAt Go.RowKit
attribute [local irreducible] wpList Code.wp wpPlan Exit.then Exit.inBlock bodyPost NoPanic Went GX.Post GX.Again GX.Meet GX.RowR GX.Own GX.Owns GX.Box GX.Sl GX.Pt GX.Ag GX.MapR GX.Kept GX.Pin wpT GoK AtEnd Both

def L30 : List (List Ins) := [[⟨18, -1, 0, 0, 0, []⟩], [⟨21, 0, 0, 0, 0, [0]⟩, ⟨18, -1, 0, 0, 0, []⟩], [⟨11, 0, 0, 0, 0, []⟩, ⟨18, -1, 0, 0, 0, []⟩], [⟨21, 0, 0, 0, 0, [0]⟩, ⟨21, 0, 0, 0, 0, [0]⟩, ⟨18, -1, 0, 0, 0, []⟩], [⟨22, 0, 0, 0, 0, [0]⟩, ⟨18, -1, 0, 0, 0, []⟩], [⟨21, 0, 0, 0, 0, [0]⟩, ⟨22, 0, 0, 0, 0, [0]⟩, ⟨22, 0, 0, 0, 0, [0]⟩, ⟨18, -1, 0, 0, 0, []⟩], [⟨21, 0, 0, 0, 0, [0]⟩, ⟨11, 0, 0, 0, 0, []⟩, ⟨22, 0, 0, 0, 0, [0]⟩, ⟨6, 2, 0, 0, 0, []⟩, ⟨18, -1, 0, 0, 0, []⟩], [⟨21, 0, 0, 0, 0, [0]⟩, ⟨11, 0, 0, 0, 0, []⟩, ⟨6, 2, 0, 0, 0, []⟩, ⟨15, 2, 0, 0, 0, []⟩, ⟨22, 0, 0, 0, 0, [0]⟩, ⟨18, -1, 0, 0, 0, []⟩], [⟨6, 2, 0, 0, 0, []⟩, ⟨18, -1, 0, 0, 0, []⟩], [⟨21, 0, 0, 0, 0, [0]⟩, ⟨11, 0, 0, 0, 0, []⟩, ⟨22, 0, 0, 0, 0, [0]⟩, ⟨2, 0, 0, 0, 0, []⟩, ⟨6, 2, 0, 0, 0, []⟩, ⟨18, -1, 0, 0, 0, []⟩], [⟨21, 0, 0, 0, 0, [0, 1]⟩, ⟨11, 1, 0, 0, 1, []⟩, ⟨11, 0, 0, 0, 0, []⟩, ⟨7, 1, 0, 0, 0, []⟩, ⟨22, 0, 0, 0, 0, [0]⟩, ⟨6, 0, 1, 0, 0, []⟩, ⟨6, 2, 0, 0, 0, []⟩, ⟨18, -1, 0, 0, 0, []⟩], [⟨21, 0, 0, 0, 0, [0, 1]⟩, ⟨11, 1, 0, 0, 1, []⟩, ⟨11, 0, 0, 0, 0, []⟩, ⟨7, 1, 0, 0, 0, []⟩, ⟨22, 0, 0, 0, 0, [0, 1]⟩, ⟨18, -1, 0, 0, 0, []⟩], [⟨21, 0, 0, 0, 0, [0]⟩, ⟨11, 0, 0, 0, 0, []⟩, ⟨22, 0, 0, 0, 0, [0]⟩, ⟨21, 0, 0, 0, 0, [0]⟩, ⟨11, 0, 0, 0, 0, []⟩, ⟨22, 0, 0, 0, 0, [0]⟩, ⟨18, -1, 0, 0, 0, []⟩], [⟨21, 0, 0, 0, 0, [0]⟩, ⟨22, 0, 0, 0, 0, [0]⟩, ⟨16, 0, 0, 0, 0, []⟩], [⟨21, 0, 0, 0, 0, [0, 1]⟩, ⟨22, 0, 0, 0, 0, [0]⟩, ⟨11, 0, 0, 0, 0, []⟩, ⟨18, -1, 0, 0, 0, []⟩], [⟨21, 0, 0, 0, 0, [0]⟩, ⟨21, 0, 0, 0, 0, [0, 1]⟩, ⟨18, -1, 0, 0, 0, []⟩], [⟨21, 0, 0, 0, 0, [0]⟩, ⟨11, 0, 0, 0, 0, []⟩, ⟨11, 0, 0, 0, 0, []⟩, ⟨22, 0, 0, 0, 0, [0]⟩, ⟨21, 0, 0, 0, 0, [0]⟩, ⟨11, 0, 0, 0, 0, []⟩, ⟨22, 0, 0, 0, 0, [0]⟩, ⟨18, -1, 0, 0, 0, []⟩]]
def E30 : List Int := [1, 1, 4, 4, 4, 4, 4, 1, 2, 2, 4, 1, 1, 3, 4, 4, 1]
def M30 : List Int := [1, 2, 1, 2, 1, 2, 2, 2, 1, 2, 3, 3, 3, 5, 3, 2, 3]
def G30 : List Int := [1, 1, 0, 0, 0, 1, 1, 2, 1, 2, 1, 3, 3, 3, 1, 0, 3]
def P30 : List Int := [1, 2, 1, 2, 1, 2, 2, 2, 1, 2, 3, 3, 2, 2, 3, 2, 2]
def T30 : List Int := [0, 0, 0, 0, 0, 0, 1, 1, 0, 1, 2, 2, 1, 0, 0, 0, 2]
/-- What is said of each. -/
def Said30 (k : Nat) (x : List Ins) : Prop := (OneFew x ∧ OneOk x) ∧ E30[k]? = some (ranP (oneT x) [] [] 10).beh.end_ ∧ M30[k]? = some (ranP (oneT x) [] [] 10).made ∧ G30[k]? = some (ranP (oneT x) [] [] 10).gone ∧ P30[k]? = some (ranP (oneT x) [] [] 10).peak ∧ T30[k]? = some (ranP (oneT x) [] [] 10).most ∧
  (k = 7 → (ranP (oneT x) [] [] 10).beh.out = [0]) ∧ ((ranP (oneT x) [] [] 10).beh.end_ = 2 → (ranP (oneT x) [] [] 10).beh.code = 1)
instance (k : Nat) (x : List Ins) : Decidable (Said30 k x) := by unfold Said30; infer_instance
set_option maxRecDepth 20000 in
theorem said30 : ∀ k : Fin 17, Said30 k.1 (L30[k.1]'(by have := k.2; show k.1 < 17; omega)) := by decide +kernel
set_option maxHeartbeats 20000000 in
theorem playKnown_does (a : Int) (ha : -9223372036854775808 ≤ a ∧ a ≤ 9223372036854775807) : Does Tryz.prog 6 [.int .i64 a] [] [] (fun _ : Unit => .bool true) (fun _ => []) (fun _ => []) := by
  refine enter Tryz.func6 rfl Tryz.ntmps6 rfl fun b => ?_
  refine GX.wR ?_; intros
  refine GX.nmB 15 ?_; rintro b15 rfl
  refine GX.nmB 16 ?_; rintro b16 rfl
  refine GX.nmB 17 ?_; rintro b17 rfl
  refine GX.nmB 18 ?_; rintro b18 rfl
  refine GX.nmB 19 ?_; rintro b19 rfl
  refine GX.nmB 20 ?_; rintro b20 rfl
  refine GX.less [(0, .int .i64 a), (134, .int .i64 a), (135, .bool (decide (a < 0))), (136, .bool (decide (a < 0))), (15, .slice (some ⟨b15, 0, none⟩) 17 17), (16, .slice (some ⟨b16, 0, none⟩) 17 17), (17, .slice (some ⟨b17, 0, none⟩) 17 17), (18, .slice (some ⟨b18, 0, none⟩) 17 17), (19, .slice (some ⟨b19, 0, none⟩) 17 17), (20, .slice (some ⟨b20, 0, none⟩) 17 17)] [Sl (Ty.slice tyIns) (some ⟨b15, 0, none⟩) 17 L30, Sl Ty.int (some ⟨b16, 0, none⟩) 17 E30, Sl Ty.int (some ⟨b17, 0, none⟩) 17 M30, Sl Ty.int (some ⟨b18, 0, none⟩) 17 G30, Sl Ty.int (some ⟨b19, 0, none⟩) 17 P30, Sl Ty.int (some ⟨b20, 0, none⟩) 17 T30] [] ⟨rfl, rfl, rfl, rfl, rfl, rfl, rfl, rfl, rfl, rfl, trivial⟩ (AllIn.sub (by repeat (first | apply Go.GX.AllIn.nil | apply Go.GX.AllIn.cons | apply Go.GX.InP.head | apply Go.GX.InP.tail))) (List.nil_sublist _) ?_
  by_cases h1 : a < 0
  · refine GX.wR ?_; intros
    exact rt1 () rfl
  by_cases h2 : (17 : Int) ≤ a
  · refine GX.wR ?_; intros
    exact rt1 () rfl
  obtain ⟨k, rfl⟩ := Int.eq_ofNat_of_zero_le (show 0 ≤ a by omega)
  have hk : k < 17 := by omega
  obtain ⟨x, hx⟩ : ∃ x, L30[k]? = some x := ⟨_, List.getElem?_eq_getElem (show k < L30.length from hk)⟩
  have hs : Said30 k x := by
    have := said30 ⟨k, hk⟩
    rw [List.getElem?_eq_getElem (show k < L30.length from hk)] at hx
    cases hx
    exact this
  obtain ⟨⟨s1, s2⟩, s3, s4, s5, s6, s7, s8, s9⟩ := hs
  have hT := one30_tiny s1
  have hR : RightP (oneT x) := one_right.2 s2
  have hR' := Classical.not_not.2 hR
  refine GX.slPt (bl := b15) k k ?_
  refine GX.wR ?_; intros
  refine GX.nmS 145 ?_; rintro a145 c145 rfl rfl
  refine GX.o (cl (one30_spec a145 c145 x) fun c146 => ?_)
  refine GX.wR ?_; intros
  refine slNil Ty.int ?_
  refine GX.nmA 147 ?_; rintro c147 rfl
  refine GX.o (cl (run_spec c147 (oneT x) hT.small hT.tame none 0 [] 10 (by omega)) fun s => ?_)
  rw [playOne s2]
  generalize ranP (oneT x) [] [] 10 = y at s3 s4 s5 s6 s7 s8 s9 ⊢
  refine GX.slPt (bl := b16) k k ?_
  refine GX.slPt (bl := b17) k k ?_
  refine GX.slPt (bl := b18) k k ?_
  refine GX.slPt (bl := b19) k k ?_
  refine GX.slPt (bl := b20) k k ?_
  refine GX.wR ?_; intros
  refine GX.nmP 21 ?_; rintro b21 rfl
  refine GX.nmP 22 ?_; rintro b22 rfl
  refine frzB b21 ?_
  refine frzB b22 ?_
  refine GX.drawn0  (fun j => !(List.contains [1] j)) [(0, true), (1, false), (2, true), (3, true), (4, true), (5, true), (6, true), (7, true), (8, true), (9, true), (10, true), (11, true), (12, true), (13, true), (14, true), (15, true), (16, true), (17, true), (18, true), (19, true), (20, true), (21, true), (22, true), (23, true), (24, true), (25, true), (26, true), (27, true), (28, true), (29, true), (30, true), (31, true), (32, true), (33, true), (34, true), (35, true), (36, true), (37, true), (38, true), (39, true), (40, true), (41, true), (42, true), (43, true), (44, true), (45, true), (46, true), (47, true), (48, true)] rfl (by kernel_rfl) (by kernel_rfl) (by first | ((repeat (first | apply Go.GX.SelR.nil | apply Go.GX.SelR.cons | (with_reducible apply Go.GX.TakeR.head) | apply Go.GX.TakeR.tail)); done) | (repeat (first | apply Go.GX.SelR.nil | apply Go.GX.SelR.cons | apply Go.GX.TakeR.head | apply Go.GX.TakeR.tail))) ?_; intro wd F hW hR
  refine GX.wT ?_; intros
  refine GX.nmA 149 ?_; rintro c149 rfl
  refine GX.gow ?_
  refine (cl (rright_spec c149 (oneT x) hT.small) fun _ => ?_)
  refine GX.wT ?_; intros
  by_cases h7 : k = 7
  · have ho := s8 h7
    have ho' := Classical.not_not.2 ho
    have h7' : (k : Int) = 7 := by omega
    refine GX.wR ?_; intros
    refine GX.nmS 203 ?_; rintro a203 c203 rfl rfl
    refine GX.nmB 204 ?_; rintro b204 rfl
    refine GX.o (cl (ints10_same a203 (some ⟨b204, 0, none⟩) c203 1 y.beh.out [0]) fun _ => ?_)
    by_cases he : y.beh.end_ = 2
    · have hc := s9 he
      have hc' : ¬ y.beh.code ≠ 1 := Classical.not_not.2 hc
      refine GX.wR ?_; intros
      refine GX.o (cl known30_spec fun _ => ?_)
      refine GX.wR ?_; intros
      exact rt1 () rfl
    · refine GX.wR ?_; intros
      refine GX.o (cl known30_spec fun _ => ?_)
      refine GX.wR ?_; intros
      exact rt1 () rfl
  · have h7' : ¬ (k : Int) = 7 := by omega
    by_cases he : y.beh.end_ = 2
    · have hc := s9 he
      have hc' : ¬ y.beh.code ≠ 1 := Classical.not_not.2 hc
      refine GX.wR ?_; intros
      refine GX.o (cl known30_spec fun _ => ?_)
      refine GX.wR ?_; intros
      exact rt1 () rfl
    · refine GX.wR ?_; intros
      refine GX.o (cl known30_spec fun _ => ?_)
      refine GX.wR ?_; intros
      exact rt1 () rfl
theorem playKnown_own : ownKnob Tryz.prog.godebug = none := by kernel_rfl
theorem playKnown_laidOut : laidOutB Tryz.prog = true := by kernel_rfl
set_option maxRecDepth 100000 in
theorem playKnown_lifted (os : Os) (started : os.Started) (H : Type) (enc : TypeId × Value → H) :
    ReturnsInHanded {} Tryz.checked os 6 .any (Rows.playKnownSpec.pre6 enc Tryz.prog Tryz.f6 Rows.playKnownRow.domain false) (Rows.playKnownSpec.post enc Tryz.prog Tryz.f6 false true false false) := by
  refine returnsInHanded_of_change (C := Tryz.checked) playKnown_own started (by kernel_rfl) Tryz.func6
    (ChangeSpec.witness6 (enc := enc) (C := Tryz.checked) false ⟨#[], #[.int .i64 0], []⟩ 8 (by kernel_rfl) (by kernel_rfl) (by kernel_rfl) (by kernel_rfl)) ?_
  intro W base args ds gs before hval0 hW hcnd _
  have hval : ∀ (j : Nat) t v, Tryz.f6.params[j]? = some t → args[j]? = some v → Value.okWide Tryz.prog W .any base t v := hval0
  have hW' := hW
  obtain ⟨p, q, hA0, hV, rfl, hfz, hnd⟩ := hW
  have hA : DataW.TrodAll enc Tryz.prog W 0 (fun _ => true) true Tryz.f6.params.toList args.toList ds p := hA0
  rw [Tryz.params6] at hA hval
  obtain ⟨v0, vs0, d0, ds0, p0, q0, hargs, rfl, rfl, h0, r0⟩ := trodAll_cons hA
  obtain ⟨rfl, rfl, rfl⟩ := trodAll_nil r0
  obtain rfl : args = #[v0] := by cases args; simp_all
  obtain ⟨rfl, rfl⟩ := trodVars_none hV
  have hlt := hW'.lt
  have hl0 : ∀ x ∈ p0, x.block < W.heap.size := fun x hx => hlt x (by simp [hx])
  obtain ⟨a0, rfl, e0, g0, w0⟩ := open_int Tryz.underlying3 (hval 0 3 v0 rfl rfl) h0
  have b0 : -9223372036854775808 ≤ a0 ∧ a0 ≤ 9223372036854775807 := wf_i64 w0
  refine ((playKnown_does a0 b0).calls W all_nil).mono fun e W' ⟨he, hu⟩ => ?_
  subst he
  have hb := hu.below
  exact ⟨_, rfl, _, _, _, [], _, [], hW', trodAll_cons_mk (shut_bool Tryz.underlying4 _) trodAll_mk0, (trodAll_cons_mk (hb.trod playKnown_laidOut (by kernel_rfl) (of_decide_eq_true (by kernel_rfl)) h0 hl0) trodAll_mk0), rfl, hb.frame _, fun h => by cases h⟩
theorem playKnown_holds : Rows.PlayKnownSaid :=
  OpenClaim.holds_of_wide 6 Tryz.f6 rfl rfl rfl rfl rfl rfl rfl ⟨rfl, rfl, rfl, rfl, rfl⟩ rfl rfl rfl rfl rfl (by kernel_rfl) Tryz.func6 (by kernel_rfl)
    (of_decide_eq_true (by kernel_rfl)) (by unfold Func.isWrapper; first | (rw [if_pos (by decide +kernel)]; kernel_rfl) | (rw [if_neg (by decide +kernel)]; exact ⟨rfl, rfl⟩))
    (fun os started H enc _ => playKnown_lifted os started H enc)
end Go.Proofs.YtomadjefdghliaaGreat
