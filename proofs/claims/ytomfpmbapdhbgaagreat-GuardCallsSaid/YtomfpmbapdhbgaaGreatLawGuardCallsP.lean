import Derived.Test.YtomfpmbapdhbgaaGreatP1
import Derived.Test.YtomfpmbapdhbgaaGreatP2
import Derived.Test.YtomfpmbapdhbgaaGreatP3
import Derived.Test.YtomfpmbapdhbgaaGreatP4
import Derived.Test.YtomfpmbapdhbgaaGreatP5
import Derived.Test.YtomfpmbapdhbgaaGreatP6
import Derived.Test.YtomfpmbapdhbgaaGreatP7
import Derived.Test.YtomfpmbapdhbgaaGreatP8
import Derived.Test.YtomfpmbapdhbgaaGreatP9
import Derived.Test.YtomfpmbapdhbgaaGreatP10
import Derived.Test.YtomfpmbapdhbgaaGreatP11
import Derived.Test.YtomfpmbapdhbgaaGreatP12
import Derived.Test.YtomfpmbapdhbgaaGreatP13
import Derived.Test.YtomfpmbapdhbgaaGreatP14
import Derived.Test.YtomfpmbapdhbgaaGreatP15
import Derived.Test.YtomfpmbapdhbgaaGreatP16
import Derived.Test.YtomfpmbapdhbgaaGreatP17
import Derived.Test.YtomfpmbapdhbgaaGreatP18
import Derived.Test.YtomfpmbapdhbgaaGreatP19
import Derived.Test.YtomfpmbapdhbgaaGreatP20
import Derived.Test.YtomfpmbapdhbgaaGreatP21
import Derived.Test.YtomfpmbapdhbgaaGreatP22
import Derived.Test.YtomfpmbapdhbgaaGreatP23
import Derived.Test.YtomfpmbapdhbgaaGreatP24
import Derived.Test.YtomfpmbapdhbgaaGreatP25
import Derived.Test.YtomfpmbapdhbgaaGreatP26
import Derived.Test.YtomfpmbapdhbgaaGreatP27
import Derived.Test.YtomfpmbapdhbgaaGreatP28
import Derived.Test.YtomfpmbapdhbgaaGreatP29
import Derived.Test.YtomfpmbapdhbgaaGreatP30
import Derived.Test.YtomfpmbapdhbgaaGreatP31
import Derived.Test.YtomfpmbapdhbgaaGreatP32
import Derived.Test.YtomfpmbapdhbgaaGreatP33
import Derived.Test.YtomfpmbapdhbgaaGreatP34
import Derived.Test.YtomfpmbapdhbgaaGreatP35
/- GuardCalls: for all three bools the law returns true. No condition. -/
namespace Go.Proofs.YtomfpmbapdhbgaaGreat
open Go Go.RR Go.RX Go.GX Go.Api Go.RiseM Go.ReachM Go.RtM Go.GCalM Go.ChangeShapes Go.WideShapes Go.ChangeAt Go.RowKit
attribute [local irreducible] wpList Code.wp wpPlan Exit.then Exit.inBlock bodyPost NoPanic Went GX.Post GX.Again GX.Meet GX.RowR GX.Own GX.Owns GX.Box GX.Sl GX.Pt GX.Ag GX.MapR GX.Kept GX.Pin wpT GoK AtEnd Both
theorem c_tiny {l k j r : Bool} : Tiny (tC l k j r) := by cases l <;> cases k <;> cases j <;> cases r <;> decide +kernel
theorem c_accT {l k j r : Bool} : AccT (tC l k j r) ↔ l = true ∧ (!k || j) = true := by
  unfold AccT
  constructor
  · rintro ⟨_, h⟩
    exact ⟨c_acc0.1 (h 0 (uU l r) (by show 0 < 2; omega) rfl), c_acc1.1 (h 1 (uV k j) (by show 1 < 2; omega) rfl)⟩
  · rintro ⟨h1, h2⟩
    refine ⟨c_right, fun n u hn hu => ?_⟩
    have hn : n < 2 := hn
    obtain rfl | rfl : n = 0 ∨ n = 1 := by omega
    · cases hu; exact c_acc0.2 h1
    · cases hu; exact c_acc1.2 h2
set_option maxHeartbeats 4000000 in
theorem guardCalls_does (l k r : Bool) :
    Does Tryz.prog 5 [.bool l, .bool k, .bool r] [] [] (fun _ : Unit => .bool true) (fun _ => []) (fun _ => []) := by
  refine enter Tryz.func5 rfl Tryz.ntmps5 rfl fun b => ?_
  refine GX.wR ?_; intros
  refine GX.nmP 7 ?_; rintro b7 rfl
  refine GX.nmP 8 ?_; rintro b8 rfl
  refine GX.nmP 9 ?_; rintro b9 rfl
  refine GX.nmP 10 ?_; rintro b10 rfl
  refine GX.nmP 11 ?_; rintro b11 rfl
  refine frzB b9 ?_
  refine frzB b10 ?_
  refine GX.cut (σ := Unit) (fun _ => [(0, .bool l), (1, .bool k), (7, .pointer (some ⟨b7, 0, none⟩)), (8, .pointer (some ⟨b8, 0, none⟩)), (9, .pointer (some ⟨b9, 0, none⟩)), (10, .pointer (some ⟨b10, 0, none⟩)), (11, .pointer (some ⟨b11, 0, none⟩))]) (fun _ => []) (fun _ => [Box 26 tyRTg b7 ⟨[⟨false, []⟩], [], [], 0⟩, Box 40 tyUnt b8 ⟨0, [0], -3, [], [0], []⟩, Box 30 tyIns b11 (iCall r)]) (fun _ => True) ?_ (fun _ _ => ?_)
  · cases r with
    | true =>
      refine GX.wR ?_; intros
      exact meet () ⟨rfl, rfl, rfl, rfl, rfl, rfl, rfl, trivial⟩ trivial
    | false =>
      refine GX.wR ?_; intros
      exact meet () ⟨rfl, rfl, rfl, rfl, rfl, rfl, rfl, trivial⟩ trivial
  refine frzB b11 ?_
  refine GX.wR ?_; intros
  refine GX.drawn0  (fun j => !(List.contains [2, 4] j)) [(0, true), (1, false), (2, false), (3, true), (4, false)] rfl (by kernel_rfl) (by kernel_rfl) (by first | ((repeat (first | apply Go.GX.SelR.nil | apply Go.GX.SelR.cons | (with_reducible apply Go.GX.TakeR.head) | apply Go.GX.TakeR.tail)); done) | (repeat (first | apply Go.GX.SelR.nil | apply Go.GX.SelR.cons | apply Go.GX.TakeR.head | apply Go.GX.TakeR.tail))) ?_; intro wd F hW hR
  refine GX.wT ?_; intros
  refine GX.gow ?_
  refine (cl ret28_spec fun c28 => ?_)
  refine GX.wT ?_; intros
  refine GX.wR ?_; intros
  refine GX.cut (σ := Unit) (fun _ => [(0, .bool l), (1, .bool k), (7, .pointer (some ⟨b7, 0, none⟩)), (8, .pointer (some ⟨b8, 0, none⟩))]) (fun _ => []) (fun _ => [Box 26 tyRTg b7 ⟨[⟨false, []⟩], [], [], 0⟩, Box 40 tyUnt b8 (uU l r)]) (fun _ => True) ?_ (fun _ _ => ?_)
  · cases l with
    | true =>
      refine GX.wR ?_; intros
      refine GX.drawn0  (fun j => !(List.contains [4, 6] j)) [(0, true), (1, true), (2, true), (3, false), (4, false), (5, true), (6, false)] rfl (by kernel_rfl) (by kernel_rfl) (by first | ((repeat (first | apply Go.GX.SelR.nil | apply Go.GX.SelR.cons | (with_reducible apply Go.GX.TakeR.head) | apply Go.GX.TakeR.tail)); done) | (repeat (first | apply Go.GX.SelR.nil | apply Go.GX.SelR.cons | apply Go.GX.TakeR.head | apply Go.GX.TakeR.tail))) ?_; intro wd F hW hR
      refine GX.wT ?_; intros
      refine GX.gow ?_
      refine (cl ret28_spec fun c35 => ?_)
      refine GX.wT ?_; intros
      refine GX.wR ?_; intros
      exact meet () ⟨rfl, rfl, rfl, rfl, trivial⟩ trivial
    | false =>
      refine GX.wR ?_; intros
      exact meet () ⟨rfl, rfl, rfl, rfl, trivial⟩ trivial
  refine frzB b8 ?_
  refine GX.wRN ?_; intros
  apply GX.region
  refine GX.o (GX.sl fun b38 => ?_)
  refine GX.o (GX.bd ?_)
  refine GX.o (GX.bd ?_)
  refine GX.o (GX.slo fun b41 => ?_)
  refine GX.o (GX.bd ?_)
  refine GX.o (GX.alR fun b12 => ?_)
  refine GX.o (GX.stRW ?_)
  refine GX.wR ?_; intros
  refine GX.cut (σ := Unit) (fun _ => [(0, .bool l), (1, .bool k), (7, .pointer (some ⟨b7, 0, none⟩)), (8, .pointer (some ⟨b8, 0, none⟩)), (12, .pointer (some ⟨b12, 0, none⟩))]) (fun _ => [Pt tyUnt b12 0 (uV k k)]) (fun _ => [Box 26 tyRTg b7 ⟨[⟨false, []⟩], [], [], 0⟩]) (fun _ => True) ?_ (fun _ _ => ?_)
  · cases k with
    | true =>
      have e0 : ([⟨2, 0, 0, 0, 0, []⟩, ⟨18, 0, 0, 0, 0, []⟩] : List Ins)[0]? = some ⟨2, 0, 0, 0, 0, []⟩ := rfl
      refine GX.wR ?_; intros
      refine GX.o (GX.som (hi := by simp) ?_)
      rw [show ([⟨2, 0, 0, 0, 0, []⟩, ⟨18, 0, 0, 0, 0, []⟩] : List Ins).set 0 ⟨11, 0, 0, 0, 0, []⟩ = [⟨11, 0, 0, 0, 0, []⟩, ⟨18, 0, 0, 0, 0, []⟩] from rfl]
      refine GX.nmB 44 ?_; rintro b44 rfl
      refine frz (some ⟨b41, 0, none⟩) ?_
      refine frzR b12 (e := tyUnt) (vs := [.int .i64 0, .slice (some ⟨b38, 0, none⟩) 1 1, .int .i64 0, .slice (some ⟨b44, 0, none⟩) 1 1, .slice none 0 0, .slice (some ⟨b41, 0, none⟩) 2 2]) (y := uV true true) ?_ (show Reads _ _ tyUnt (⟨0, [0], 0, [0], [], [⟨11, 0, 0, 0, 0, []⟩, ⟨18, 0, 0, 0, 0, []⟩]⟩ : Unt) from Go.GX.Rds.r)
      refine GX.wR ?_; intros
      exact meet () ⟨rfl, rfl, rfl, rfl, rfl, trivial⟩ trivial
    | false =>
      refine frz (some ⟨b41, 0, none⟩) ?_
      refine frzR b12 (e := tyUnt) (vs := [.int .i64 0, .slice (some ⟨b38, 0, none⟩) 1 1, .int .i64 0, .slice none 0 0, .slice none 0 0, .slice (some ⟨b41, 0, none⟩) 2 2]) (y := uV false false) ?_ (show Reads _ _ tyUnt (⟨0, [0], 0, [], [], insV false⟩ : Unt) from Go.GX.Rds.r)
      refine GX.wR ?_; intros
      exact meet () ⟨rfl, rfl, rfl, rfl, rfl, trivial⟩ trivial
  refine GX.wRN ?_; intros
  apply GX.region
  refine GX.wRN ?_; intros
  rw [show (⟨[⟨false, []⟩], [], [uU l r, uV k k], 0⟩ : RTg) = tC l k k r from rfl]
  refine frzB b7 ?_
  apply GX.region
  refine GX.o (GX.l0 fun c54 => ?_)
  refine GX.opRTg c54 fun aC cC aG cG aU cU e54 => ?_
  subst e54
  refine GX.o (GX.alR fun b13 => ?_)
  refine GX.o (GX.stRW ?_)
  refine GX.wRN ?_; intros
  apply GX.region
  have e1 : [uU l r, uV k k][1]? = some (uV k k) := rfl
  refine GX.wRO ?_; intros
  refine GX.nmB 57 ?_; rintro b57 rfl
  rw [show [uU l r, uV k k].set 1 ⟨(uV k k).params, (uV k k).vars, (uV k k).result, [], (uV k k).owns, (uV k k).ins⟩ = [uU l r, uV k false] from rfl]
  refine frz (some ⟨b57, 0, none⟩) ?_
  have hR2 : RightP (tC l k k r) := c_right
  have hq1 : (decide (AccT (tC l k k r)) == l) = true := by
    cases l with
    | true => rw [decide_eq_true (c_accT.2 ⟨rfl, by cases k <;> rfl⟩)]; rfl
    | false => rw [decide_eq_false (fun h => by have := (c_accT.1 h).1; cases this)]; rfl
  have hq2 : (decide (AccT (tC l k false r)) == (l && !k)) = true := by
    have e : AccT (tC l k false r) ↔ (l && !k) = true := by rw [c_accT, Bool.and_eq_true, Bool.or_false]
    cases hb : (l && !k) with
    | true => rw [decide_eq_true (e.2 hb)]; rfl
    | false => rw [decide_eq_false (fun h => by rw [e.1 h] at hb; cases hb)]; rfl
  refine GX.wR ?_; intros
  refine GX.nmA 63 ?_; rintro c63 rfl
  refine GX.o (cl (rright_spec c63 (tC l k k r) c_tiny.small) fun _ => ?_)
  refine GX.wR ?_; intros
  refine GX.nmA 66 ?_; rintro c66 rfl
  refine GX.o (cl (accepts_spec c66 (tC l k k r) c_tiny) fun _ => ?_)
  refine GX.agI (e := tyRTg) (cs := [.slice aC (tC l k k r).classes.length cC, .slice aG (tC l k k r).globals.length cG, .slice (some ⟨b57, 0, none⟩) 2 2, .int .i64 (tC l k k r).main]) (y := tC l k false r) ?_ (show Reads _ _ tyRTg (⟨(tC l k k r).classes, (tC l k k r).globals, [uU l r, uV k false], (tC l k k r).main⟩ : RTg) from Go.GX.Rds.r)
  refine GX.wR ?_; intros
  refine GX.o (cl (accepts_spec _ (tC l k false r) c_tiny) fun _ => ?_)
  cases l with
  | true =>
    rw [Bool.true_and] at hq2
    refine GX.wR ?_; intros
    refine GX.o (cl known28_spec fun _ => ?_)
    refine GX.wR ?_; intros
    exact rt1 () rfl
  | false =>
    rw [Bool.false_and] at hq2
    refine GX.wR ?_; intros
    refine GX.o (cl known28_spec fun _ => ?_)
    refine GX.wR ?_; intros
    exact rt1 () rfl

theorem guardCalls_own : ownKnob Tryz.prog.godebug = none := by kernel_rfl
theorem guardCalls_laidOut : laidOutB Tryz.prog = true := by kernel_rfl
set_option maxRecDepth 100000 in
theorem guardCalls_lifted (os : Os) (started : os.Started) (H : Type) (enc : TypeId × Value → H) :
    ReturnsInHanded {} Tryz.checked os 5 .any (Rows.guardCallsSpec.pre6 enc Tryz.prog Tryz.f5 Rows.guardCallsRow.domain false) (Rows.guardCallsSpec.post enc Tryz.prog Tryz.f5 false true false false) := by
  refine returnsInHanded_of_change (C := Tryz.checked) guardCalls_own started (by kernel_rfl) Tryz.func5
    (ChangeSpec.witness6 (enc := enc) (C := Tryz.checked) false ⟨#[], #[.bool false, .bool false, .bool false], []⟩ 8 (by kernel_rfl) (by kernel_rfl) (by kernel_rfl) (by kernel_rfl)) ?_
  intro W base args ds gs before hval0 hW hcnd _
  have hval : ∀ (j : Nat) t v, Tryz.f5.params[j]? = some t → args[j]? = some v → Value.okWide Tryz.prog W .any base t v := hval0
  have hW' := hW
  obtain ⟨p, q, hA0, hV, rfl, hfz, hnd⟩ := hW
  have hA : DataW.TrodAll enc Tryz.prog W 0 (fun _ => true) true Tryz.f5.params.toList args.toList ds p := hA0
  rw [Tryz.params5] at hA hval
  obtain ⟨v0, vs0, d0, ds0, p0, q0, hargs, rfl, rfl, h0, r0⟩ := trodAll_cons hA
  obtain ⟨v1, vs1, d1, ds1, p1, q1, rfl, rfl, rfl, h1, r1⟩ := trodAll_cons r0
  obtain ⟨v2, vs2, d2, ds2, p2, q2, rfl, rfl, rfl, h2, r2⟩ := trodAll_cons r1
  obtain ⟨rfl, rfl, rfl⟩ := trodAll_nil r2
  obtain rfl : args = #[v0, v1, v2] := by cases args; simp_all
  obtain ⟨rfl, rfl⟩ := trodVars_none hV
  have hlt := hW'.lt
  have hl0 : ∀ x ∈ p0, x.block < W.heap.size := fun x hx => hlt x (by simp [hx])
  obtain ⟨a0, rfl, e0, g0⟩ := open_bool Tryz.underlying4 (hval 0 4 v0 rfl rfl) h0
  have hl1 : ∀ x ∈ p1, x.block < W.heap.size := fun x hx => hlt x (by simp [hx])
  obtain ⟨a1, rfl, e1, g1⟩ := open_bool Tryz.underlying4 (hval 1 4 v1 rfl rfl) h1
  have hl2 : ∀ x ∈ p2, x.block < W.heap.size := fun x hx => hlt x (by simp [hx])
  obtain ⟨a2, rfl, e2, g2⟩ := open_bool Tryz.underlying4 (hval 2 4 v2 rfl rfl) h2
  refine ((guardCalls_does a0 a1 a2).calls W all_nil).mono fun e W' ⟨he, hu⟩ => ?_
  subst he
  have hb := hu.below
  exact ⟨_, rfl, _, _, _, [], _, [], hW', trodAll_cons_mk (shut_bool Tryz.underlying4 _) trodAll_mk0, (trodAll_cons_mk (hb.trod guardCalls_laidOut (by kernel_rfl) (of_decide_eq_true (by kernel_rfl)) h0 hl0) (trodAll_cons_mk (hb.trod guardCalls_laidOut (by kernel_rfl) (of_decide_eq_true (by kernel_rfl)) h1 hl1) (trodAll_cons_mk (hb.trod guardCalls_laidOut (by kernel_rfl) (of_decide_eq_true (by kernel_rfl)) h2 hl2) trodAll_mk0))), rfl, hb.frame _, fun h => by cases h⟩
theorem guardCalls_holds : Rows.GuardCallsSaid :=
  OpenClaim.holds_of_wide 5 Tryz.f5 rfl rfl rfl rfl rfl rfl rfl ⟨rfl, rfl, rfl, rfl, rfl⟩ rfl rfl rfl rfl rfl (by kernel_rfl) Tryz.func5 (by kernel_rfl)
    (of_decide_eq_true (by kernel_rfl)) (by unfold Func.isWrapper; first | (rw [if_pos (by decide +kernel)]; kernel_rfl) | (rw [if_neg (by decide +kernel)]; exact ⟨rfl, rfl⟩))
    (fun os started H enc _ => guardCalls_lifted os started H enc)
end Go.Proofs.YtomfpmbapdhbgaaGreat
