import Derived.Test.YtnpbadghodkhlaaM1
import Derived.Test.YtnpbadghodkhlaaM2
import Derived.Test.YtnpbadghodkhlaaM3
import Derived.Test.YtnpbadghodkhlaaM4
import Derived.Test.YtnpbadghodkhlaaM5
import Derived.Test.YtnpbadghodkhlaaM6
import Derived.Test.YtnpbadghodkhlaaM7
import Derived.Test.YtnpbadghodkhlaaM8
import Derived.Test.YtnpbadghodkhlaaM9
import Derived.Test.YtnpbadghodkhlaaM10
import Derived.Test.YtnpbadghodkhlaaM11
import Derived.Test.YtnpbadghodkhlaaM12
import Derived.Test.YtnpbadghodkhlaaM13
import Derived.Test.YtnpbadghodkhlaaM14
import Derived.Test.YtnpbadghodkhlaaM15
import Derived.Test.YtnpbadghodkhlaaM16
import Derived.Test.YtnpbadghodkhlaaM17
import Derived.Test.YtnpbadghodkhlaaM18
import Derived.Test.YtnpbadghodkhlaaM19
import Derived.Test.YtnpbadghodkhlaaM20
/- LiveWays: for all codes and numbers v the law returns true; its arguments read as before. No condition. -/
namespace Go.Proofs.Ytnpbadghodkhlaa
open Go Go.RR Go.RX Go.GX Go.Api Go.FlowM Go.RiseM Go.LivM Go.ChangeShapes Go.WideShapes Go.ChangeAt Go.RowKit
attribute [local irreducible] wpList Code.wp wpPlan Exit.then Exit.inBlock bodyPost NoPanic Went GX.Post GX.Again GX.Meet GX.RowR GX.Own GX.Owns GX.Box GX.Sl GX.Pt GX.Ag GX.MapR GX.Kept GX.Pin wpT GoK AtEnd Both
set_option maxHeartbeats 1000000 in
theorem liveWays_does (cs : List Value) (c : Api.Code) (hc : CodeW c) (v : Int) (hv : -9223372036854775808 ≤ v ∧ v ≤ 9223372036854775807) : Does Try.prog 5 [.agg cs.toArray, .int .i64 v] [Ag tyCode cs c] [] (fun _ : Unit => .bool true) (fun _ => []) (fun _ => []) := by
  refine enter Try.func5 rfl Try.ntmps5 rfl fun b => ?_
  by_cases hl : 60 < (c.ins.length : Int)
  · refine GX.wR ?_; intros
    exact rt1 () rfl
  have hbl := befores_len c.ins
  refine GX.wR ?_; intros
  refine GX.o (cl (before_spec _ c hc.2 (by omega)) fun s => ?_)
  obtain ⟨a1, c1⟩ := s
  dsimp only
  refine GX.wR ?_; intros
  refine GX.nmP 2 ?_; rintro b2 rfl
  refine GX.loop (σ := Nat) (fun i => [(1, .int .i64 v), (2, .pointer (some ⟨b2, 0, none⟩)), (5, .slice a1 (befores c.ins).length c1), (6, .int .i64 (i : Int))]) (fun _ => []) (fun _ => [])
    (fun i => i ≤ (befores c.ins).length) (fun i => (befores c.ins).length - i) 0 ⟨rfl, rfl, rfl, rfl, trivial⟩ (Nat.zero_le _) (fun i hi => ?_)
  by_cases hlt : i < (befores c.ins).length
  · have hx := befores_get (show i < c.ins.length by omega)
    have hbb : (decide (v ∈ lives c.ins i) != decide (v ∈ lives c.ins i)) = false := by simp
    refine GX.wR ?_; intros
    refine GX.drawn0  (fun j => !(List.contains [9] j)) [(0, true), (1, true), (2, true), (3, true), (4, true), (6, true), (7, true), (8, true), (5, false), (9, false), (10, true)] rfl (by kernel_rfl) (by kernel_rfl) (by first | ((repeat (first | apply Go.GX.SelR.nil | apply Go.GX.SelR.cons | (with_reducible apply Go.GX.TakeR.head) | apply Go.GX.TakeR.tail)); done) | (repeat (first | apply Go.GX.SelR.nil | apply Go.GX.SelR.cons | apply Go.GX.TakeR.head | apply Go.GX.TakeR.tail))) ?_; intro wd F hW hR
    refine GX.wT ?_; intros
    refine GX.gow ?_
    refine (cl (in_spec _ _ (lives c.ins i) v) fun _ => ?_)
    refine GX.wT ?_; intros
    refine GX.gow ?_
    refine (cl (asked16_spec _ c (by omega) i (by omega) v) fun _ => ?_)
    refine GX.wT ?_; intros
    refine GX.wR ?_; intros
    exact again (i + 1) ⟨rfl, rfl, rfl, rfl, trivial⟩ (by omega) (by omega)
  · refine GX.wR ?_; intros
    refine GX.o (cl known16_spec fun _ => ?_)
    refine GX.wR ?_; intros
    exact rt1 () rfl

theorem liveWays_own : ownKnob Try.prog.godebug = none := by kernel_rfl
theorem liveWays_laidOut : laidOutB Try.prog = true := by kernel_rfl
set_option maxRecDepth 100000 in
theorem liveWays_lifted (os : Os) (started : os.Started) (H : Type) (enc : TypeId × Value → H) :
    ReturnsInHanded {} Try.checked os 5 .any (Rows.liveWaysSpec.pre6 enc Try.prog Try.f5 Rows.liveWaysRow.domain false) (Rows.liveWaysSpec.post enc Try.prog Try.f5 false true false false) := by
  refine returnsInHanded_of_change_sized (C := Try.checked) liveWays_own started (by kernel_rfl) Try.func5
    (ChangeSpec.witness6 (enc := enc) (C := Try.checked) false ⟨#[], #[.agg #[(.int .i64 0), (.slice none 0 0), (.bool false), (.int .i64 0), (.int .i64 0), (.int .i64 0), (.slice none 0 0)], .int .i64 0], []⟩ 8 (by kernel_rfl) (by kernel_rfl) (by kernel_rfl) (by kernel_rfl)) ?_
  intro W base args ds gs before hval0 hW hcnd hsz0 _
  have hval : ∀ (j : Nat) t v, Try.f5.params[j]? = some t → args[j]? = some v → Value.okWide Try.prog W .any base t v := hval0
  have hW' := hW
  obtain ⟨p, q, hA0, hV, rfl, hfz, hnd⟩ := hW
  have hA : DataW.TrodAll enc Try.prog W 0 (fun _ => true) true Try.f5.params.toList args.toList ds p := hA0
  rw [Try.params5] at hA hval
  obtain ⟨v0, vs0, d0, ds0, p0, q0, hargs, rfl, rfl, h0, r0⟩ := trodAll_cons hA
  obtain ⟨v1, vs1, d1, ds1, p1, q1, rfl, rfl, rfl, h1, r1⟩ := trodAll_cons r0
  obtain ⟨rfl, rfl, rfl⟩ := trodAll_nil r1
  obtain rfl : args = #[v0, v1] := by cases args; simp_all
  obtain ⟨rfl, rfl⟩ := trodVars_none hV
  have hlt := hW'.lt
  have hl0 : ∀ x ∈ p0, x.block < W.heap.size := fun x hx => hlt x (by simp [hx])
  obtain ⟨c0, rfl⟩ : ∃ cs, v0 = .agg cs := by have := hval 0 27 v0 rfl rfl; unfold Value.okWide at this; rw [Try.underlying27] at this; obtain ⟨cs, h, _⟩ := this; exact ⟨cs, h⟩
  have hsz1 : LeR Try.prog 27 d0 := fun n hn => by simpa using List.all_eq_true.1 hsz0 n (DataW.weights_mem_each (j := 0) (t := 27) rfl rfl n hn)
  obtain ⟨x0, z0, o0⟩ := convW_code enc W _ _ _ _ _ h0.choose_spec hsz1
  have f0 := ag_in z0
  have hl1 : ∀ x ∈ p1, x.block < W.heap.size := fun x hx => hlt x (by simp [hx])
  obtain ⟨a1, rfl, e1, g1, w1⟩ := open_int Try.underlying3 (hval 1 3 v1 rfl rfl) h1
  have b1 : -9223372036854775808 ≤ a1 ∧ a1 ≤ 9223372036854775807 := wf_i64 w1
  refine ((liveWays_does c0.toList x0 o0 a1 b1).calls W (all_cons f0 all_nil)).mono fun e W' ⟨he, hu⟩ => ?_
  subst he
  have hb := hu.below
  exact ⟨_, rfl, _, _, _, [], _, [], hW', trodAll_cons_mk (shut_bool Try.underlying4 _) trodAll_mk0, (trodAll_cons_mk (hb.trod liveWays_laidOut (by kernel_rfl) (of_decide_eq_true (by kernel_rfl)) h0 hl0) (trodAll_cons_mk (hb.trod liveWays_laidOut (by kernel_rfl) (of_decide_eq_true (by kernel_rfl)) h1 hl1) trodAll_mk0)), rfl, hb.frame _, fun h => by cases h⟩
theorem liveWays_holds : Rows.LiveWaysSaid :=
  OpenClaim.holds_of_wide 5 Try.f5 rfl rfl rfl rfl rfl rfl rfl ⟨rfl, rfl, rfl, rfl, rfl⟩ rfl rfl rfl rfl rfl (by kernel_rfl) Try.func5 (by kernel_rfl)
    (of_decide_eq_true (by kernel_rfl)) (by unfold Func.isWrapper; first | (rw [if_pos (by decide +kernel)]; kernel_rfl) | (rw [if_neg (by decide +kernel)]; exact ⟨rfl, rfl⟩))
    (fun os started H enc _ => liveWays_lifted os started H enc)
end Go.Proofs.Ytnpbadghodkhlaa
