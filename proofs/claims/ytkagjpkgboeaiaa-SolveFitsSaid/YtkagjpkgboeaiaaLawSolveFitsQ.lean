import Derived.Test.YtkagjpkgboeaiaaQ1
import Derived.Test.YtkagjpkgboeaiaaQ2
import Derived.Test.YtkagjpkgboeaiaaQ3
import Derived.Test.YtkagjpkgboeaiaaQ4
import Derived.Test.YtkagjpkgboeaiaaQ5
import Derived.Test.YtkagjpkgboeaiaaQ6
import Derived.Test.YtkagjpkgboeaiaaQ7
import Derived.Test.YtkagjpkgboeaiaaQ8
import Derived.Test.YtkagjpkgboeaiaaQ9
import Derived.Test.YtkagjpkgboeaiaaQ10
import Derived.Test.YtkagjpkgboeaiaaQ11
import Derived.Test.YtkagjpkgboeaiaaQ12
import Derived.Test.YtkagjpkgboeaiaaQ13
import Derived.Test.YtkagjpkgboeaiaaQ14
import Derived.Test.YtkagjpkgboeaiaaQ15
import Derived.Test.YtkagjpkgboeaiaaQ16
import Derived.Test.YtkagjpkgboeaiaaQ17
import Derived.Test.YtkagjpkgboeaiaaQ18
import Derived.Test.YtkagjpkgboeaiaaQ19
import Derived.Test.YtkagjpkgboeaiaaQ20
import Derived.Test.YtkagjpkgboeaiaaQ21
import Derived.Test.YtkagjpkgboeaiaaQ22
/- SolveFits: for all points and constraints the law returns true; its arguments read as before. No condition. -/
namespace Go.Proofs.Ytkagjpkgboeaiaa
open Go Go.RR Go.RX Go.GX Go.Api Go.RiseM Go.SolM Go.ChangeShapes Go.WideShapes Go.ChangeAt Go.RowKit
attribute [local irreducible] wpList Code.wp wpPlan Exit.then Exit.inBlock bodyPost NoPanic Went GX.Post GX.Again GX.Meet GX.RowR GX.Own GX.Owns GX.Box GX.Sl GX.Pt GX.Ag GX.MapR GX.Kept GX.Pin wpT GoK AtEnd Both
theorem solveFits_does (cs : List Value) (p : Points) (_ : Points.ok p) (ao : Option Addr) (cap : Nat) (l : List Con) (_ : ∀ x ∈ l, Con.ok x) : Does Try.prog 4 [.agg cs.toArray, .slice ao l.length cap] [Ag tyPoints cs p, Sl tyCon ao cap l] [] (fun _ : Unit => .bool true) (fun _ => []) (fun _ => []) := by
  refine enter Try.func4 rfl Try.ntmps4 rfl fun b => ?_
  refine sln ao fun h1 _ _ => ?_
  refine GX.wbR ?_; intros
  refine GX.nmP 2 ?_; rintro b2 rfl
  refine GX.o (cl (great20_spec _ p) fun g => ?_)
  cases g with
  | true =>
    refine GX.wbR ?_; intros
    exact rt1 () rfl
  | false =>
  by_cases h60 : 60 < (l.length : Int)
  · refine GX.wbR ?_; intros
    exact rt1 () rfl
  refine GX.wbR ?_; intros
  refine GX.loop (σ := Nat × Bool) (fun i => [(1, .slice ao l.length cap), (2, .pointer (some ⟨b2, 0, none⟩)), (5, .bool i.2), (6, .int .i64 (i.1 : Int))]) (fun _ => []) (fun _ => [])
    (fun i => i.1 ≤ l.length ∧ (i.2 = true ↔ FitsP p (l.take i.1))) (fun i => l.length - i.1) (0, true) ⟨rfl, rfl, rfl, rfl, trivial⟩ ⟨by simp, by simp [FitsP]⟩ (fun i hi => ?_)
  obtain ⟨i, ok⟩ := i
  obtain ⟨hi, hok⟩ := hi
  dsimp only at *
  by_cases hlt : i < l.length
  · obtain ⟨c, hc⟩ := get_lt hlt
    have hone : (l.drop (i : Int).toNat).take (((i + 1 : Nat) : Int).toNat - (i : Int).toNat) = [c] := by
      rw [show ((i + 1 : Nat) : Int).toNat - (i : Int).toNat = 1 by omega, Int.toNat_natCast, List.drop_eq_getElem_cons hlt, List.take_succ_cons, List.take_zero, (List.getElem?_eq_some_iff.1 hc).2]
    have hnext : FitsP p (l.take (i + 1)) ↔ FitsP p (l.take i) ∧ FitP p c := by
      rw [List.take_add_one, hc]
      unfold FitsP
      simp only [Option.toList_some, List.mem_append, List.mem_singleton]
      exact ⟨fun h => ⟨fun x hx => h x (.inl hx), h c (.inr rfl)⟩, fun h x hx => hx.elim (h.1 x) fun e => e ▸ h.2⟩
    by_cases hf : FitP p c
    · have h1c : decide (FitsP p [c]) = true := decide_eq_true (by simpa [FitsP] using hf)
      refine GX.wbR ?_; intros
      refine GX.drawn0  (fun j => !(List.contains [6] j)) [(0, true), (1, true), (2, true), (3, true), (4, true), (5, true), (6, false), (7, true)] rfl (by kernel_rfl) (by kernel_rfl) (by first | ((repeat (first | apply Go.GX.SelR.nil | apply Go.GX.SelR.cons | (with_reducible apply Go.GX.TakeR.head) | apply Go.GX.TakeR.tail)); done) | (repeat (first | apply Go.GX.SelR.nil | apply Go.GX.SelR.cons | apply Go.GX.TakeR.head | apply Go.GX.TakeR.tail))) ?_; intro wd F hW hR
      refine GX.wbT ?_; intros
      rw [hone]
      refine GX.gow ?_
      refine (cl (sFits_spec _ p _ _ [c]) fun _ => ?_)
      rw [h1c]
      refine GX.wbT ?_; intros
      cases ok with
      | true =>
        refine GX.wbR ?_; intros
        refine GX.drawn0  (fun j => !(List.contains [7] j)) [(0, true), (1, true), (2, true), (3, true), (4, true), (5, true), (6, true), (7, false), (8, true)] rfl (by kernel_rfl) (by kernel_rfl) (by first | ((repeat (first | apply Go.GX.SelR.nil | apply Go.GX.SelR.cons | (with_reducible apply Go.GX.TakeR.head) | apply Go.GX.TakeR.tail)); done) | (repeat (first | apply Go.GX.SelR.nil | apply Go.GX.SelR.cons | apply Go.GX.TakeR.head | apply Go.GX.TakeR.tail))) ?_; intro wd F hW hR
        refine GX.wbT ?_; intros
        rw [hone]
        refine GX.gow ?_
        refine (cl (rFits_spec _ p _ _ [c]) fun _ => ?_)
        rw [h1c]
        refine GX.wbT ?_; intros
        refine GX.wbR ?_; intros
        exact again (i + 1, true) ⟨rfl, rfl, rfl, rfl, trivial⟩ ⟨by dsimp only; omega, by simp only [hnext, ← hok]; simp [hf]⟩ (by dsimp only; omega)
      | false =>
        refine GX.wbR ?_; intros
        refine GX.drawn0  (fun j => !(List.contains [7] j)) [(0, true), (1, true), (2, true), (3, true), (4, true), (5, true), (6, true), (7, false), (8, true)] rfl (by kernel_rfl) (by kernel_rfl) (by first | ((repeat (first | apply Go.GX.SelR.nil | apply Go.GX.SelR.cons | (with_reducible apply Go.GX.TakeR.head) | apply Go.GX.TakeR.tail)); done) | (repeat (first | apply Go.GX.SelR.nil | apply Go.GX.SelR.cons | apply Go.GX.TakeR.head | apply Go.GX.TakeR.tail))) ?_; intro wd F hW hR
        refine GX.wbT ?_; intros
        rw [hone]
        refine GX.gow ?_
        refine (cl (rFits_spec _ p _ _ [c]) fun _ => ?_)
        rw [h1c]
        refine GX.wbT ?_; intros
        refine GX.wbR ?_; intros
        exact again (i + 1, false) ⟨rfl, rfl, rfl, rfl, trivial⟩ ⟨by dsimp only; omega, by simp only [hnext, ← hok]; simp⟩ (by dsimp only; omega)
    · have h1c : decide (FitsP p [c]) = false := decide_eq_false (by simpa [FitsP] using hf)
      refine GX.wbR ?_; intros
      refine GX.drawn0  (fun j => !(List.contains [6] j)) [(0, true), (1, true), (2, true), (3, true), (4, true), (5, true), (6, false), (7, true)] rfl (by kernel_rfl) (by kernel_rfl) (by first | ((repeat (first | apply Go.GX.SelR.nil | apply Go.GX.SelR.cons | (with_reducible apply Go.GX.TakeR.head) | apply Go.GX.TakeR.tail)); done) | (repeat (first | apply Go.GX.SelR.nil | apply Go.GX.SelR.cons | apply Go.GX.TakeR.head | apply Go.GX.TakeR.tail))) ?_; intro wd F hW hR
      refine GX.wbT ?_; intros
      rw [hone]
      refine GX.gow ?_
      refine (cl (sFits_spec _ p _ _ [c]) fun _ => ?_)
      rw [h1c]
      refine GX.wbT ?_; intros
      cases ok with
      | true =>
        refine GX.wbR ?_; intros
        refine GX.drawn0  (fun j => !(List.contains [7] j)) [(0, true), (1, true), (2, true), (3, true), (4, true), (5, true), (6, true), (7, false), (8, true)] rfl (by kernel_rfl) (by kernel_rfl) (by first | ((repeat (first | apply Go.GX.SelR.nil | apply Go.GX.SelR.cons | (with_reducible apply Go.GX.TakeR.head) | apply Go.GX.TakeR.tail)); done) | (repeat (first | apply Go.GX.SelR.nil | apply Go.GX.SelR.cons | apply Go.GX.TakeR.head | apply Go.GX.TakeR.tail))) ?_; intro wd F hW hR
        refine GX.wbT ?_; intros
        rw [hone]
        refine GX.gow ?_
        refine (cl (rFits_spec _ p _ _ [c]) fun _ => ?_)
        rw [h1c]
        refine GX.wbT ?_; intros
        refine GX.wbR ?_; intros
        exact again (i + 1, false) ⟨rfl, rfl, rfl, rfl, trivial⟩ ⟨by dsimp only; omega, by simp only [hnext]; simp [hf]⟩ (by dsimp only; omega)
      | false =>
        refine GX.wbR ?_; intros
        refine GX.drawn0  (fun j => !(List.contains [7] j)) [(0, true), (1, true), (2, true), (3, true), (4, true), (5, true), (6, true), (7, false), (8, true)] rfl (by kernel_rfl) (by kernel_rfl) (by first | ((repeat (first | apply Go.GX.SelR.nil | apply Go.GX.SelR.cons | (with_reducible apply Go.GX.TakeR.head) | apply Go.GX.TakeR.tail)); done) | (repeat (first | apply Go.GX.SelR.nil | apply Go.GX.SelR.cons | apply Go.GX.TakeR.head | apply Go.GX.TakeR.tail))) ?_; intro wd F hW hR
        refine GX.wbT ?_; intros
        rw [hone]
        refine GX.gow ?_
        refine (cl (rFits_spec _ p _ _ [c]) fun _ => ?_)
        rw [h1c]
        refine GX.wbT ?_; intros
        refine GX.wbR ?_; intros
        exact again (i + 1, false) ⟨rfl, rfl, rfl, rfl, trivial⟩ ⟨by dsimp only; omega, by simp only [hnext]; simp [hf]⟩ (by dsimp only; omega)
  rw [List.take_of_length_le (by omega)] at hok
  refine GX.wbR ?_; intros
  refine GX.o (cl (sFits_spec _ p _ _ l) fun _ => ?_)
  have hd : decide (FitsP p l) = ok := by rw [Bool.eq_iff_iff, decide_eq_true_iff, hok]
  rw [hd]
  cases ok with
  | true =>
    refine GX.wbR ?_; intros
    refine GX.o (cl known20_spec fun _ => ?_)
    refine GX.wbR ?_; intros
    exact rt1 () rfl
  | false =>
    refine GX.wbR ?_; intros
    refine GX.o (cl known20_spec fun _ => ?_)
    refine GX.wbR ?_; intros
    exact rt1 () rfl
theorem solveFits_own : ownKnob Try.prog.godebug = none := by kernel_rfl
theorem solveFits_laidOut : laidOutB Try.prog = true := by kernel_rfl
set_option maxRecDepth 100000 in
theorem solveFits_lifted (os : Os) (started : os.Started) (H : Type) (enc : TypeId × Value → H) :
    ReturnsInHanded {} Try.checked os 4 .any (Rows.solveFitsSpec.pre6 enc Try.prog Try.f4 Rows.solveFitsRow.domain false) (Rows.solveFitsSpec.post enc Try.prog Try.f4 false true false false) := by
  refine returnsInHanded_of_change (C := Try.checked) solveFits_own started (by kernel_rfl) Try.func4
    (ChangeSpec.witness6 (enc := enc) (C := Try.checked) false ⟨#[], #[.agg #[(.slice none 0 0), (.slice none 0 0)], .slice none 0 0], []⟩ 8 (by kernel_rfl) (by kernel_rfl) (by kernel_rfl) (by kernel_rfl)) ?_
  intro W base args ds gs before hval0 hW hcnd _
  have hval : ∀ (j : Nat) t v, Try.f4.params[j]? = some t → args[j]? = some v → Value.okWide Try.prog W .any base t v := hval0
  have hW' := hW
  obtain ⟨p, q, hA0, hV, rfl, hfz, hnd⟩ := hW
  have hA : DataW.TrodAll enc Try.prog W 0 (fun _ => true) true Try.f4.params.toList args.toList ds p := hA0
  rw [Try.params4] at hA hval
  obtain ⟨v0, vs0, d0, ds0, p0, q0, hargs, rfl, rfl, h0, r0⟩ := trodAll_cons hA
  obtain ⟨v1, vs1, d1, ds1, p1, q1, rfl, rfl, rfl, h1, r1⟩ := trodAll_cons r0
  obtain ⟨rfl, rfl, rfl⟩ := trodAll_nil r1
  obtain rfl : args = #[v0, v1] := by cases args; simp_all
  obtain ⟨rfl, rfl⟩ := trodVars_none hV
  have hlt := hW'.lt
  have hl0 : ∀ x ∈ p0, x.block < W.heap.size := fun x hx => hlt x (by simp [hx])
  obtain ⟨c0, rfl⟩ : ∃ cs, v0 = .agg cs := by have := hval 0 26 v0 rfl rfl; unfold Value.okWide at this; rw [Try.underlying26] at this; obtain ⟨cs, h, _⟩ := this; exact ⟨cs, h⟩
  obtain ⟨x0, z0, o0⟩ := conv_points enc W _ _ _ _ _ h0.choose_spec
  have f0 := ag_in z0
  have hl1 : ∀ x ∈ p1, x.block < W.heap.size := fun x hx => hlt x (by simp [hx])
  obtain ⟨s1, n1, c1, rfl⟩ := okWide_slice Try.underlying22 (hval 1 22 v1 rfl rfl)
  obtain ⟨x1, z1, o1⟩ := conv_cons enc W _ _ _ _ _ h1.choose_spec
  obtain ⟨rfl, f1⟩ := sl_in z1
  refine ((solveFits_does c0.toList x0 o0 s1 c1 x1 o1).calls W (all_cons f0 (all_cons f1 all_nil))).mono fun e W' ⟨he, hu⟩ => ?_
  subst he
  have hb := hu.below
  exact ⟨_, rfl, _, _, _, [], _, [], hW', trodAll_cons_mk (shut_bool Try.underlying4 _) trodAll_mk0, (trodAll_cons_mk (hb.trod solveFits_laidOut (by kernel_rfl) (of_decide_eq_true (by kernel_rfl)) h0 hl0) (trodAll_cons_mk (hb.trod solveFits_laidOut (by kernel_rfl) (of_decide_eq_true (by kernel_rfl)) h1 hl1) trodAll_mk0)), rfl, hb.frame _, fun h => by cases h⟩
theorem solveFits_holds : Rows.SolveFitsSaid :=
  OpenClaim.holds_of_wide 4 Try.f4 rfl rfl rfl rfl rfl rfl rfl ⟨rfl, rfl, rfl, rfl, rfl⟩ rfl rfl rfl rfl rfl (by kernel_rfl) Try.func4 (by kernel_rfl)
    (of_decide_eq_true (by kernel_rfl)) (by unfold Func.isWrapper; first | (rw [if_pos (by decide +kernel)]; kernel_rfl) | (rw [if_neg (by decide +kernel)]; exact ⟨rfl, rfl⟩))
    (fun os started H enc _ => solveFits_lifted os started H enc)
end Go.Proofs.Ytkagjpkgboeaiaa
