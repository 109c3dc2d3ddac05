/- RtTakes: for all programs t with regions and numbers u, c the law returns true; its arguments read as before. No condition. -/
import Derived.Test.YtfhbainbmipddaaRRt5
import Derived.Test.YtfhbainbmipddaaRtPut
import Derived.Test.YtfhbainbmipddaaKnown26
import Derived.Test.YtfhbainbmipddaaApiC
namespace Go.Proofs.Ytfhbainbmipddaa
open Go Go.RR Go.RX Go.GX Go.Api Go.RiseM Go.ReachM Go.RtM Go.ChangeShapes Go.WideShapes Go.ChangeAt Go.RowKit
attribute [local irreducible] wpList Code.wp wpPlan Exit.then Exit.inBlock bodyPost NoPanic Went GX.Post GX.Again GX.Meet GX.RowR GX.Own GX.Owns GX.Box GX.Sl GX.Pt GX.Ag GX.MapR GX.Kept GX.Pin wpT GoK AtEnd Both

theorem rdlT {ps : List Pf} {α : Type} {e : Ty α} {m : Nat} {xs : List α} {a : Option Addr} {cap : Nat} (hm : m = xs.length) (h : Reads ps (.slice a xs.length cap) (Ty.slice e) xs) : Reads ps (.slice a m cap) (Ty.slice e) xs := hm ▸ h
theorem takes_rise {t : RTg} (hR : RightP t) {k : Nat} {U : Unt} (hU : t.units[k]? = some U) : Rise U.takes := (hR.2.2.2.2.2 U (List.mem_of_getElem? hU)).1.2.2.2.2.1.1
theorem takes_few {t : RTg} (ht : Tiny t) {k : Nat} {U : Unt} (hU : t.units[k]? = some U) : U.takes.length ≤ 100000 := by have := (ht.2.2 U (List.mem_of_getElem? hU)).1.2.2.1; omega
theorem rtTakes_does (cs : List Value) (t : RTg) (_ : RTg.ok t) (u : Int) (_ : -9223372036854775808 ≤ u ∧ u ≤ 9223372036854775807) (c : Int) (_ : -9223372036854775808 ≤ c ∧ c ≤ 9223372036854775807) : Does Try.prog 6 [.agg cs.toArray, .int .i64 u, .int .i64 c] [Ag tyRTg cs t] [] (fun _ : Unit => .bool true) (fun _ => []) (fun _ => []) := by
  refine enter Try.func6 rfl Try.ntmps6 rfl fun b => ?_
  refine GX.wR ?_; intros
  refine GX.o (cl (great_spec _ t) fun _ => ?_)
  by_cases ht : Tiny t
  · have ht' := Classical.not_not.2 ht
    refine GX.wR ?_; intros
    refine GX.o (cl (rright_spec _ t ht.small) fun _ => ?_)
    by_cases hZ : RightP t
    · have hZ' := Classical.not_not.2 hZ
      by_cases h0 : u < 0
      · refine GX.wR ?_; intros
        exact rt1 () rfl
      by_cases h1 : u < (t.units.length : Int)
      · obtain ⟨k, rfl⟩ := Int.eq_ofNat_of_zero_le (show 0 ≤ u by omega)
        obtain ⟨U, hU⟩ := get_lt (show k < t.units.length by omega)
        have hl : t.units.length ≤ 20 := ht.1.2.2
        refine GX.wRA ?_; intros
        refine GX.nmA 27 ?_; rintro c27 rfl
        refine GX.agl c27 (fun hc => ?_)
        obtain ⟨a0, a1, a2, a3, rfl⟩ := list4 hc
        refine GX.o (GX.stRA ?_)
        refine GX.wRA ?_; intros
        refine GX.nmP 7 ?_; rintro b7 rfl
        refine GX.nmS 30 ?_; rintro a30 c30 rfl rfl
        refine opn a30 fun _ _ ha => ?_
        rcases ha with ⟨h, _⟩ | ⟨g, rfl⟩
        · rw [h] at hU; simp at hU
        refine GX.drawnE [RowR b7 26 _] (fun j => !(List.contains [13] j)) [(0, true), (1, true), (2, true), (3, true), (4, true), (5, true), (6, true), (7, true), (8, true), (9, true), (10, false), (11, true), (12, true), (13, false)] rfl (by kernel_rfl) (by kernel_rfl) (by first | ((repeat (first | apply Go.GX.SelR.nil | apply Go.GX.SelR.cons | (with_reducible apply Go.GX.TakeR.head) | apply Go.GX.TakeR.tail)); done) | (repeat (first | apply Go.GX.SelR.nil | apply Go.GX.SelR.cons | apply Go.GX.TakeR.head | apply Go.GX.TakeR.tail))) ?_; intro wd F hW hR
        refine GX.wT ?_; intros
        refine GX.gow ?_
        refine (cl (putw_spec _ _ U.takes c (takes_rise hZ hU) (takes_few ht hU)) fun s => ?_)
        obtain ⟨a42, c42⟩ := s
        dsimp only
        refine GX.wT ?_; intros
        refine frz (some ⟨g, 0, none⟩) ?_
        refine GX.agPut (cs' := [a0, a1, .slice (some ⟨g, 0, none⟩) t.units.length c30, a3]) [a0, a1, a2, a3] 2 (.slice (some ⟨g, 0, none⟩) t.units.length c30) (swapU t k { U with takes := put U.takes c }) ?_ (rdlT (List.length_set.symm) Go.GX.Rds.r)
        refine GX.wRA ?_; intros
        refine GX.nmA 45 ?_; rintro c45 rfl
        refine GX.agl c45 (fun hc => ?_)
        obtain ⟨d0, d1, d2, d3, rfl⟩ := list4 hc
        refine GX.o (GX.stRA ?_)
        refine GX.wRA ?_; intros
        refine GX.nmP 8 ?_; rintro b8 rfl
        refine GX.nmS 48 ?_; rintro a48 c48 rfl rfl
        refine opn a48 fun _ _ ha => ?_
        rcases ha with ⟨h, _⟩ | ⟨g2, rfl⟩
        · rw [h] at hU; simp at hU
        refine GX.drawnE [RowR b8 26 _] (fun j => !(List.contains [14] j)) [(0, true), (1, true), (2, true), (3, true), (4, true), (5, true), (6, true), (7, true), (8, true), (9, true), (10, false), (11, false), (12, true), (13, true), (14, false)] rfl (by kernel_rfl) (by kernel_rfl) (by first | ((repeat (first | apply Go.GX.SelR.nil | apply Go.GX.SelR.cons | (with_reducible apply Go.GX.TakeR.head) | apply Go.GX.TakeR.tail)); done) | (repeat (first | apply Go.GX.SelR.nil | apply Go.GX.SelR.cons | apply Go.GX.TakeR.head | apply Go.GX.TakeR.tail))) ?_; intro wd F hW hR
        refine GX.wT ?_; intros
        refine GX.gow ?_
        refine (cl (minus_spec _ _ _ _ U.takes [c] (by have := takes_few ht hU; omega)) fun s => ?_)
        obtain ⟨a61, c61⟩ := s
        dsimp only
        refine frz a61 ?_
        refine GX.wT ?_; intros
        refine frz (some ⟨g2, 0, none⟩) ?_
        refine GX.agPut (cs' := [d0, d1, .slice (some ⟨g2, 0, none⟩) t.units.length c48, d3]) [d0, d1, d2, d3] 2 (.slice (some ⟨g2, 0, none⟩) t.units.length c48) (swapU t k { U with takes := minus U.takes [c] }) ?_ (rdlT (List.length_set.symm) Go.GX.Rds.r)
        have hv := right_takes hZ hU c
        have hw : RightP (swapU t k { U with takes := minus U.takes [c] }) := right_less hZ hU _
        refine GX.wRA ?_; intros
        by_cases hO : c ∈ outOf t U
        · refine GX.drawnE [RowR b8 26 _, RowR b7 26 _] (fun j => !(List.contains [4, 6, 10, 13] j)) [(0, true), (2, true), (3, true), (5, true), (1, false), (4, false), (6, false), (7, true), (8, true), (9, true), (10, false), (11, true), (12, true), (13, false), (14, true), (15, true)] rfl (by kernel_rfl) (by kernel_rfl) (by first | ((repeat (first | apply Go.GX.SelR.nil | apply Go.GX.SelR.cons | (with_reducible apply Go.GX.TakeR.head) | apply Go.GX.TakeR.tail)); done) | (repeat (first | apply Go.GX.SelR.nil | apply Go.GX.SelR.cons | apply Go.GX.TakeR.head | apply Go.GX.TakeR.tail))) ?_; intro wd F hW hR
          refine GX.wTA ?_; intros
          refine GX.gow ?_
          refine (cl (right_spec _ (swapU t k { U with takes := put U.takes c }) (swap_small ht.small hU rfl rfl)) fun _ => ?_)
          rw [decide_eq_true (hv.2 hO)]
          refine GX.wTA ?_; intros
          refine GX.gow ?_
          refine (cl (outU_spec _ t ht.small k U hU) fun s => ?_)
          obtain ⟨a68, c68⟩ := s
          dsimp only
          refine GX.wTA ?_; intros
          refine GX.gow ?_
          refine (cl (in_spec _ _ (outOf t U) c) fun _ => ?_)
          rw [decide_eq_true hO]
          refine GX.wTA ?_; intros
          refine GX.gow ?_
          refine (cl (right_spec _ (swapU t k { U with takes := minus U.takes [c] }) (swap_small ht.small hU rfl rfl)) fun _ => ?_)
          rw [decide_eq_true hw]
          refine GX.wTA ?_; intros
          refine GX.gow ?_
          refine (cl (known26_spec) fun _ => ?_)
          refine GX.wTA ?_; intros
          refine GX.wRA ?_; intros
          exact rt1 () rfl
        · refine GX.drawnE [RowR b8 26 _, RowR b7 26 _] (fun j => !(List.contains [4, 6, 10, 13] j)) [(0, true), (2, true), (3, true), (5, true), (1, false), (4, false), (6, false), (7, true), (8, true), (9, true), (10, false), (11, true), (12, true), (13, false), (14, true), (15, true)] rfl (by kernel_rfl) (by kernel_rfl) (by first | ((repeat (first | apply Go.GX.SelR.nil | apply Go.GX.SelR.cons | (with_reducible apply Go.GX.TakeR.head) | apply Go.GX.TakeR.tail)); done) | (repeat (first | apply Go.GX.SelR.nil | apply Go.GX.SelR.cons | apply Go.GX.TakeR.head | apply Go.GX.TakeR.tail))) ?_; intro wd F hW hR
          refine GX.wTA ?_; intros
          refine GX.gow ?_
          refine (cl (right_spec _ (swapU t k { U with takes := put U.takes c }) (swap_small ht.small hU rfl rfl)) fun _ => ?_)
          rw [decide_eq_false (fun h => hO (hv.1 h))]
          refine GX.wTA ?_; intros
          refine GX.gow ?_
          refine (cl (outU_spec _ t ht.small k U hU) fun s => ?_)
          obtain ⟨a68, c68⟩ := s
          dsimp only
          refine GX.wTA ?_; intros
          refine GX.gow ?_
          refine (cl (in_spec _ _ (outOf t U) c) fun _ => ?_)
          rw [decide_eq_false hO]
          refine GX.wTA ?_; intros
          refine GX.gow ?_
          refine (cl (right_spec _ (swapU t k { U with takes := minus U.takes [c] }) (swap_small ht.small hU rfl rfl)) fun _ => ?_)
          rw [decide_eq_true hw]
          refine GX.wTA ?_; intros
          refine GX.gow ?_
          refine (cl (known26_spec) fun _ => ?_)
          refine GX.wTA ?_; intros
          refine GX.wRA ?_; intros
          exact rt1 () rfl
      · refine GX.wR ?_; intros
        exact rt1 () rfl
    · refine GX.wR ?_; intros
      exact rt1 () rfl
  · refine GX.wR ?_; intros
    exact rt1 () rfl

theorem rtTakes_own : ownKnob Try.prog.godebug = none := by kernel_rfl
theorem rtTakes_laidOut : laidOutB Try.prog = true := by kernel_rfl
set_option maxRecDepth 100000 in
theorem rtTakes_lifted (os : Os) (started : os.Started) (H : Type) (enc : TypeId × Value → H) :
    ReturnsInHanded {} Try.checked os 6 .any (Rows.rtTakesSpec.pre6 enc Try.prog Try.f6 Rows.rtTakesRow.domain false) (Rows.rtTakesSpec.post enc Try.prog Try.f6 false true false false) := by
  refine returnsInHanded_of_change (C := Try.checked) rtTakes_own started (by kernel_rfl) Try.func6
    (ChangeSpec.witness6 (enc := enc) (C := Try.checked) false ⟨#[], #[.agg #[(.slice none 0 0), (.slice none 0 0), (.slice none 0 0), (.int .i64 0)], .int .i64 0, .int .i64 0], []⟩ 8 (by kernel_rfl) (by kernel_rfl) (by kernel_rfl) (by kernel_rfl)) ?_
  intro W base args ds gs before hval0 hW hcnd _
  have hval : ∀ (j : Nat) t v, Try.f6.params[j]? = some t → args[j]? = some v → Value.okWide Try.prog W .any base t v := hval0
  have hW' := hW
  obtain ⟨p, q, hA0, hV, rfl, hfz, hnd⟩ := hW
  have hA : DataW.TrodAll enc Try.prog W 0 (fun _ => true) true Try.f6.params.toList args.toList ds p := hA0
  rw [Try.params6] at hA hval
  obtain ⟨v0, vs0, d0, ds0, p0, q0, hargs, rfl, rfl, h0, r0⟩ := trodAll_cons hA
  obtain ⟨v1, vs1, d1, ds1, p1, q1, rfl, rfl, rfl, h1, r1⟩ := trodAll_cons r0
  obtain ⟨v2, vs2, d2, ds2, p2, q2, rfl, rfl, rfl, h2, r2⟩ := trodAll_cons r1
  obtain ⟨rfl, rfl, rfl⟩ := trodAll_nil r2
  obtain rfl : args = #[v0, v1, v2] := by cases args; simp_all
  obtain ⟨rfl, rfl⟩ := trodVars_none hV
  have hlt := hW'.lt
  have hl0 : ∀ x ∈ p0, x.block < W.heap.size := fun x hx => hlt x (by simp [hx])
  obtain ⟨c0, rfl⟩ : ∃ cs, v0 = .agg cs := by have := hval 0 26 v0 rfl rfl; unfold Value.okWide at this; rw [Try.underlying26] at this; obtain ⟨cs, h, _⟩ := this; exact ⟨cs, h⟩
  obtain ⟨x0, z0, o0⟩ := conv_rtg enc W _ _ _ _ _ h0.choose_spec
  have f0 := ag_in z0
  have hl1 : ∀ x ∈ p1, x.block < W.heap.size := fun x hx => hlt x (by simp [hx])
  obtain ⟨a1, rfl, e1, g1, w1⟩ := open_int Try.underlying3 (hval 1 3 v1 rfl rfl) h1
  have b1 : -9223372036854775808 ≤ a1 ∧ a1 ≤ 9223372036854775807 := wf_i64 w1
  have hl2 : ∀ x ∈ p2, x.block < W.heap.size := fun x hx => hlt x (by simp [hx])
  obtain ⟨a2, rfl, e2, g2, w2⟩ := open_int Try.underlying3 (hval 2 3 v2 rfl rfl) h2
  have b2 : -9223372036854775808 ≤ a2 ∧ a2 ≤ 9223372036854775807 := wf_i64 w2
  refine ((rtTakes_does c0.toList x0 o0 a1 b1 a2 b2).calls W (all_cons f0 all_nil)).mono fun e W' ⟨he, hu⟩ => ?_
  subst he
  have hb := hu.below
  exact ⟨_, rfl, _, _, _, [], _, [], hW', trodAll_cons_mk (shut_bool Try.underlying4 _) trodAll_mk0, (trodAll_cons_mk (hb.trod rtTakes_laidOut (by kernel_rfl) (of_decide_eq_true (by kernel_rfl)) h0 hl0) (trodAll_cons_mk (hb.trod rtTakes_laidOut (by kernel_rfl) (of_decide_eq_true (by kernel_rfl)) h1 hl1) (trodAll_cons_mk (hb.trod rtTakes_laidOut (by kernel_rfl) (of_decide_eq_true (by kernel_rfl)) h2 hl2) trodAll_mk0))), rfl, hb.frame _, fun h => by cases h⟩
theorem rtTakes_holds : Rows.RtTakesSaid :=
  OpenClaim.holds_of_wide 6 Try.f6 rfl rfl rfl rfl rfl rfl rfl ⟨rfl, rfl, rfl, rfl, rfl⟩ rfl rfl rfl rfl rfl (by kernel_rfl) Try.func6 (by kernel_rfl)
    (of_decide_eq_true (by kernel_rfl)) (by unfold Func.isWrapper; first | (rw [if_pos (by decide +kernel)]; kernel_rfl) | (rw [if_neg (by decide +kernel)]; exact ⟨rfl, rfl⟩))
    (fun os started H enc _ => rtTakes_lifted os started H enc)
end Go.Proofs.Ytfhbainbmipddaa
