/- RtClosed: for all programs t with regions and numbers u the law returns true; its arguments read as before. No condition. -/
import Derived.Test.YtfhbainbmipddaaRRt2
import Derived.Test.YtfhbainbmipddaaRtClW
import Derived.Test.YtfhbainbmipddaaKnown26
import Derived.Test.YtfhbainbmipddaaApiC
namespace Go.Proofs.Ytfhbainbmipddaa
open Go Go.RR Go.RX Go.GX Go.Api Go.RiseM Go.ReachM Go.RtM Go.ChangeShapes Go.WideShapes Go.ChangeAt Go.RowKit
attribute [local irreducible] wpList Code.wp wpPlan Exit.then Exit.inBlock bodyPost NoPanic Went GX.Post GX.Again GX.Meet GX.RowR GX.Own GX.Owns GX.Box GX.Sl GX.Pt GX.Ag GX.MapR GX.Kept GX.Pin wpT GoK AtEnd Both

theorem rise_le {l : List Int} {n : Nat} (h : Rise l) (hb : ∀ x ∈ l, 0 ≤ x ∧ x < (n : Int)) : l.length ≤ n := by
  have key : ∀ i (hi : i < l.length), (i : Int) ≤ l[i] := by
    intro i
    induction i with
    | zero => intro hi; exact (hb _ (List.getElem_mem hi)).1
    | succ i ih =>
      intro hi
      have h1 := ih (by omega)
      have h2 := List.pairwise_iff_getElem.1 h i (i + 1) (by omega) hi (by omega)
      omega
  by_cases h0 : l.length = 0
  · omega
  · have h1 := key (l.length - 1) (by omega)
    have h2 := (hb _ (List.getElem_mem (show l.length - 1 < l.length by omega))).2
    omega
theorem rtClosed_does (cs : List Value) (t : RTg) (_ : RTg.ok t) (u : Int) (_ : -9223372036854775808 ≤ u ∧ u ≤ 9223372036854775807) : Does Try.prog 9 [.agg cs.toArray, .int .i64 u] [Ag tyRTg cs t] [] (fun _ : Unit => .bool true) (fun _ => []) (fun _ => []) := by
  refine enter Try.func9 rfl Try.ntmps9 rfl fun b => ?_
  refine GX.wR ?_; intros
  refine GX.o (cl (great_spec _ t) fun _ => ?_)
  by_cases ht : Tiny t
  · have ht' := Classical.not_not.2 ht
    have hc := ht.small.classes
    have hgl : (glob t).length ≤ 1000 := by have := fromL_len (flds t) t.globals; rw [flds_len] at this; have := ht.1.1; unfold glob; omega
    have hol : (out t u).length ≤ 1000 := by
      have h1 := out_len (t := t) (u := u)
      have h2 : (both (glob t) (out t u)).length ≤ t.classes.length := rise_le (both_rise _ _) fun x hx => both_in hx
      have := ht.1.1
      omega
    refine GX.wR ?_; intros
    refine GX.drawn0  (fun j => !(List.contains [4] j)) [(0, true), (2, true), (3, true), (1, false), (4, false), (5, true), (6, true)] rfl (by kernel_rfl) (by kernel_rfl) (by first | ((repeat (first | apply Go.GX.SelR.nil | apply Go.GX.SelR.cons | (with_reducible apply Go.GX.TakeR.head) | apply Go.GX.TakeR.tail)); done) | (repeat (first | apply Go.GX.SelR.nil | apply Go.GX.SelR.cons | apply Go.GX.TakeR.head | apply Go.GX.TakeR.tail))) ?_; intro wd F hW hR
    refine GX.wT ?_; intros
    refine GX.gow ?_
    refine (cl (global_spec _ t ht.small) fun s => ?_)
    obtain ⟨a5, c5⟩ := s
    dsimp only
    refine GX.wT ?_; intros
    refine GX.gow ?_
    refine (cl (out_spec _ t ht.small u) fun s => ?_)
    obtain ⟨a6, c6⟩ := s
    dsimp only
    refine GX.wT ?_; intros
    refine GX.wR ?_; intros
    refine GX.o (cl (both_spec a5 a6 c5 c6 (glob t) (out t u) (by omega) (by omega)) fun s => ?_)
    obtain ⟨a7, c7⟩ := s
    dsimp only
    refine GX.wR ?_; intros
    refine GX.o (cl (fields_spec _ t ht.small) fun s => ?_)
    obtain ⟨a8, c8⟩ := s
    dsimp only
    have hL := out_len (t := t) (u := u)
    have hF := flds_len t
    refine GX.wR ?_; intros
    refine GX.o (cl (closed_spec a8 a5 c8 c5 (flds t) (glob t) (by omega)) fun _ => ?_)
    rw [decide_eq_true (clo_glob t)]
    refine GX.wR ?_; intros
    refine GX.o (cl (closed_spec a8 a7 c8 c7 (flds t) (both (glob t) (out t u)) (by omega)) fun _ => ?_)
    rw [decide_eq_true (clo_both t u)]
    refine GX.wR ?_; intros
    refine GX.nmP 2 ?_; rintro b2 rfl
    refine GX.loop (σ := Nat) (fun i => [(1, .int .i64 u), (2, .pointer (some ⟨b2, 0, none⟩)), (6, .slice a6 (out t u).length c6), (7, .slice a7 (both (glob t) (out t u)).length c7), (9, .int .i64 (i : Int))]) (fun _ => []) (fun _ => [])
      (fun i => i ≤ (both (glob t) (out t u)).length) (fun i => (both (glob t) (out t u)).length - i) 0 ⟨rfl, rfl, rfl, rfl, rfl, trivial⟩ (by omega) (fun i hi => ?_)
    by_cases hlt : i < (both (glob t) (out t u)).length
    · obtain ⟨x, hx⟩ := get_lt hlt
      obtain ⟨x0, x1⟩ := both_in (List.mem_of_getElem? hx)
      cases i with
      | zero =>
        refine GX.wR ?_; intros
        refine GX.drawn0  (fun j => !(List.contains [] j)) [(0, true), (1, true), (2, true), (3, true), (4, true), (5, true), (6, true), (7, true), (8, true), (9, true), (10, true), (11, true), (12, true), (13, true), (14, true), (15, true), (16, true), (17, true), (18, true), (19, true), (20, true), (21, true), (22, true), (23, true), (24, true), (25, true), (26, true), (27, true), (28, true), (29, true), (30, true)] rfl (by kernel_rfl) (by kernel_rfl) (by first | ((repeat (first | apply Go.GX.SelR.nil | apply Go.GX.SelR.cons | (with_reducible apply Go.GX.TakeR.head) | apply Go.GX.TakeR.tail)); done) | (repeat (first | apply Go.GX.SelR.nil | apply Go.GX.SelR.cons | apply Go.GX.TakeR.head | apply Go.GX.TakeR.tail))) ?_; intro wd F hW hR
        refine GX.wT ?_; intros
        refine GX.wR ?_; intros
        exact again 1 ⟨rfl, rfl, rfl, rfl, rfl, trivial⟩ (by omega) (by omega)
      | succ i =>
        obtain ⟨y, hy⟩ := get_lt (show i < (both (glob t) (out t u)).length by omega)
        have hxy : y < x := by
          obtain ⟨p1, p2⟩ := List.getElem?_eq_some_iff.1 hx
          obtain ⟨q1, q2⟩ := List.getElem?_eq_some_iff.1 hy
          rw [← p2, ← q2]
          exact List.pairwise_iff_getElem.1 (both_rise _ _) i (i + 1) q1 p1 (by omega)
        refine GX.wR ?_; intros
        refine GX.drawn0  (fun j => !(List.contains [] j)) [(0, true), (1, true), (2, true), (3, true), (4, true), (5, true), (6, true), (7, true), (8, true), (9, true), (10, true), (11, true), (12, true), (13, true), (14, true), (15, true), (16, true), (17, true), (18, true), (19, true), (20, true), (21, true), (22, true), (23, true), (24, true), (25, true), (26, true), (27, true), (28, true), (29, true), (30, true)] rfl (by kernel_rfl) (by kernel_rfl) (by first | ((repeat (first | apply Go.GX.SelR.nil | apply Go.GX.SelR.cons | (with_reducible apply Go.GX.TakeR.head) | apply Go.GX.TakeR.tail)); done) | (repeat (first | apply Go.GX.SelR.nil | apply Go.GX.SelR.cons | apply Go.GX.TakeR.head | apply Go.GX.TakeR.tail))) ?_; intro wd F hW hR
        refine GX.wT ?_; intros
        refine GX.wR ?_; intros
        exact again (i + 1 + 1) ⟨rfl, rfl, rfl, rfl, rfl, trivial⟩ (by omega) (by omega)
    by_cases h0 : 0 ≤ u ∧ u < (t.units.length : Int)
    · obtain ⟨h0, h1⟩ := h0
      refine GX.wR ?_; intros
      refine GX.o (cl (known26_spec) fun _ => ?_)
      refine GX.wR ?_; intros
      exact rt1 () rfl
    · have he : (out t u).length = 0 := by rw [out_none (by omega)]; rfl
      by_cases h1 : 0 ≤ u
      · refine GX.wR ?_; intros
        refine GX.o (cl (known26_spec) fun _ => ?_)
        refine GX.wR ?_; intros
        exact rt1 () rfl
      · refine GX.wR ?_; intros
        refine GX.o (cl (known26_spec) fun _ => ?_)
        refine GX.wR ?_; intros
        exact rt1 () rfl
  · refine GX.wR ?_; intros
    exact rt1 () rfl

theorem rtClosed_own : ownKnob Try.prog.godebug = none := by kernel_rfl
theorem rtClosed_laidOut : laidOutB Try.prog = true := by kernel_rfl
set_option maxRecDepth 100000 in
theorem rtClosed_lifted (os : Os) (started : os.Started) (H : Type) (enc : TypeId × Value → H) :
    ReturnsInHanded {} Try.checked os 9 .any (Rows.rtClosedSpec.pre6 enc Try.prog Try.f9 Rows.rtClosedRow.domain false) (Rows.rtClosedSpec.post enc Try.prog Try.f9 false true false false) := by
  refine returnsInHanded_of_change (C := Try.checked) rtClosed_own started (by kernel_rfl) Try.func9
    (ChangeSpec.witness6 (enc := enc) (C := Try.checked) false ⟨#[], #[.agg #[(.slice none 0 0), (.slice none 0 0), (.slice none 0 0), (.int .i64 0)], .int .i64 0], []⟩ 8 (by kernel_rfl) (by kernel_rfl) (by kernel_rfl) (by kernel_rfl)) ?_
  intro W base args ds gs before hval0 hW hcnd _
  have hval : ∀ (j : Nat) t v, Try.f9.params[j]? = some t → args[j]? = some v → Value.okWide Try.prog W .any base t v := hval0
  have hW' := hW
  obtain ⟨p, q, hA0, hV, rfl, hfz, hnd⟩ := hW
  have hA : DataW.TrodAll enc Try.prog W 0 (fun _ => true) true Try.f9.params.toList args.toList ds p := hA0
  rw [Try.params9] at hA hval
  obtain ⟨v0, vs0, d0, ds0, p0, q0, hargs, rfl, rfl, h0, r0⟩ := trodAll_cons hA
  obtain ⟨v1, vs1, d1, ds1, p1, q1, rfl, rfl, rfl, h1, r1⟩ := trodAll_cons r0
  obtain ⟨rfl, rfl, rfl⟩ := trodAll_nil r1
  obtain rfl : args = #[v0, v1] := by cases args; simp_all
  obtain ⟨rfl, rfl⟩ := trodVars_none hV
  have hlt := hW'.lt
  have hl0 : ∀ x ∈ p0, x.block < W.heap.size := fun x hx => hlt x (by simp [hx])
  obtain ⟨c0, rfl⟩ : ∃ cs, v0 = .agg cs := by have := hval 0 26 v0 rfl rfl; unfold Value.okWide at this; rw [Try.underlying26] at this; obtain ⟨cs, h, _⟩ := this; exact ⟨cs, h⟩
  obtain ⟨x0, z0, o0⟩ := conv_rtg enc W _ _ _ _ _ h0.choose_spec
  have f0 := ag_in z0
  have hl1 : ∀ x ∈ p1, x.block < W.heap.size := fun x hx => hlt x (by simp [hx])
  obtain ⟨a1, rfl, e1, g1, w1⟩ := open_int Try.underlying3 (hval 1 3 v1 rfl rfl) h1
  have b1 : -9223372036854775808 ≤ a1 ∧ a1 ≤ 9223372036854775807 := wf_i64 w1
  refine ((rtClosed_does c0.toList x0 o0 a1 b1).calls W (all_cons f0 all_nil)).mono fun e W' ⟨he, hu⟩ => ?_
  subst he
  have hb := hu.below
  exact ⟨_, rfl, _, _, _, [], _, [], hW', trodAll_cons_mk (shut_bool Try.underlying4 _) trodAll_mk0, (trodAll_cons_mk (hb.trod rtClosed_laidOut (by kernel_rfl) (of_decide_eq_true (by kernel_rfl)) h0 hl0) (trodAll_cons_mk (hb.trod rtClosed_laidOut (by kernel_rfl) (of_decide_eq_true (by kernel_rfl)) h1 hl1) trodAll_mk0)), rfl, hb.frame _, fun h => by cases h⟩
theorem rtClosed_holds : Rows.RtClosedSaid :=
  OpenClaim.holds_of_wide 9 Try.f9 rfl rfl rfl rfl rfl rfl rfl ⟨rfl, rfl, rfl, rfl, rfl⟩ rfl rfl rfl rfl rfl (by kernel_rfl) Try.func9 (by kernel_rfl)
    (of_decide_eq_true (by kernel_rfl)) (by unfold Func.isWrapper; first | (rw [if_pos (by decide +kernel)]; kernel_rfl) | (rw [if_neg (by decide +kernel)]; exact ⟨rfl, rfl⟩))
    (fun os started H enc _ => rtClosed_lifted os started H enc)
end Go.Proofs.Ytfhbainbmipddaa
