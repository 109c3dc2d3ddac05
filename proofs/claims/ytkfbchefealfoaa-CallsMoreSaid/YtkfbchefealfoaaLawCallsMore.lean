/- CallsMore: for all lists of calls and all numbers f and g the law returns true; its arguments read as before. No condition. -/
import Derived.Test.YtkfbchefealfoaaKnown17
import Derived.Test.YtkfbchefealfoaaMoreM
import Derived.Test.YtkfbchefealfoaaApiC
namespace Go.Proofs.Ytkfbchefealfoaa
open Go Go.RR Go.RX Go.GX Go.Api Go.CalM Go.TarM Go.RiseM Go.ChangeShapes Go.WideShapes Go.ChangeAt Go.RowKit
attribute [local irreducible] wpList Code.wp wpPlan Exit.then Exit.inBlock bodyPost NoPanic Went GX.Post GX.Again GX.Meet GX.RowR GX.Own GX.Owns GX.Box GX.Sl GX.Pt GX.Ag GX.MapR GX.Kept GX.Pin wpT GoK AtEnd Both
local instance (priority := 2000) hdrM1 : UTy Try.prog 34 Ty.hdr (none, 0, 0) (.slice none 0 0) := ⟨Try.zeroValue34, fun _ _ => hdr_rd⟩

structure MoS where
  ao : Option Addr
  cap : Nat
  L : OL
  i : Nat
structure MoB where
  v : Bool
  k : Nat
set_option maxHeartbeats 4000000 in
theorem callsMore_does (ao : Option Addr) (cap : Nat) (e : List (List Int)) (_ : ∀ x ∈ e, ∀ y ∈ x, I64 y) (f : Int) (_ : -9223372036854775808 ≤ f ∧ f ≤ 9223372036854775807) (g : Int) (_ : -9223372036854775808 ≤ g ∧ g ≤ 9223372036854775807) :
    Does Try.prog 7 [.slice ao e.length cap, .int .i64 f, .int .i64 g] [Sl (Ty.slice Ty.int) ao cap e] [] (fun _ : Unit => .bool true) (fun _ => []) (fun _ => []) := by
  refine enter Try.func7 rfl Try.ntmps7 rfl fun b => ?_
  refine GX.wR ?_; intros
  refine GX.o (cl (great17_spec ao cap e) fun _ => ?_)
  by_cases hg : Fit17 e
  · have hg' := Classical.not_not.2 hg
    by_cases h0 : e.length = 0
    · refine GX.wR ?_; intros
      exact rt1 () rfl
    have hf := hg.few.prog
    refine GX.wR ?_; intros
    refine GX.drawn0  (fun j => !(List.contains [] j)) [(0, true), (1, true), (2, true), (3, true), (4, true), (5, true), (6, true), (7, true), (8, true), (9, true), (10, true), (11, true)] rfl (by kernel_rfl) (by kernel_rfl) (by first | ((repeat (first | apply Go.GX.SelR.nil | apply Go.GX.SelR.cons | (with_reducible apply Go.GX.TakeR.head) | apply Go.GX.TakeR.tail)); done) | (repeat (first | apply Go.GX.SelR.nil | apply Go.GX.SelR.cons | apply Go.GX.TakeR.head | apply Go.GX.TakeR.tail))) ?_; intro wd F hW hR
    refine GX.wT ?_; intros
    refine GX.wR ?_; intros
    obtain ⟨F, hF⟩ : ∃ F, F = low10 f % e.length := ⟨_, rfl⟩
    obtain ⟨G, hG⟩ : ∃ G, G = low10 g % e.length := ⟨_, rfl⟩
    rw [← hF, ← hG]
    have hFl : F < e.length := by rw [hF]; exact Nat.mod_lt _ (by omega)
    refine GX.o (cl (program_spec ao cap e hg.few) fun s => ?_)
    refine GX.wR ?_; intros
    refine GX.o (cl (rcomps_spec _ (cProg e) hf) fun s => ?_)
    obtain ⟨aW, cW⟩ := s
    dsimp only
    refine GX.wR ?_; intros
    refine ownNil 34 Ty.hdr ?_
    refine osN 3 Ty.int 0 ?_
    refine GX.loop (σ := MoS) (fun q => [(0, .slice ao e.length cap), (1, .int .i64 (F : Int)), (2, .int .i64 (G : Int)), (7, .slice aW ((comps0 (gr (cProg e))).map zs).length cW), (8, .slice q.ao (q.L.map GX.hd).length q.cap), (9, .int .i64 (q.i : Int))]) (fun _ => [])
      (fun q => [GX.Own 34 Ty.hdr q.ao q.cap (q.L.map GX.hd), Owns 3 Ty.int q.L]) (fun q => q.i ≤ e.length ∧ q.L.map (·.2.2) = e.take q.i) (fun q => e.length - q.i) ⟨none, 0, [], 0⟩ ⟨rfl, rfl, rfl, rfl, rfl, rfl, trivial⟩ ⟨Nat.zero_le _, rfl⟩ (fun q hq => ?_)
    obtain ⟨aD, cD, L, i⟩ := q
    obtain ⟨hi, hL⟩ := hq
    dsimp only at *
    have hLl : L.length = i := by have := congrArg List.length hL; rw [List.length_map, List.length_take] at this; omega
    have hLh : (L.map GX.hd).length = i := by rw [List.length_map]; exact hLl
    have hel20 := hg.1
    by_cases hlt : i < e.length
    · obtain ⟨l, hl⟩ := get_lt hlt
      have hll := hg.2 l (List.mem_of_getElem? hl)
      refine GX.wR ?_; intros
      refine GX.nmS 47 ?_; rintro a47 c47 rfl rfl
      refine GX.nmS 49 ?_; rintro a49 c49 rfl rfl
      refine osA (t := 3) (e := Ty.int) (ao := a47) (cap := c47) (xs := l) ?_
      rw [show L.map GX.hd ++ [(a47, l.length, c47)] = (L ++ [(a47, c47, l)]).map GX.hd by simp [GX.hd]]
      exact again ⟨a49, c49, L ++ [(a47, c47, l)], i + 1⟩ ⟨rfl, rfl, rfl, rfl, rfl, rfl, trivial⟩ ⟨by dsimp only; omega, by dsimp only; rw [List.map_append, hL, List.take_add_one, hl]; rfl⟩ (by dsimp only; omega)
    · rw [List.take_of_length_le (by omega)] at hL
      obtain ⟨l, hl⟩ := get_lt hFl
      have hll := hg.2 l (List.mem_of_getElem? hl)
      obtain ⟨a, ca, hLF, hhF⟩ := snd_get hL hl
      have hFL : F < L.length := by omega
      refine GX.opn aD fun _ _ ha => ?_
      obtain ⟨gD, rfl⟩ : ∃ g, aD = some ⟨g, 0, none⟩ := ha.elim (fun h => absurd hLh (by rw [h.1]; simp; omega)) id
      clear ha
      refine osT (t := 3) (e := Ty.int) F ?_ hLF
      refine GX.wRN ?_; intros
      apply GX.region
      refine GX.wRN ?_; intros
      apply GX.region
      refine GX.wRN ?_; intros
      refine GX.nmS 58 ?_; rintro a3 c3 rfl rfl
      refine osP (t := 3) (e := Ty.int) (ao := a3) F ?_ (List.getElem?_set_self hFL)
      rw [List.set_set, hd_set]
      have hmore : (L.set F (a3, c3, l ++ [(G : Int)])).map (fun x => x.2.2) = more e F G := by
        rw [List.map_set, hL]; unfold more; rw [hl]; rfl
      have hmfew : Few (more e F G) := by
        refine ⟨by rw [more_len]; omega, fun x hx => ?_⟩
        unfold more at hx
        rcases List.mem_or_eq_of_mem_set hx with h2 | h2
        · have := hg.2 x h2; omega
        · rw [h2, hl, Option.getD_some, List.length_append, List.length_singleton]; omega
      refine frzG (t := 3) (e := Ty.int) (l := L.set F (a3, c3, l ++ [(G : Int)])) ?_
      rw [hmore, show (L.map GX.hd).length = (more e F G).length by rw [more_len, List.length_map]; omega]
      apply GX.region
      refine GX.wRN ?_; intros
      refine GX.o (cl (program_spec (some ⟨gD, 0, none⟩) cD (more e F G) hmfew) fun s2 => ?_)
      refine GX.wRN ?_; intros
      refine GX.o (cl (comps_spec _ (cProg (more e F G)) hmfew.prog) fun s3 => ?_)
      obtain ⟨aN, cN⟩ := s3
      dsimp only
      have hW0 := ordered (gr_kids (cProg e))
      have hN0 := ordered (gr_kids (cProg (more e F G)))
      have hgl : (gr (cProg e)).length = (gr (cProg (more e F G))).length := by
        rw [gr_len, gr_len]; show (e.map cCode).length = ((more e F G).map cCode).length
        rw [List.length_map, List.length_map, more_len]
      have hsub := more_kids e F G
      have hlen := grow_len hW0 hN0 hgl hsub
      have hin : ∀ w ∈ comps0 (gr (cProg e)), ∃ c ∈ comps0 (gr (cProg (more e F G))), ∀ x ∈ w, x ∈ c := fun w hw => grow_in hW0 hN0 hgl hsub hw
      have hge : (gr (cProg e)).length = e.length := by rw [gr_len]; show (e.map cCode).length = _; rw [List.length_map]
      have hWle := hW0.le
      obtain ⟨W, hWW⟩ : ∃ W, W = comps0 (gr (cProg e)) := ⟨_, rfl⟩
      obtain ⟨N, hNN⟩ : ∃ N, N = comps0 (gr (cProg (more e F G))) := ⟨_, rfl⟩
      rw [← hWW, ← hNN] at hlen hin
      rw [← hWW] at hWle
      rw [← hWW, ← hNN]
      have hWm : (W.map zs).length = W.length := List.length_map ..
      have hNm : (N.map zs).length = N.length := List.length_map ..
      have hNle : N.length ≤ 20 := by omega
      refine GX.wR ?_; intros
      refine GX.loop (σ := Nat) (fun i => [(7, .slice aW (W.map zs).length cW), (10, .slice aN (N.map zs).length cN), (11, .int .i64 (i : Int))]) (fun _ => []) (fun _ => []) (fun i => i ≤ W.length) (fun i => W.length - i) 0 ⟨rfl, rfl, rfl, trivial⟩ (Nat.zero_le _) (fun i hi => ?_)
      by_cases hiW : i < W.length
      · obtain ⟨w, hw⟩ := get_lt hiW
        have hwz : (W.map zs)[i]? = some (zs w) := by rw [List.getElem?_map, hw]; rfl
        obtain ⟨c0, hc0, hwc0⟩ := hin w (List.mem_of_getElem? hw)
        have hwl := zs_len w
        refine GX.wR ?_; intros
        refine GX.loop (σ := MoB) (fun q => [(7, .slice aW (W.map zs).length cW), (10, .slice aN (N.map zs).length cN), (11, .int .i64 (i : Int)), (12, .bool q.v), (13, .int .i64 (q.k : Int))]) (fun _ => []) (fun _ => []) (fun q => q.k ≤ N.length ∧ (q.v = true ↔ ∃ c ∈ N.take q.k, ∀ x ∈ w, x ∈ c)) (fun q => N.length - q.k) ⟨false, 0⟩ ⟨rfl, rfl, rfl, rfl, rfl, trivial⟩ ⟨Nat.zero_le _, by simp⟩ (fun q hq => ?_)
        obtain ⟨v, k⟩ := q
        obtain ⟨hk, hv⟩ := hq
        dsimp only at *
        by_cases hkN : k < N.length
        · obtain ⟨c, hc⟩ := get_lt hkN
          have hcz : (N.map zs)[k]? = some (zs c) := by rw [List.getElem?_map, hc]; rfl
          have htk : N.take (k + 1) = N.take k ++ [c] := by rw [List.take_add_one, hc]; rfl
          refine GX.wR ?_; intros
          refine GX.loop (σ := MoB) (fun q => [(7, .slice aW (W.map zs).length cW), (10, .slice aN (N.map zs).length cN), (11, .int .i64 (i : Int)), (12, .bool v), (13, .int .i64 (k : Int)), (14, .bool q.v), (15, .int .i64 (q.k : Int))]) (fun _ => []) (fun _ => []) (fun q => q.k ≤ w.length ∧ (q.v = true ↔ ∀ x ∈ w.take q.k, x ∈ c)) (fun q => w.length - q.k) ⟨true, 0⟩ ⟨rfl, rfl, rfl, rfl, rfl, rfl, rfl, trivial⟩ ⟨Nat.zero_le _, by simp⟩ (fun q hq => ?_)
          obtain ⟨u, j⟩ := q
          obtain ⟨hj, hu⟩ := hq
          dsimp only at *
          by_cases hjw : j < w.length
          · obtain ⟨y, hy⟩ := get_lt hjw
            have hyz := zs_get hy
            have htj : w.take (j + 1) = w.take j ++ [y] := by rw [List.take_add_one, hy]; rfl
            cases u with
            | false =>
              refine GX.wR ?_; intros
              refine GX.drawn0  (fun j => !(List.contains [13] j)) [(0, true), (1, true), (2, true), (3, true), (4, true), (5, true), (6, true), (7, true), (8, true), (9, true), (10, true), (11, true), (12, true), (13, false), (14, true), (15, true)] rfl (by kernel_rfl) (by kernel_rfl) (by first | ((repeat (first | apply Go.GX.SelR.nil | apply Go.GX.SelR.cons | (with_reducible apply Go.GX.TakeR.head) | apply Go.GX.TakeR.tail)); done) | (repeat (first | apply Go.GX.SelR.nil | apply Go.GX.SelR.cons | apply Go.GX.TakeR.head | apply Go.GX.TakeR.tail))) ?_; intro wd F hW hR
              refine GX.wT ?_; intros
              refine GX.wR ?_; intros
              refine again ⟨false, j + 1⟩ ⟨rfl, rfl, rfl, rfl, rfl, rfl, rfl, trivial⟩ ⟨by dsimp only; omega, ?_⟩ (by dsimp only; omega)
              dsimp only
              constructor
              · intro h; cases h
              · intro h
                exact hu.2 fun x hx => h x (by rw [htj]; exact List.mem_append_left _ hx)
            | true =>
              refine GX.wR ?_; intros
              refine GX.drawn0  (fun j => !(List.contains [13] j)) [(0, true), (1, true), (2, true), (3, true), (4, true), (5, true), (6, true), (7, true), (8, true), (9, true), (10, true), (11, true), (12, true), (13, false), (14, true), (15, true)] rfl (by kernel_rfl) (by kernel_rfl) (by first | ((repeat (first | apply Go.GX.SelR.nil | apply Go.GX.SelR.cons | (with_reducible apply Go.GX.TakeR.head) | apply Go.GX.TakeR.tail)); done) | (repeat (first | apply Go.GX.SelR.nil | apply Go.GX.SelR.cons | apply Go.GX.TakeR.head | apply Go.GX.TakeR.tail))) ?_; intro wd F hW hR
              refine GX.wT ?_; intros
              refine GX.nmS 89 ?_; rintro a9 c9 rfl rfl
              refine GX.gow ?_
              refine (cl (in_spec a9 c9 (zs c) (y : Int)) fun _ => ?_)
              refine GX.wT ?_; intros
              refine GX.wR ?_; intros
              refine again ⟨decide ((y : Int) ∈ zs c), j + 1⟩ ⟨rfl, rfl, rfl, rfl, rfl, rfl, rfl, trivial⟩ ⟨by dsimp only; omega, ?_⟩ (by dsimp only; omega)
              dsimp only
              rw [decide_eq_true_eq, zs_mem, htj]
              constructor
              · intro h x hx
                rcases List.mem_append.1 hx with hx | hx
                · exact hu.1 rfl x hx
                · simp at hx; subst hx; exact h
              · intro h; exact h y (by simp)
          · rw [List.take_of_length_le (by omega)] at hu
            cases v with
            | false =>
              refine GX.wR ?_; intros
              refine again ⟨u, k + 1⟩ ⟨rfl, rfl, rfl, rfl, rfl, trivial⟩ ⟨by dsimp only; omega, ?_⟩ (by dsimp only; omega)
              dsimp only
              rw [hu, htk]
              constructor
              · intro h; exact ⟨c, by simp, h⟩
              · rintro ⟨d, hd, h⟩
                rcases List.mem_append.1 hd with hd | hd
                · exact absurd (hv.2 ⟨d, hd, h⟩) (by simp)
                · simp at hd; subst hd; exact h
            | true =>
              refine GX.wR ?_; intros
              refine again ⟨true, k + 1⟩ ⟨rfl, rfl, rfl, rfl, rfl, trivial⟩ ⟨by dsimp only; omega, ?_⟩ (by dsimp only; omega)
              dsimp only
              obtain ⟨d, hd, h⟩ := hv.1 rfl
              exact ⟨fun _ => ⟨d, by rw [htk]; exact List.mem_append_left _ hd, h⟩, fun _ => rfl⟩
        · rw [List.take_of_length_le (by omega)] at hv
          obtain rfl : v = true := hv.2 ⟨c0, hc0, hwc0⟩
          refine GX.wR ?_; intros
          exact again (i + 1) ⟨rfl, rfl, rfl, trivial⟩ (by omega) (by omega)
      · refine GX.wR ?_; intros
        refine GX.o (cl known17_spec fun _ => ?_)
        refine GX.wR ?_; intros
        exact rt1 () rfl
  · refine GX.wR ?_; intros
    exact rt1 () rfl
theorem callsMore_own : ownKnob Try.prog.godebug = none := by kernel_rfl
theorem callsMore_laidOut : laidOutB Try.prog = true := by kernel_rfl
set_option maxRecDepth 100000 in
theorem callsMore_lifted (os : Os) (started : os.Started) (H : Type) (enc : TypeId × Value → H) :
    ReturnsInHanded {} Try.checked os 7 .any (Rows.callsMoreSpec.pre6 enc Try.prog Try.f7 Rows.callsMoreRow.domain false) (Rows.callsMoreSpec.post enc Try.prog Try.f7 false true false false) := by
  refine returnsInHanded_of_change (C := Try.checked) callsMore_own started (by kernel_rfl) Try.func7
    (ChangeSpec.witness6 (enc := enc) (C := Try.checked) false ⟨#[], #[.slice none 0 0, .int .i64 0, .int .i64 0], []⟩ 8 (by kernel_rfl) (by kernel_rfl) (by kernel_rfl) (by kernel_rfl)) ?_
  intro W base args ds gs before hval0 hW hcnd _
  have hval : ∀ (j : Nat) t v, Try.f7.params[j]? = some t → args[j]? = some v → Value.okWide Try.prog W .any base t v := hval0
  have hW' := hW
  obtain ⟨p, q, hA0, hV, rfl, hfz, hnd⟩ := hW
  have hA : DataW.TrodAll enc Try.prog W 0 (fun _ => true) true Try.f7.params.toList args.toList ds p := hA0
  rw [Try.params7] at hA hval
  obtain ⟨v0, vs0, d0, ds0, p0, q0, hargs, rfl, rfl, h0, r0⟩ := trodAll_cons hA
  obtain ⟨v1, vs1, d1, ds1, p1, q1, rfl, rfl, rfl, h1, r1⟩ := trodAll_cons r0
  obtain ⟨v2, vs2, d2, ds2, p2, q2, rfl, rfl, rfl, h2, r2⟩ := trodAll_cons r1
  obtain ⟨rfl, rfl, rfl⟩ := trodAll_nil r2
  obtain rfl : args = #[v0, v1, v2] := by cases args; simp_all
  obtain ⟨rfl, rfl⟩ := trodVars_none hV
  have hlt := hW'.lt
  have hl0 : ∀ x ∈ p0, x.block < W.heap.size := fun x hx => hlt x (by simp [hx])
  obtain ⟨s0, n0, c0, rfl⟩ := okWide_slice Try.underlying22 (hval 0 22 v0 rfl rfl)
  obtain ⟨x0, z0, o0⟩ := cv_intss enc W _ _ _ _ _ h0.choose_spec
  obtain ⟨rfl, f0⟩ := sl_in z0
  have hl1 : ∀ x ∈ p1, x.block < W.heap.size := fun x hx => hlt x (by simp [hx])
  obtain ⟨a1, rfl, e1, g1, w1⟩ := open_int Try.underlying3 (hval 1 3 v1 rfl rfl) h1
  have b1 : -9223372036854775808 ≤ a1 ∧ a1 ≤ 9223372036854775807 := wf_i64 w1
  have hl2 : ∀ x ∈ p2, x.block < W.heap.size := fun x hx => hlt x (by simp [hx])
  obtain ⟨a2, rfl, e2, g2, w2⟩ := open_int Try.underlying3 (hval 2 3 v2 rfl rfl) h2
  have b2 : -9223372036854775808 ≤ a2 ∧ a2 ≤ 9223372036854775807 := wf_i64 w2
  refine ((callsMore_does s0 c0 x0 o0 a1 b1 a2 b2).calls W (all_cons f0 all_nil)).mono fun e W' ⟨he, hu⟩ => ?_
  subst he
  have hb := hu.below
  exact ⟨_, rfl, _, _, _, [], _, [], hW', trodAll_cons_mk (shut_bool Try.underlying4 _) trodAll_mk0, (trodAll_cons_mk (hb.trod callsMore_laidOut (by kernel_rfl) (of_decide_eq_true (by kernel_rfl)) h0 hl0) (trodAll_cons_mk (hb.trod callsMore_laidOut (by kernel_rfl) (of_decide_eq_true (by kernel_rfl)) h1 hl1) (trodAll_cons_mk (hb.trod callsMore_laidOut (by kernel_rfl) (of_decide_eq_true (by kernel_rfl)) h2 hl2) trodAll_mk0))), rfl, hb.frame _, fun h => by cases h⟩
theorem callsMore_holds : Rows.CallsMoreSaid :=
  OpenClaim.holds_of_wide 7 Try.f7 rfl rfl rfl rfl rfl rfl rfl ⟨rfl, rfl, rfl, rfl, rfl⟩ rfl rfl rfl rfl rfl (by kernel_rfl) Try.func7 (by kernel_rfl)
    (of_decide_eq_true (by kernel_rfl)) (by unfold Func.isWrapper; first | (rw [if_pos (by decide +kernel)]; kernel_rfl) | (rw [if_neg (by decide +kernel)]; exact ⟨rfl, rfl⟩))
    (fun os started H enc _ => callsMore_lifted os started H enc)
end Go.Proofs.Ytkfbchefealfoaa
