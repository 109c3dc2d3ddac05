/- CallsOrder: for all lists of calls the law returns true; its argument reads as before. No condition. -/
import Derived.Test.YtkfbchefealfoaaKnown17
import Derived.Test.YtkfbchefealfoaaMoreM
import Derived.Test.YtkfbchefealfoaaApiC
namespace Go.Proofs.Ytkfbchefealfoaa
open Go Go.RR Go.RX Go.GX Go.Api Go.CalM Go.TarM Go.RiseM Go.ChangeShapes Go.WideShapes Go.ChangeAt Go.RowKit
attribute [local irreducible] wpList Code.wp wpPlan Exit.then Exit.inBlock bodyPost NoPanic Went GX.Post GX.Again GX.Meet GX.RowR GX.Own GX.Owns GX.Box GX.Sl GX.Pt GX.Ag GX.MapR GX.Kept GX.Pin wpT GoK AtEnd Both

theorem take_flat {C : List (List Nat)} {i : Nat} {c : List Nat} (h : C[i]? = some c) : (C.take (i + 1)).flatten = (C.take i).flatten ++ c := by
  rw [List.take_add_one, h]; simp
theorem flat_get {C : List (List Nat)} {i : Nat} {c : List Nat} (h : C[i]? = some c) : ∃ D, C.flatten = (C.take i).flatten ++ (c ++ D) := by
  refine ⟨(C.drop (i + 1)).flatten, ?_⟩
  have := List.take_append_drop (i + 1) C
  conv => lhs; rw [← this]
  rw [List.flatten_append, take_flat h, List.append_assoc]
structure OrS where
  ao : Option Addr
  cap : Nat
  i : Nat
set_option maxHeartbeats 4000000 in
theorem callsOrder_does (ao : Option Addr) (cap : Nat) (e : List (List Int)) (_ : ∀ x ∈ e, ∀ y ∈ x, I64 y) : Does Try.prog 5 [.slice ao e.length cap] [Sl (Ty.slice Ty.int) ao cap e] [] (fun _ : Unit => .bool true) (fun _ => []) (fun _ => []) := by
  refine enter Try.func5 rfl Try.ntmps5 rfl fun b => ?_
  refine GX.wR ?_; intros
  refine GX.o (cl (great17_spec ao cap e) fun _ => ?_)
  by_cases hg : Fit17 e
  · have hg' := Classical.not_not.2 hg
    have hf := hg.few.prog
    refine GX.wR ?_; intros
    refine GX.o (cl (program_spec ao cap e hg.few) fun s => ?_)
    refine GX.wR ?_; intros
    refine GX.nmP 3 ?_; rintro b3 rfl
    refine frzB b3 ?_
    refine GX.wR ?_; intros
    refine GX.o (cl (comps_spec _ (cProg e) hf) fun s => ?_)
    obtain ⟨aC, cC⟩ := s
    dsimp only
    have hord := ordered (gr_kids (cProg e))
    have hgl : (gr (cProg e)).length = e.length := by rw [gr_len]; show (e.map cCode).length = _; rw [List.length_map]
    have hel : (edges (cProg e)).length = e.length := by rw [edges_len]; show (e.map cCode).length = _; rw [List.length_map]
    have hgz := gr_zs (cProg e)
    obtain ⟨E, hE⟩ : ∃ E, E = gr (cProg e) := ⟨_, rfl⟩
    rw [← hE] at hord hgl hgz ⊢
    obtain ⟨C, hC⟩ : ∃ C, C = comps0 E := ⟨_, rfl⟩
    rw [← hC] at hord ⊢
    obtain ⟨n, hn⟩ : ∃ n, n = e.length := ⟨_, rfl⟩
    rw [← hn] at hgl hel
    have hn20 : n ≤ 20 := by have := hg.1; omega
    have hlenC := hord.len
    have hCm : (C.map zs).length = C.length := List.length_map ..
    have hCle : C.length ≤ 20 := by have := hord.le; omega
    refine GX.wR ?_; intros
    refine ownNil 3 Ty.int ?_
    refine GX.loop (σ := OrS) (fun q => [(0, .slice ao e.length cap), (3, .pointer (some ⟨b3, 0, none⟩)), (4, .slice aC (C.map zs).length cC), (5, .slice q.ao (zs (C.take q.i).flatten).length q.cap), (6, .int .i64 (q.i : Int))]) (fun _ => [])
      (fun q => [GX.Own 3 Ty.int q.ao q.cap (zs (C.take q.i).flatten)]) (fun q => q.i ≤ C.length) (fun q => C.length - q.i) ⟨none, 0, 0⟩ ⟨rfl, rfl, rfl, rfl, rfl, trivial⟩ (Nat.zero_le _) (fun q hi => ?_)
    obtain ⟨ah, ch, i⟩ := q
    dsimp only at *
    by_cases hlt : i < C.length
    · obtain ⟨c, hc⟩ := get_lt hlt
      have hcz : (C.map zs)[i]? = some (zs c) := by rw [List.getElem?_map, hc]; rfl
      have hcm := List.mem_of_getElem? hc
      obtain ⟨f0, hf0, hcs⟩ := hord.each c hcm
      have hcl : c.length ≤ 20 := by have := scc_len E f0; rw [← hcs] at this; omega
      have hzl := zs_len c
      obtain ⟨D, hD⟩ := flat_get hc
      have hnd := hord.nodup
      rw [hD] at hnd
      have hrise : Rise (zs c) := by rw [hcs]; exact scc_rise E f0
      have hfl : (C.take i).flatten.length + c.length ≤ n := by
        have := congrArg List.length hD
        rw [List.length_append, List.length_append] at this; omega
      refine GX.wR ?_; intros
      rw [show (C.take i).flatten = (C.take i).flatten ++ c.take 0 by simp]
      refine GX.loop (σ := OrS) (fun q => [(0, .slice ao e.length cap), (3, .pointer (some ⟨b3, 0, none⟩)), (4, .slice aC (C.map zs).length cC), (5, .slice q.ao (zs ((C.take i).flatten ++ c.take q.i)).length q.cap), (6, .int .i64 (i : Int)), (7, .int .i64 (q.i : Int))]) (fun _ => [])
        (fun q => [GX.Own 3 Ty.int q.ao q.cap (zs ((C.take i).flatten ++ c.take q.i))]) (fun q => q.i ≤ c.length) (fun q => c.length - q.i) ⟨ah, ch, 0⟩ ⟨rfl, rfl, rfl, rfl, rfl, rfl, trivial⟩ (Nat.zero_le _) (fun q hk => ?_)
      obtain ⟨ah2, ch2, k⟩ := q
      dsimp only at *
      by_cases hkl : k < c.length
      · obtain ⟨y, hy⟩ := get_lt hkl
        have hyz := zs_get hy
        have hym := List.mem_of_getElem? hy
        have hyn : y < n := by
          have := (hord.all y).1 (List.mem_flatten.2 ⟨c, hcm, hym⟩); omega
        have htk : c.take (k + 1) = c.take k ++ [y] := by rw [List.take_add_one, hy]; rfl
        have hnot : (y : Int) ∉ zs ((C.take i).flatten ++ c.take k) := fun h => by
          have h2 := zs_mem.1 h
          have h3 : c = c.take k ++ (y :: c.drop (k + 1)) := by
            conv => lhs; rw [← List.take_append_drop k c]
            rw [List.drop_eq_getElem_cons hkl, (List.getElem?_eq_some_iff.1 hy).2]
          rw [h3, List.append_assoc, ← List.append_assoc] at hnd
          exact (List.nodup_append.1 hnd).2.2 y h2 y (by simp) rfl
        have hml : (zs ((C.take i).flatten ++ c.take k)).length ≤ 1000 := by rw [zs_len, List.length_append, List.length_take]; omega
        have happ : zs ((C.take i).flatten ++ c.take k) ++ [(y : Int)] = zs ((C.take i).flatten ++ c.take (k + 1)) := by rw [htk, ← List.append_assoc, zs_app ((C.take i).flatten ++ c.take k), zs_one]
        refine GX.wR ?_; intros
        refine GX.o (cl ((in_spec ah2 ch2 (zs ((C.take i).flatten ++ c.take k)) (y : Int)).lend (t := 3)) fun _ => ?_)
        by_cases hk0 : k = 0
        · refine GX.wR ?_; intros
          refine GX.nmS 72 ?_; rintro a7 c7 rfl rfl
          rw [happ]
          exact again ⟨a7, c7, k + 1⟩ ⟨rfl, rfl, rfl, rfl, rfl, rfl, trivial⟩ (by dsimp only; omega) (by dsimp only; omega)
        · obtain ⟨k', rfl⟩ : ∃ k', k = k' + 1 := ⟨k - 1, by omega⟩
          obtain ⟨y', hy'⟩ := get_lt (xs := c) (i := k') (by omega)
          have hyz' := zs_get hy'
          have hlt2 : y' < y := by
            have h1 := List.pairwise_iff_getElem.1 hrise k' (k' + 1) (by omega) (by omega) (by omega)
            have e1 := (List.getElem?_eq_some_iff.1 hyz').2
            have e2 := (List.getElem?_eq_some_iff.1 hyz).2
            rw [e1, e2] at h1; omega
          refine GX.wR ?_; intros
          refine GX.nmS 72 ?_; rintro a7 c7 rfl rfl
          rw [happ]
          exact again ⟨a7, c7, k' + 1 + 1⟩ ⟨rfl, rfl, rfl, rfl, rfl, rfl, trivial⟩ (by dsimp only; omega) (by dsimp only; omega)
      · rw [List.take_of_length_le (show c.length ≤ k by omega)]
        have htf := take_flat hc
        rw [← htf]
        have hpref := hord.pref (i + 1)
        refine GX.wR ?_; intros
        refine GX.loop (σ := OrS) (fun q => [(0, .slice ao e.length cap), (3, .pointer (some ⟨b3, 0, none⟩)), (4, .slice aC (C.map zs).length cC), (5, .slice ah2 (zs (C.take (i + 1)).flatten).length ch2), (6, .int .i64 (i : Int)), (9, .int .i64 (q.i : Int))]) (fun _ => [])
          (fun q => [GX.Own 3 Ty.int ah2 ch2 (zs (C.take (i + 1)).flatten)]) (fun q => q.i ≤ c.length) (fun q => c.length - q.i) ⟨none, 0, 0⟩ ⟨rfl, rfl, rfl, rfl, rfl, rfl, trivial⟩ (Nat.zero_le _) (fun q hj => ?_)
        obtain ⟨_, _, j⟩ := q
        dsimp only at *
        by_cases hjl : j < c.length
        · obtain ⟨y, hy⟩ := get_lt hjl
          have hyz := zs_get hy
          have hym := List.mem_of_getElem? hy
          have hyn : y < n := by
            have := (hord.all y).1 (List.mem_flatten.2 ⟨c, hcm, hym⟩); omega
          have hkg := kids_get (f := y) (e := E) (by omega)
          have hyin : y ∈ (C.take (i + 1)).flatten := by rw [htf]; simp [hym]
          refine GX.wR ?_; intros
          refine GX.drawn0  (fun j => !(List.contains [9, 10, 11] j)) [(0, true), (2, true), (3, true), (4, true), (5, true), (6, true), (7, true), (8, true), (1, false), (9, false), (10, false), (11, false)] rfl (by kernel_rfl) (by kernel_rfl) (by first | ((repeat (first | apply Go.GX.SelR.nil | apply Go.GX.SelR.cons | (with_reducible apply Go.GX.TakeR.head) | apply Go.GX.TakeR.tail)); done) | (repeat (first | apply Go.GX.SelR.nil | apply Go.GX.SelR.cons | apply Go.GX.TakeR.head | apply Go.GX.TakeR.tail))) ?_; intro wd F hW hR
          refine GX.wT ?_; intros
          refine GX.gow ?_
          refine (cl (redges_spec _ (cProg e) hf) fun s => ?_)
          obtain ⟨aE, cE⟩ := s
          dsimp only
          rw [← hgz]
          refine GX.wT ?_; intros
          refine GX.wR ?_; intros
          refine GX.nmS 10 ?_; rintro aK cK rfl rfl
          have hkz := zs_len (kids E y)
          refine GX.loop (σ := Nat) (fun m => [(0, .slice ao e.length cap), (3, .pointer (some ⟨b3, 0, none⟩)), (4, .slice aC (C.map zs).length cC), (5, .slice ah2 (zs (C.take (i + 1)).flatten).length ch2), (6, .int .i64 (i : Int)), (9, .int .i64 (j : Int)), (10, .slice aK (zs (kids E y)).length cK), (11, .int .i64 (m : Int))]) (fun _ => [])
            (fun _ => [GX.Own 3 Ty.int ah2 ch2 (zs (C.take (i + 1)).flatten)]) (fun m => m ≤ (kids E y).length) (fun m => (kids E y).length - m) 0 ⟨rfl, rfl, rfl, rfl, rfl, rfl, rfl, rfl, trivial⟩ (Nat.zero_le _) (fun m hm => ?_)
          by_cases hml : m < (kids E y).length
          · obtain ⟨z, hz⟩ := get_lt hml
            have hzz := zs_get hz
            have hzin := zs_mem.2 (hpref y hyin z (List.mem_of_getElem? hz))
            have hzin' := Classical.not_not.2 hzin
            refine GX.wR ?_; intros
            refine GX.o (cl ((in_spec ah2 ch2 (zs (C.take (i + 1)).flatten) (z : Int)).lend (t := 3)) fun _ => ?_)
            refine GX.wR ?_; intros
            exact again (m + 1) ⟨rfl, rfl, rfl, rfl, rfl, rfl, rfl, rfl, trivial⟩ (by omega) (by omega)
          · refine GX.wR ?_; intros
            exact again ⟨none, 0, j + 1⟩ ⟨rfl, rfl, rfl, rfl, rfl, rfl, trivial⟩ (by dsimp only; omega) (by dsimp only; omega)
        · refine GX.wR ?_; intros
          exact again ⟨ah2, ch2, i + 1⟩ ⟨rfl, rfl, rfl, rfl, rfl, trivial⟩ (by dsimp only; omega) (by dsimp only; omega)
    · rw [List.take_of_length_le (show C.length ≤ i by omega)]
      have hzf : (zs C.flatten).length = n := by rw [zs_len]; omega
      refine GX.wR ?_; intros
      refine GX.o (cl known17_spec fun _ => ?_)
      refine GX.wR ?_; intros
      exact rt1 () rfl
  · refine GX.wR ?_; intros
    exact rt1 () rfl
theorem callsOrder_own : ownKnob Try.prog.godebug = none := by kernel_rfl
theorem callsOrder_laidOut : laidOutB Try.prog = true := by kernel_rfl
set_option maxRecDepth 100000 in
theorem callsOrder_lifted (os : Os) (started : os.Started) (H : Type) (enc : TypeId × Value → H) :
    ReturnsInHanded {} Try.checked os 5 .any (Rows.callsOrderSpec.pre6 enc Try.prog Try.f5 Rows.callsOrderRow.domain false) (Rows.callsOrderSpec.post enc Try.prog Try.f5 false true false false) := by
  refine returnsInHanded_of_change (C := Try.checked) callsOrder_own started (by kernel_rfl) Try.func5
    (ChangeSpec.witness6 (enc := enc) (C := Try.checked) false ⟨#[], #[.slice none 0 0], []⟩ 8 (by kernel_rfl) (by kernel_rfl) (by kernel_rfl) (by kernel_rfl)) ?_
  intro W base args ds gs before hval0 hW hcnd _
  have hval : ∀ (j : Nat) t v, Try.f5.params[j]? = some t → args[j]? = some v → Value.okWide Try.prog W .any base t v := hval0
  have hW' := hW
  obtain ⟨p, q, hA0, hV, rfl, hfz, hnd⟩ := hW
  have hA : DataW.TrodAll enc Try.prog W 0 (fun _ => true) true Try.f5.params.toList args.toList ds p := hA0
  rw [Try.params5] at hA hval
  obtain ⟨v0, vs0, d0, ds0, p0, q0, hargs, rfl, rfl, h0, r0⟩ := trodAll_cons hA
  obtain ⟨rfl, rfl, rfl⟩ := trodAll_nil r0
  obtain rfl : args = #[v0] := by cases args; simp_all
  obtain ⟨rfl, rfl⟩ := trodVars_none hV
  have hlt := hW'.lt
  have hl0 : ∀ x ∈ p0, x.block < W.heap.size := fun x hx => hlt x (by simp [hx])
  obtain ⟨s0, n0, c0, rfl⟩ := okWide_slice Try.underlying22 (hval 0 22 v0 rfl rfl)
  obtain ⟨x0, z0, o0⟩ := cv_intss enc W _ _ _ _ _ h0.choose_spec
  obtain ⟨rfl, f0⟩ := sl_in z0
  refine ((callsOrder_does s0 c0 x0 o0).calls W (all_cons f0 all_nil)).mono fun e W' ⟨he, hu⟩ => ?_
  subst he
  have hb := hu.below
  exact ⟨_, rfl, _, _, _, [], _, [], hW', trodAll_cons_mk (shut_bool Try.underlying4 _) trodAll_mk0, (trodAll_cons_mk (hb.trod callsOrder_laidOut (by kernel_rfl) (of_decide_eq_true (by kernel_rfl)) h0 hl0) trodAll_mk0), rfl, hb.frame _, fun h => by cases h⟩
theorem callsOrder_holds : Rows.CallsOrderSaid :=
  OpenClaim.holds_of_wide 5 Try.f5 rfl rfl rfl rfl rfl rfl rfl ⟨rfl, rfl, rfl, rfl, rfl⟩ rfl rfl rfl rfl rfl (by kernel_rfl) Try.func5 (by kernel_rfl)
    (of_decide_eq_true (by kernel_rfl)) (by unfold Func.isWrapper; first | (rw [if_pos (by decide +kernel)]; kernel_rfl) | (rw [if_neg (by decide +kernel)]; exact ⟨rfl, rfl⟩))
    (fun os started H enc _ => callsOrder_lifted os started H enc)
end Go.Proofs.Ytkfbchefealfoaa
