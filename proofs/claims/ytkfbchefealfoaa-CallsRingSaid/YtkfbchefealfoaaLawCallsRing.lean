/- CallsRing: for all numbers n and cut the law returns true. No condition. -/
import Derived.Test.YtkfbchefealfoaaKnown17
import Derived.Test.YtkfbchefealfoaaMoreM
import Derived.Test.YtkfbchefealfoaaCalO
import Derived.Test.YtkfbchefealfoaaApiC
namespace Go.Proofs.Ytkfbchefealfoaa
open Go Go.RR Go.RX Go.GX Go.Api Go.CalM Go.TarM Go.RiseM Go.ChangeShapes Go.WideShapes Go.ChangeAt Go.RowKit
attribute [local irreducible] wpList Code.wp wpPlan Exit.then Exit.inBlock bodyPost NoPanic Went GX.Post GX.Again GX.Meet GX.RowR GX.Own GX.Owns GX.Box GX.Sl GX.Pt GX.Ag GX.MapR GX.Kept GX.Pin wpT GoK AtEnd Both

theorem ring_get {n i : Nat} (h : i < n) : (ring n)[i]? = some [(((i + 1) % n : Nat) : Int)] := by unfold ring; rw [List.getElem?_map, List.getElem?_range h]; rfl
theorem ring_few {n : Nat} (h : n ≤ 16) : Few (ring n) := by
  refine ⟨by rw [ring_len]; omega, fun l hl => ?_⟩
  obtain ⟨i, _, rfl⟩ := List.mem_map.1 hl
  simp
theorem cut_few {n c : Nat} (h : n ≤ 16) : Few (cut n c) := by
  refine ⟨by rw [cut_len]; omega, fun l hl => ?_⟩
  rcases List.mem_or_eq_of_mem_set hl with h2 | h2
  · exact (ring_few h).2 l h2
  · rw [h2]; simp
structure RiS2 where
  aE : Option Addr
  cE : Nat
  aA : Option Addr
  cA : Nat
  i : Nat
set_option maxHeartbeats 4000000 in
theorem callsRing_does (n : Int) (_ : -9223372036854775808 ≤ n ∧ n ≤ 9223372036854775807) (c : Int) (_ : -9223372036854775808 ≤ c ∧ c ≤ 9223372036854775807) : Does Try.prog 6 [.int .i64 n, .int .i64 c] [] [] (fun _ : Unit => .bool true) (fun _ => []) (fun _ => []) := by
  refine enter Try.func6 rfl Try.ntmps6 rfl fun b => ?_
  by_cases h1 : n < 1
  · refine GX.wR ?_; intros
    exact rt1 () rfl
  by_cases h2 : 16 < n
  · refine GX.wR ?_; intros
    exact rt1 () rfl
  by_cases h3 : c < 0
  · refine GX.wR ?_; intros
    exact rt1 () rfl
  by_cases h4 : n ≤ c
  · refine GX.wR ?_; intros
    exact rt1 () rfl
  obtain ⟨N, rfl⟩ := Int.eq_ofNat_of_zero_le (show 0 ≤ n by omega)
  obtain ⟨K, rfl⟩ := Int.eq_ofNat_of_zero_le (show 0 ≤ c by omega)
  have hN0 : N ≠ 0 := by omega
  have hKN : K < N := by omega
  have hrl := ring_len N
  refine GX.wR ?_; intros
  refine ownNil 34 (Ty.slice Ty.int) ?_
  refine ownNil 3 Ty.int ?_
  refine GX.loop (σ := RiS2) (fun q => [(0, .int .i64 (N : Int)), (1, .int .i64 (K : Int)), (5, .slice q.aE ((ring N).take q.i).length q.cE), (6, .slice q.aA (zs (List.range q.i)).length q.cA), (7, .int .i64 (q.i : Int))]) (fun _ => [])
    (fun q => [GX.Own 34 (Ty.slice Ty.int) q.aE q.cE ((ring N).take q.i), GX.Own 3 Ty.int q.aA q.cA (zs (List.range q.i))]) (fun q => q.i ≤ N) (fun q => N - q.i) ⟨none, 0, none, 0, 0⟩ ⟨rfl, rfl, rfl, rfl, rfl, trivial⟩ (Nat.zero_le _) (fun q hi => ?_)
  obtain ⟨aE, cE, aA, cA, i⟩ := q
  dsimp only at *
  by_cases hlt : i < N
  · have e1 : (ring N).take i ++ [[(((i + 1) % N : Nat) : Int)]] = (ring N).take (i + 1) := by rw [List.take_add_one, ring_get hlt]; rfl
    have e2 : zs (List.range i) ++ [(i : Int)] = zs (List.range (i + 1)) := by rw [List.range_succ, zs_app, zs_one]
    have hl1 : ((ring N).take i).length ≤ 1000 := by rw [List.length_take]; omega
    have hl2 : (zs (List.range i)).length ≤ 1000 := by rw [zs_len, List.length_range]; omega
    refine GX.wR ?_; intros
    rw [e1, e2]
    refine GX.nmS 39 ?_; rintro a39 c39 rfl rfl
    refine GX.nmS 43 ?_; rintro a43 c43 rfl rfl
    exact again ⟨a39, c39, a43, c43, i + 1⟩ ⟨rfl, rfl, rfl, rfl, rfl, trivial⟩ (by dsimp only; omega) (by dsimp only; omega)
  · obtain rfl : N = i := by omega
    rw [List.take_of_length_le (by omega)]
    have hf := ring_few (n := N) (by omega)
    have hf2 := cut_few (n := N) (c := K) (by omega)
    have hcs := cut_comps hKN
    have hring := ring_comps (n := N) (by omega)
    refine GX.opn aE fun _ _ ha => ?_
    obtain ⟨gE, rfl⟩ : ∃ g, aE = some ⟨g, 0, none⟩ := ha.elim (fun h => absurd hrl (by rw [h.1]; simp; omega)) id
    clear ha
    refine frz aA ?_
    refine GX.wR ?_; intros
    refine GX.o (cl (program_own (some ⟨gE, 0, none⟩) cE (ring N) hf) fun s => ?_)
    have hC1 := comps_spec s (cProg (ring N)) hf.prog
    rw [hring] at hC1
    refine GX.wR ?_; intros
    refine GX.o (cl hC1 fun s => ?_)
    obtain ⟨a1, c1⟩ := s
    dsimp only
    have hrg := ring_get hKN
    refine GX.wR ?_; intros
    rw [show (ring N).set K [] = TarM.cut N K from rfl]
    have hP2 := program_own (some ⟨gE, 0, none⟩) cE (TarM.cut N K) hf2
    rw [show (TarM.cut N K).length = (ring N).length by rw [cut_len, ring_len]] at hP2
    refine GX.o (cl hP2 fun s2 => ?_)
    have hC2 := comps_spec s2 (cProg (TarM.cut N K)) hf2.prog
    obtain ⟨C, hC⟩ : ∃ C, C = comps0 (gr (cProg (TarM.cut N K))) := ⟨_, rfl⟩
    rw [← hC] at hcs hC2
    obtain ⟨hCl, hCk⟩ := hcs
    have hCm : (C.map zs).length = N := by rw [List.length_map]; exact hCl
    refine GX.wR ?_; intros
    refine GX.o (cl hC2 fun s => ?_)
    obtain ⟨a2, c2⟩ := s
    dsimp only
    refine GX.wR ?_; intros
    refine GX.nmB 55 ?_; rintro b55 rfl
    refine GX.o (cl (same_spec a1 (some ⟨b55, 0, none⟩) c1 1 ([List.range N].map zs) [zs (List.range N)]) fun _ => ?_)
    rw [decide_eq_true (show [List.range N].map zs = [zs (List.range N)] from rfl)]
    refine GX.wR ?_; intros
    refine GX.loop (σ := Nat) (fun i => [(1, .int .i64 (K : Int)), (9, .slice a2 (C.map zs).length c2), (10, .int .i64 ((K : Int) - (i : Int))), (11, .int .i64 (i : Int))]) (fun _ => []) (fun _ => []) (fun i => i ≤ K + 1) (fun i => K + 1 - i) 0 ⟨rfl, rfl, by rw [show ((K : Int) - ((0 : Nat) : Int)) = (K : Int) by omega]; rfl, rfl, trivial⟩ (by omega) (fun i hi => ?_)
    by_cases hik : i ≤ K
    · have hci : (C.map zs)[i]? = some (zs [K - i]) := by rw [List.getElem?_map, hCk i hik]; rfl
      have hz1 : zs [K - i] = [((K : Int) - (i : Int))] := by rw [zs_one, show ((K - i : Nat) : Int) = (K : Int) - (i : Int) by omega]
      rw [hz1] at hci
      refine GX.wR ?_; intros
      refine GX.nmS 73 ?_; rintro a73 c73 rfl rfl
      refine GX.nmB 75 ?_; rintro b75 rfl
      refine GX.o (cl (ints_same a73 (some ⟨b75, 0, none⟩) c73 1 [((K : Int) - (i : Int))] [((K : Int) - (i : Int))]) fun _ => ?_)
      rw [decide_eq_true rfl]
      refine GX.wR ?_; intros
      rw [show (K : Int) - (i : Int) - 1 = (K : Int) - ((i + 1 : Nat) : Int) by omega]
      exact again (i + 1) ⟨rfl, rfl, rfl, rfl, trivial⟩ (by omega) (by omega)
    · refine GX.wR ?_; intros
      refine GX.o (cl known17_spec fun _ => ?_)
      refine GX.wR ?_; intros
      exact rt1 () rfl
theorem callsRing_own : ownKnob Try.prog.godebug = none := by kernel_rfl
theorem callsRing_laidOut : laidOutB Try.prog = true := by kernel_rfl
set_option maxRecDepth 100000 in
theorem callsRing_lifted (os : Os) (started : os.Started) (H : Type) (enc : TypeId × Value → H) :
    ReturnsInHanded {} Try.checked os 6 .any (Rows.callsRingSpec.pre6 enc Try.prog Try.f6 Rows.callsRingRow.domain false) (Rows.callsRingSpec.post enc Try.prog Try.f6 false true false false) := by
  refine returnsInHanded_of_change (C := Try.checked) callsRing_own started (by kernel_rfl) Try.func6
    (ChangeSpec.witness6 (enc := enc) (C := Try.checked) false ⟨#[], #[.int .i64 0, .int .i64 0], []⟩ 8 (by kernel_rfl) (by kernel_rfl) (by kernel_rfl) (by kernel_rfl)) ?_
  intro W base args ds gs before hval0 hW hcnd _
  have hval : ∀ (j : Nat) t v, Try.f6.params[j]? = some t → args[j]? = some v → Value.okWide Try.prog W .any base t v := hval0
  have hW' := hW
  obtain ⟨p, q, hA0, hV, rfl, hfz, hnd⟩ := hW
  have hA : DataW.TrodAll enc Try.prog W 0 (fun _ => true) true Try.f6.params.toList args.toList ds p := hA0
  rw [Try.params6] at hA hval
  obtain ⟨v0, vs0, d0, ds0, p0, q0, hargs, rfl, rfl, h0, r0⟩ := trodAll_cons hA
  obtain ⟨v1, vs1, d1, ds1, p1, q1, rfl, rfl, rfl, h1, r1⟩ := trodAll_cons r0
  obtain ⟨rfl, rfl, rfl⟩ := trodAll_nil r1
  obtain rfl : args = #[v0, v1] := by cases args; simp_all
  obtain ⟨rfl, rfl⟩ := trodVars_none hV
  have hlt := hW'.lt
  have hl0 : ∀ x ∈ p0, x.block < W.heap.size := fun x hx => hlt x (by simp [hx])
  obtain ⟨a0, rfl, e0, g0, w0⟩ := open_int Try.underlying3 (hval 0 3 v0 rfl rfl) h0
  have b0 : -9223372036854775808 ≤ a0 ∧ a0 ≤ 9223372036854775807 := wf_i64 w0
  have hl1 : ∀ x ∈ p1, x.block < W.heap.size := fun x hx => hlt x (by simp [hx])
  obtain ⟨a1, rfl, e1, g1, w1⟩ := open_int Try.underlying3 (hval 1 3 v1 rfl rfl) h1
  have b1 : -9223372036854775808 ≤ a1 ∧ a1 ≤ 9223372036854775807 := wf_i64 w1
  refine ((callsRing_does a0 b0 a1 b1).calls W all_nil).mono fun e W' ⟨he, hu⟩ => ?_
  subst he
  have hb := hu.below
  exact ⟨_, rfl, _, _, _, [], _, [], hW', trodAll_cons_mk (shut_bool Try.underlying4 _) trodAll_mk0, (trodAll_cons_mk (hb.trod callsRing_laidOut (by kernel_rfl) (of_decide_eq_true (by kernel_rfl)) h0 hl0) (trodAll_cons_mk (hb.trod callsRing_laidOut (by kernel_rfl) (of_decide_eq_true (by kernel_rfl)) h1 hl1) trodAll_mk0)), rfl, hb.frame _, fun h => by cases h⟩
theorem callsRing_holds : Rows.CallsRingSaid :=
  OpenClaim.holds_of_wide 6 Try.f6 rfl rfl rfl rfl rfl rfl rfl ⟨rfl, rfl, rfl, rfl, rfl⟩ rfl rfl rfl rfl rfl (by kernel_rfl) Try.func6 (by kernel_rfl)
    (of_decide_eq_true (by kernel_rfl)) (by unfold Func.isWrapper; first | (rw [if_pos (by decide +kernel)]; kernel_rfl) | (rw [if_neg (by decide +kernel)]; exact ⟨rfl, rfl⟩))
    (fun os started H enc _ => callsRing_lifted os started H enc)
end Go.Proofs.Ytkfbchefealfoaa
