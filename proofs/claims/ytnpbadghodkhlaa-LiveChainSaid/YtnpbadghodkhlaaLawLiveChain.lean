/- LiveChain: for all numbers n the law returns true. No condition. -/
import Derived.Test.YtnpbadghodkhlaaKnown16
import Derived.Test.YtnpbadghodkhlaaApiC
namespace Go.Proofs.Ytnpbadghodkhlaa
open Go Go.RR Go.RX Go.GX Go.Api Go.FlowM Go.RiseM Go.LivM Go.ChangeShapes Go.WideShapes Go.ChangeAt Go.RowKit
attribute [local irreducible] wpList Code.wp wpPlan Exit.then Exit.inBlock bodyPost NoPanic Went GX.Post GX.Again GX.Meet GX.RowR GX.Own GX.Owns GX.Box GX.Sl GX.Pt GX.Ag GX.MapR GX.Kept GX.Pin wpT GoK AtEnd Both
def lcop (n : Nat) : List Ins := (List.range n).map fun i : Nat => (⟨3, (i : Int) + 1, (i : Int), 0, 0, []⟩ : Ins)
theorem lcop_len (n : Nat) : (lcop n).length = n := by simp [lcop]
theorem lcop_succ (i : Nat) : lcop i ++ [(⟨3, (i : Int) + 1, (i : Int), 0, 0, []⟩ : Ins)] = lcop (i + 1) := by unfold lcop; rw [List.range_succ, List.map_append]; rfl
def cN (n : Nat) : Api.Code := ⟨0, [], false, ⟨0, 0, 0⟩, lineI n⟩
theorem line_args (n : Nat) : ArgsOk (lineI n) := fun x hx => by
  rcases List.mem_append.1 hx with hx | hx
  · obtain ⟨i, _, rfl⟩ := List.mem_map.1 hx
    exact Nat.zero_le _
  · simp at hx; subst hx; exact Nat.zero_le _
set_option maxHeartbeats 1000000 in
theorem liveChain_does (n : Int) (_ : -9223372036854775808 ≤ n ∧ n ≤ 9223372036854775807) : Does Try.prog 7 [.int .i64 n] [] [] (fun _ : Unit => .bool true) (fun _ => []) (fun _ => []) := by
  refine enter Try.func7 rfl Try.ntmps7 rfl fun b => ?_
  by_cases h1 : n < 1
  · refine GX.wR ?_; intros
    exact rt1 () rfl
  by_cases h2 : 60 < n
  · refine GX.wR ?_; intros
    exact rt1 () rfl
  obtain ⟨n, rfl⟩ := Int.eq_ofNat_of_zero_le (show 0 ≤ n by omega)
  refine GX.wRA ?_; intros
  refine GX.nmP 3 ?_; rintro b3 rfl
  refine ownNil 35 tyIns ?_
  refine GX.loop (σ := Nat × Option Addr × Nat) (fun s => [(0, .int .i64 (n : Int)), (3, .pointer (some ⟨b3, 0, none⟩)), (4, .int .i64 (s.1 : Int))]) (fun _ => [])
    (fun s => [RowR b3 27 [.int .i64 0, .slice none 0 0, .bool false, .int .i64 0, .int .i64 0, .int .i64 0, .slice s.2.1 (lcop s.1).length s.2.2], Own 35 tyIns s.2.1 s.2.2 (lcop s.1)])
    (fun s => s.1 ≤ n) (fun s => n - s.1) (0, none, 0) ⟨rfl, rfl, rfl, trivial⟩ (by simp) (fun s hs => ?_)
  obtain ⟨i, aI, cI⟩ := s
  dsimp only at *
  have hrl := lcop_len i
  by_cases hlt : i < n
  · have e := lcop_succ i
    refine GX.wR ?_; intros
    rw [e]
    refine GX.nmS 25 ?_; rintro a3 c3 rfl rfl
    refine GX.wR ?_; intros
    exact again (i + 1, a3, c3) ⟨rfl, rfl, rfl, trivial⟩ (by dsimp only; omega) (by dsimp only; omega)
  · have hin : n = i := by omega
    subst hin
    refine GX.wR ?_; intros
    refine GX.nmS 32 ?_; rintro a9 c9 rfl rfl
    refine frz a9 ?_
    have e : lcop n ++ [(⟨18, (n : Int), 0, 0, 0, []⟩ : Ins)] = lineI n := rfl
    rw [e]
    have hll := lineI_len n
    refine agZ 34 (e := tyCode) (cN n) ?_
    refine GX.o (cl (before_spec _ (cN n) (line_args n) (by show (lineI n).length ≤ _; omega)) fun s => ?_)
    obtain ⟨aB, cB⟩ := s
    dsimp only [cN]
    rw [line_before (by omega)]
    obtain ⟨L, hL⟩ : ∃ L : List (List Int), L = (List.range (n + 1)).map fun i : Nat => [(i : Int)] := ⟨_, rfl⟩
    rw [← hL]
    have hLl : L.length = n + 1 := by rw [hL]; simp
    refine GX.wR ?_; intros
    refine GX.loop (σ := Nat) (fun k => [(0, .int .i64 (n : Int)), (5, .slice aB L.length cB), (6, .int .i64 (k : Int))]) (fun _ => []) (fun _ => []) (fun k => k ≤ n + 1) (fun k => n + 1 - k) 0 ⟨rfl, rfl, rfl, trivial⟩ (by omega) (fun k hk => ?_)
    by_cases hkn : k ≤ n
    · have hx : L[k]? = some [(k : Int)] := by rw [hL, List.getElem?_map, List.getElem?_range (by omega)]; rfl
      have hd : decide ([(k : Int)] = [(k : Int)]) = true := decide_eq_true rfl
      refine GX.wR ?_; intros
      refine GX.o (cl (ints_same _ _ _ _ [(k : Int)] [(k : Int)]) fun _ => ?_)
      rw [hd]
      refine GX.wR ?_; intros
      exact again (k + 1) ⟨rfl, rfl, rfl, trivial⟩ (by omega) (by omega)
    · refine GX.wR ?_; intros
      refine GX.o (cl known16_spec fun _ => ?_)
      refine GX.wR ?_; intros
      exact rt1 () rfl

theorem liveChain_own : ownKnob Try.prog.godebug = none := by kernel_rfl
theorem liveChain_laidOut : laidOutB Try.prog = true := by kernel_rfl
set_option maxRecDepth 100000 in
theorem liveChain_lifted (os : Os) (started : os.Started) (H : Type) (enc : TypeId × Value → H) :
    ReturnsInHanded {} Try.checked os 7 .any (Rows.liveChainSpec.pre6 enc Try.prog Try.f7 Rows.liveChainRow.domain false) (Rows.liveChainSpec.post enc Try.prog Try.f7 false true false false) := by
  refine returnsInHanded_of_change (C := Try.checked) liveChain_own started (by kernel_rfl) Try.func7
    (ChangeSpec.witness6 (enc := enc) (C := Try.checked) false ⟨#[], #[.int .i64 0], []⟩ 8 (by kernel_rfl) (by kernel_rfl) (by kernel_rfl) (by kernel_rfl)) ?_
  intro W base args ds gs before hval0 hW hcnd _
  have hval : ∀ (j : Nat) t v, Try.f7.params[j]? = some t → args[j]? = some v → Value.okWide Try.prog W .any base t v := hval0
  have hW' := hW
  obtain ⟨p, q, hA0, hV, rfl, hfz, hnd⟩ := hW
  have hA : DataW.TrodAll enc Try.prog W 0 (fun _ => true) true Try.f7.params.toList args.toList ds p := hA0
  rw [Try.params7] at hA hval
  obtain ⟨v0, vs0, d0, ds0, p0, q0, hargs, rfl, rfl, h0, r0⟩ := trodAll_cons hA
  obtain ⟨rfl, rfl, rfl⟩ := trodAll_nil r0
  obtain rfl : args = #[v0] := by cases args; simp_all
  obtain ⟨rfl, rfl⟩ := trodVars_none hV
  have hlt := hW'.lt
  have hl0 : ∀ x ∈ p0, x.block < W.heap.size := fun x hx => hlt x (by simp [hx])
  obtain ⟨a0, rfl, e0, g0, w0⟩ := open_int Try.underlying3 (hval 0 3 v0 rfl rfl) h0
  have b0 : -9223372036854775808 ≤ a0 ∧ a0 ≤ 9223372036854775807 := wf_i64 w0
  refine ((liveChain_does a0 b0).calls W all_nil).mono fun e W' ⟨he, hu⟩ => ?_
  subst he
  have hb := hu.below
  exact ⟨_, rfl, _, _, _, [], _, [], hW', trodAll_cons_mk (shut_bool Try.underlying4 _) trodAll_mk0, (trodAll_cons_mk (hb.trod liveChain_laidOut (by kernel_rfl) (of_decide_eq_true (by kernel_rfl)) h0 hl0) trodAll_mk0), rfl, hb.frame _, fun h => by cases h⟩
theorem liveChain_holds : Rows.LiveChainSaid :=
  OpenClaim.holds_of_wide 7 Try.f7 rfl rfl rfl rfl rfl rfl rfl ⟨rfl, rfl, rfl, rfl, rfl⟩ rfl rfl rfl rfl rfl (by kernel_rfl) Try.func7 (by kernel_rfl)
    (of_decide_eq_true (by kernel_rfl)) (by unfold Func.isWrapper; first | (rw [if_pos (by decide +kernel)]; kernel_rfl) | (rw [if_neg (by decide +kernel)]; exact ⟨rfl, rfl⟩))
    (fun os started H enc _ => liveChain_lifted os started H enc)
end Go.Proofs.Ytnpbadghodkhlaa
