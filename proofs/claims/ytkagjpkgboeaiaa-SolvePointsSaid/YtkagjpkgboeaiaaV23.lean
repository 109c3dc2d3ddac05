import Derived.Test.YtkagjpkgboeaiaaV19
import Derived.Test.YtkagjpkgboeaiaaV22
/- The walks over the reference's may and list. -/
namespace Go.SolM
open Go Go.GX Go.RiseM Go.Api
/-- The true sites of a row. -/
def rowS (r : List Bool) (i : Nat) : List Int := ((List.range i).filter fun s => r.getD s false).map fun s : Nat => (s : Int)
theorem rowS_succ (r : List Bool) (i : Nat) : rowS r (i + 1) = rowS r i ++ (if r.getD i false = true then [(i : Int)] else []) := by
  unfold rowS
  rw [List.range_succ, List.filter_append, List.map_append]
  congr 1
  by_cases h : r.getD i false = true
  · simp only [List.filter_cons, h, if_true, List.filter_nil, List.map_cons, List.map_nil]
  · simp only [List.filter_cons, if_neg h, List.filter_nil, List.map_nil]
theorem rowS_len (r : List Bool) (i : Nat) : (rowS r i).length ≤ i := by
  unfold rowS
  rw [List.length_map]
  have := List.length_filter_le (fun s => r.getD s false) (List.range i)
  rwa [List.length_range] at this
theorem rowS_in {d : Dim} {l : List Con} {n : Nat} {r : List Bool} (hr : r.length = d.S) (h : ∀ s, r.getD s false = true ↔ In d l n s) : rowS r r.length = listOf d l n := by
  unfold rowS listOf
  rw [hr]
  congr 1
  refine List.filter_congr fun s _ => ?_
  by_cases e : In d l n s
  · rw [(h s).2 e]; simp [e]
  · cases hc : r.getD s false
    · simp [e]
    · exact absurd ((h s).1 hc) e
end Go.SolM
namespace Go.Proofs.Ytkagjpkgboeaiaa
open Go Go.RR Go.RX Go.GX Go.Api Go.RiseM Go.SolM
attribute [local irreducible] wpList Code.wp wpPlan Exit.then Exit.inBlock bodyPost NoPanic Went GX.Post GX.Again GX.Meet GX.RowR GX.Own GX.Owns GX.Box GX.Sl GX.Pt GX.Ag GX.MapR GX.Kept GX.Pin wpT GoK AtEnd Both
set_option maxHeartbeats 1000000 in
theorem rmay_spec (cs : List Value) (c : Con) (d : Dim) : Does Try.prog 25 [.int .i64 (d.N : Int), .int .i64 (d.S : Int), .int .i64 (d.W : Int), .agg cs.toArray] [Ag tyCon cs c] [] (fun _ : Unit => .bool (decide (May d c))) (fun _ => []) (fun _ => []) := by
  refine enter Try.func25 rfl Try.ntmps25 rfl fun b => ?_
  by_cases e1 : c.kind = 1
  · have hm : May d c ↔ (0 ≤ c.a ∧ c.a < (d.N : Int)) ∧ (0 ≤ c.b ∧ c.b < (d.S : Int)) := by unfold May; rw [if_pos e1]
    refine GX.wbR ?_; intros
    refine GX.o (cl (rbelow_spec c.a d.N) fun _ => ?_)
    by_cases g1 : 0 ≤ c.a ∧ c.a < (d.N : Int)
    · refine GX.wbR ?_; intros
      refine GX.o (cl (rbelow_spec c.b d.S) fun _ => ?_)
      refine GX.wbR ?_; intros
      exact rt1 () (vI (hm.trans ⟨fun h => h.2, fun h => ⟨g1, h⟩⟩))
    · refine GX.wbR ?_; intros
      exact rt1 () (vN fun h => g1 (hm.1 h).1)
  by_cases e2 : c.kind = 2
  · have hm : May d c ↔ (0 ≤ c.a ∧ c.a < (d.N : Int)) ∧ (0 ≤ c.b ∧ c.b < (d.N : Int)) := by unfold May; rw [if_neg e1, if_pos e2]
    refine GX.wbR ?_; intros
    refine GX.o (cl (rbelow_spec c.a d.N) fun _ => ?_)
    by_cases g1 : 0 ≤ c.a ∧ c.a < (d.N : Int)
    · refine GX.wbR ?_; intros
      refine GX.o (cl (rbelow_spec c.b d.N) fun _ => ?_)
      refine GX.wbR ?_; intros
      exact rt1 () (vI (hm.trans ⟨fun h => h.2, fun h => ⟨g1, h⟩⟩))
    · refine GX.wbR ?_; intros
      exact rt1 () (vN fun h => g1 (hm.1 h).1)
  by_cases e3 : c.kind = 3
  · have hm : May d c ↔ (0 ≤ c.a ∧ c.a < (d.N : Int)) ∧ (0 ≤ c.b ∧ c.b < (d.N : Int)) ∧ (0 ≤ c.f ∧ c.f < (d.W : Int)) := by unfold May; rw [if_neg e1, if_neg e2, if_pos (.inl e3)]
    refine GX.wbR ?_; intros
    refine GX.o (cl (rbelow_spec c.a d.N) fun _ => ?_)
    by_cases g1 : 0 ≤ c.a ∧ c.a < (d.N : Int)
    · refine GX.wbR ?_; intros
      refine GX.o (cl (rbelow_spec c.b d.N) fun _ => ?_)
      by_cases g2 : 0 ≤ c.b ∧ c.b < (d.N : Int)
      · refine GX.wbR ?_; intros
        refine GX.o (cl (rbelow_spec c.f d.W) fun _ => ?_)
        refine GX.wbR ?_; intros
        exact rt1 () (vI (hm.trans ⟨fun h => h.2.2, fun h => ⟨g1, g2, h⟩⟩))
      · refine GX.wbR ?_; intros
        exact rt1 () (vN fun h => g2 (hm.1 h).2.1)
    · refine GX.wbR ?_; intros
      exact rt1 () (vN fun h => g1 (hm.1 h).1)
  by_cases e4 : c.kind = 4
  · have hm : May d c ↔ (0 ≤ c.a ∧ c.a < (d.N : Int)) ∧ (0 ≤ c.b ∧ c.b < (d.N : Int)) ∧ (0 ≤ c.f ∧ c.f < (d.W : Int)) := by unfold May; rw [if_neg e1, if_neg e2, if_pos (.inr e4)]
    refine GX.wbR ?_; intros
    refine GX.o (cl (rbelow_spec c.a d.N) fun _ => ?_)
    by_cases g1 : 0 ≤ c.a ∧ c.a < (d.N : Int)
    · refine GX.wbR ?_; intros
      refine GX.o (cl (rbelow_spec c.b d.N) fun _ => ?_)
      by_cases g2 : 0 ≤ c.b ∧ c.b < (d.N : Int)
      · refine GX.wbR ?_; intros
        refine GX.o (cl (rbelow_spec c.f d.W) fun _ => ?_)
        refine GX.wbR ?_; intros
        exact rt1 () (vI (hm.trans ⟨fun h => h.2.2, fun h => ⟨g1, g2, h⟩⟩))
      · refine GX.wbR ?_; intros
        exact rt1 () (vN fun h => g2 (hm.1 h).2.1)
    · refine GX.wbR ?_; intros
      exact rt1 () (vN fun h => g1 (hm.1 h).1)
  by_cases e5 : c.kind = 5
  · have hm : May d c ↔ (0 ≤ c.a ∧ c.a < (d.S : Int)) ∧ (0 ≤ c.b ∧ c.b < (d.S : Int)) := by unfold May; rw [if_neg e1, if_neg e2, if_neg (by omega), if_pos e5]
    refine GX.wbR ?_; intros
    refine GX.o (cl (rbelow_spec c.a d.N) fun _ => ?_)
    refine GX.wbR ?_; intros
    refine GX.o (cl (rbelow_spec c.a d.S) fun _ => ?_)
    by_cases g1 : 0 ≤ c.a ∧ c.a < (d.S : Int)
    · refine GX.wbR ?_; intros
      refine GX.o (cl (rbelow_spec c.b d.S) fun _ => ?_)
      refine GX.wbR ?_; intros
      exact rt1 () (vI (hm.trans ⟨fun h => h.2, fun h => ⟨g1, h⟩⟩))
    · refine GX.wbR ?_; intros
      exact rt1 () (vN fun h => g1 (hm.1 h).1)
  · refine GX.wbR ?_; intros
    refine GX.o (cl (rbelow_spec c.a d.N) fun _ => ?_)
    refine GX.wbR ?_; intros
    exact rt1 () (vN fun h => by unfold May at h; rw [if_neg e1, if_neg e2, if_neg (by omega), if_neg e5] at h; exact h)
theorem rlist_spec (an : Option Addr) (cn : Nat) (r : List Bool) (hrl : r.length ≤ 100000) : Does Try.prog 27 [.slice an r.length cn] [] [GX.Own 4 Ty.bool an cn r]
    (fun s : Option Addr × Nat => .slice s.1 (rowS r r.length).length s.2) (fun s => [Sl Ty.int s.1 s.2 (rowS r r.length)]) (fun _ => [GX.Own 4 Ty.bool an cn r]) := by
  refine enter Try.func27 rfl Try.ntmps27 rfl fun b => ?_
  refine GX.opn an fun hb1 hb2 ha => ?_
  refine GX.wbR ?_; intros
  refine GX.ownNil 3 Ty.int ?_
  refine GX.loop (σ := Nat × Option Addr × Nat) (fun s => [(0, .slice an r.length cn), (3, .slice s.2.1 (rowS r s.1).length s.2.2), (4, .int .i64 (s.1 : Int))]) (fun _ => []) (fun s => [GX.Own 3 Ty.int s.2.1 s.2.2 (rowS r s.1), GX.Own 4 Ty.bool an cn r])
    (fun s => s.1 ≤ r.length) (fun s => r.length - s.1) (0, none, 0) ⟨rfl, rfl, rfl, trivial⟩ (by simp) (fun s hi => ?_)
  obtain ⟨i, ao, cap⟩ := s
  dsimp only at *
  have hbl := rowS_len r i
  by_cases hlt : i < r.length
  · obtain ⟨y, hy⟩ := get_lt hlt
    have hyd : r.getD i false = y := getD_some hy
    have hb := rowS_succ r i
    rw [hyd] at hb
    obtain ⟨h9, _⟩ | ⟨ga, rfl⟩ := ha
    · rw [h9] at hy; simp at hy
    cases y with
    | true =>
      rw [if_pos rfl] at hb
      refine GX.wbR ?_; intros
      rw [← hb]
      exact again (i + 1, _, _) ⟨rfl, rfl, rfl, trivial⟩ (by dsimp only; omega) (by dsimp only; omega)
    | false =>
      rw [if_neg (by simp), List.append_nil] at hb
      refine GX.wbR ?_; intros
      rw [← hb]
      exact again (i + 1, ao, cap) ⟨rfl, rfl, rfl, trivial⟩ (by dsimp only; omega) (by dsimp only; omega)
  obtain rfl : i = r.length := by omega
  refine frz ao ?_
  refine GX.wbR ?_; intros
  exact rt1 (ao, cap) rfl
end Go.Proofs.Ytkagjpkgboeaiaa

/- How the reference's sets are made, plainly; and its rounds. -/
namespace Go.Proofs.Ytkagjpkgboeaiaa
open Go Go.RR Go.RX Go.GX Go.Api Go.RiseM Go.SolM
/-- The nodes' sets, as many as there are by now. -/
structure MkN (d : Dim) (i : Nat) (L : BL) : Prop where
  len : L.length = i
  z : ∀ q ∈ L, q.2.2 = List.replicate d.S false
theorem MkN.zero (d : Dim) : MkN d 0 [] := ⟨rfl, by simp⟩
theorem MkN.push {d : Dim} {i : Nat} {L : BL} (h : MkN d i L) (a : Option Addr) (c : Nat) : MkN d (i + 1) (L ++ [(a, c, List.replicate d.S false)]) :=
  ⟨by rw [List.length_append, h.len]; rfl, fun q hq => by
    rcases List.mem_append.1 hq with hq | hq
    · exact h.z q hq
    · rw [List.mem_singleton.1 hq]⟩
/-- The fields' sets. -/
structure MkF (d : Dim) (i k : Nat) (L : BL) (H : List HD) (FH : List (List HD)) (row : List HD) : Prop where
  len : L.length = d.N + i * d.W + k
  z : ∀ q ∈ L, q.2.2 = List.replicate d.S false
  n : H.length = d.N
  hn : ∀ j, j < d.N → ∀ q, L[j]? = some q → H[j]? = some (GX.hd q)
  s : FH.length = i
  w : ∀ r ∈ FH, r.length = d.W
  hf : ∀ s f, s < i → f < d.W → ∀ r q, FH[s]? = some r → L[d.fld s f]? = some q → r[f]? = some (GX.hd q)
  rl : row.length = k
  hr : ∀ f, f < k → ∀ q, L[d.fld i f]? = some q → row[f]? = some (GX.hd q)
theorem MkN.start {d : Dim} {L : BL} (h : MkN d d.N L) : MkF d 0 0 L (L.map GX.hd) [] [] :=
  ⟨by rw [h.len]; omega, h.z, by rw [List.length_map, h.len], fun j _ q hq => by rw [List.getElem?_map, hq]; rfl, rfl, by simp, fun s f hs => absurd hs (by omega), rfl, fun f hf => absurd hf (by omega)⟩
theorem MkF.push {d : Dim} {i k : Nat} {L : BL} {H : List HD} {FH : List (List HD)} {row : List HD} (h : MkF d i k L H FH row) (a : Option Addr) (c : Nat) :
    MkF d i (k + 1) (L ++ [(a, c, List.replicate d.S false)]) H FH (row ++ [(a, d.S, c)]) := by
  have hl := h.len
  have hlt : ∀ j, j < d.N + i * d.W + k → (L ++ [(a, c, List.replicate d.S false)])[j]? = L[j]? := fun j hj => List.getElem?_append_left (by omega)
  have hfl : ∀ s f, s < i → f < d.W → d.fld s f < d.N + i * d.W + k := fun s f hs hf => by
    have : (s + 1) * d.W ≤ i * d.W := Nat.mul_le_mul_right _ hs
    unfold Dim.fld
    rw [Nat.add_mul] at this
    omega
  refine ⟨by rw [List.length_append, hl]; simp only [List.length_cons, List.length_nil]; omega, fun q hq => ?_, h.n, fun j hj q hq => h.hn j hj q (by rw [← hlt j (by omega)]; exact hq), h.s, h.w,
    fun s f hs hf r q hr hq => h.hf s f hs hf r q hr (by rw [← hlt _ (hfl s f hs hf)]; exact hq), by rw [List.length_append, h.rl]; rfl, fun f hf q hq => ?_⟩
  · rcases List.mem_append.1 hq with hq | hq
    · exact h.z q hq
    · rw [List.mem_singleton.1 hq]
  · by_cases e : f < k
    · rw [hlt _ (by unfold Dim.fld; omega)] at hq
      rw [List.getElem?_append_left (by rw [h.rl]; exact e)]
      exact h.hr f e q hq
    · obtain rfl : f = k := by omega
      have e1 : d.fld i f = L.length := by rw [hl]; rfl
      rw [e1, List.getElem?_append_right (Nat.le_refl _)] at hq
      simp only [Nat.sub_self, List.getElem?_cons_zero, Option.some.injEq] at hq
      subst hq
      rw [List.getElem?_append_right (by rw [h.rl]; omega), h.rl]
      simp [GX.hd]
theorem MkF.next {d : Dim} {i : Nat} {L : BL} {H : List HD} {FH : List (List HD)} {row : List HD} (h : MkF d i d.W L H FH row) : MkF d (i + 1) 0 L H (FH ++ [row]) [] := by
  refine ⟨by rw [h.len, Nat.add_mul]; omega, h.z, h.n, h.hn, by rw [List.length_append, h.s]; rfl, fun r hr => ?_, fun s f hs hf r q hr hq => ?_, rfl, fun f hf => absurd hf (by omega)⟩
  · rcases List.mem_append.1 hr with hr | hr
    · exact h.w r hr
    · rw [List.mem_singleton.1 hr]; exact h.rl
  · by_cases e : s < i
    · rw [List.getElem?_append_left (by rw [h.s]; exact e)] at hr
      exact h.hf s f e hf r q hr hq
    · obtain rfl : s = i := by omega
      rw [List.getElem?_append_right (by rw [h.s]; omega), h.s] at hr
      simp at hr
      subst hr
      exact h.hr f hf q hq
theorem MkF.done {d : Dim} {L : BL} {H : List HD} {FH : List (List HD)} {row : List HD} (h : MkF d d.S 0 L H FH row) : Heads d L H FH ∧ BShape d (bitsL L) := by
  refine ⟨⟨h.n, h.s, h.w, h.hn, h.hf⟩, ?_, fun r hr => ?_⟩
  · unfold bitsL; rw [List.length_map, h.len]; rfl
  · unfold bitsL at hr
    obtain ⟨q, hq, rfl⟩ := List.mem_map.1 hr
    rw [h.z q hq, List.length_replicate]
theorem bits0 {L : BL} {m : Nat} (hz : ∀ q ∈ L, q.2.2 = List.replicate m false) (n s : Nat) : ¬ XB (bitsL L) n s := by
  unfold XB
  intro h
  rcases hq : (bitsL L)[n]? with _ | r
  · unfold bitB at h
    rw [List.getD_eq_getElem?_getD (l := bitsL L), hq] at h
    simp at h
  · rw [bitB_some hq] at h
    have hm := List.mem_of_getElem? hq
    unfold bitsL at hm
    obtain ⟨q, hq2, rfl⟩ := List.mem_map.1 hm
    rw [hz q hq2, List.getD_eq_getElem?_getD, List.getElem?_replicate] at h
    split at h <;> simp at h
/-- How much is left to be marked. -/
def left (d : Dim) (L : BL) (t : Bool) : Nat := if t = true then d.M * d.S - cntB (bitsL L) + 1 else 0
theorem left_less {d : Dim} {l : List Con} {L L' : BL} {t' : Bool} (h : StepB d l (bitsL L) false (bitsL L') t') : left d L' t' < left d L true := by
  unfold left
  rw [if_pos rfl]
  by_cases e : t' = true
  · rw [if_pos e]
    rcases h.more e with h1 | h1
    · cases h1
    · have := cnt_le h.shape
      omega
  · rw [if_neg e]; omega
end Go.Proofs.Ytkagjpkgboeaiaa

/- The walk over the reference's Points. -/
namespace Go.Proofs.Ytkagjpkgboeaiaa
open Go Go.RR Go.RX Go.GX Go.Api Go.RiseM Go.SolM
attribute [local irreducible] wpList Code.wp wpPlan Exit.then Exit.inBlock bodyPost NoPanic Went GX.Post GX.Again GX.Meet GX.RowR GX.Own GX.Owns GX.Box GX.Sl GX.Pt GX.Ag GX.MapR GX.Kept GX.Pin wpT GoK AtEnd Both
local instance (priority := 2000) uB1 : UTy Try.prog 50 Ty.hdr (none, 0, 0) (.slice none 0 0) := ⟨Try.zeroValue50, fun _ _ => hdr_rd⟩
local instance (priority := 2000) uB2 : UTy Try.prog 61 (Ty.slice Ty.hdr) [] (.slice none 0 0) := ⟨Try.zeroValue61, fun _ _ => nils_rd⟩
set_option maxHeartbeats 8000000 in
theorem rpoints_spec (ao : Option Addr) (cap : Nat) (l : List Con) (N S W : Int) (hln : l.length ≤ 100000) :
    Does Try.prog 9 [.int .i64 N, .int .i64 S, .int .i64 W, .slice ao l.length cap] [Sl tyCon ao cap l] [] (fun s : PtsR N S W l => .tuple #[.agg s.cs.toArray, .int .i64 s.y]) (fun s => [Ag tyPoints s.cs s.p]) (fun _ => []) := by
  refine enter Try.func9 rfl Try.ntmps9 rfl fun b => ?_
  by_cases hN : ¬ (0 ≤ N ∧ N < 70001)
  · by_cases hN1 : N < 0
    · refine GX.wbR ?_; intros
      exact rt2B (fun cs => ⟨cs, ⟨[], []⟩, 5, .inr ⟨fun h => hN h.1.1, rfl, rfl⟩⟩) (fun _ => rfl)
    · have hN2 : N > 70000 := by omega
      refine GX.wbR ?_; intros
      exact rt2B (fun cs => ⟨cs, ⟨[], []⟩, 5, .inr ⟨fun h => hN h.1.1, rfl, rfl⟩⟩) (fun _ => rfl)
  have hN := Classical.not_not.1 hN
  have hN1 : ¬ N < 0 := by omega
  have hN2 : ¬ N > 70000 := by omega
  by_cases hS : ¬ (0 ≤ S ∧ S < 61)
  · by_cases hS1 : S < 0
    · refine GX.wbR ?_; intros
      exact rt2B (fun cs => ⟨cs, ⟨[], []⟩, 5, .inr ⟨fun h => hS h.1.2.1, rfl, rfl⟩⟩) (fun _ => rfl)
    · have hS2 : S > 60 := by omega
      refine GX.wbR ?_; intros
      exact rt2B (fun cs => ⟨cs, ⟨[], []⟩, 5, .inr ⟨fun h => hS h.1.2.1, rfl, rfl⟩⟩) (fun _ => rfl)
  have hS := Classical.not_not.1 hS
  have hS1 : ¬ S < 0 := by omega
  have hS2 : ¬ S > 60 := by omega
  by_cases hW : ¬ (0 ≤ W ∧ W < 9)
  · by_cases hW1 : W < 0
    · refine GX.wbR ?_; intros
      exact rt2B (fun cs => ⟨cs, ⟨[], []⟩, 5, .inr ⟨fun h => hW h.1.2.2, rfl, rfl⟩⟩) (fun _ => rfl)
    · have hW2 : W > 8 := by omega
      refine GX.wbR ?_; intros
      exact rt2B (fun cs => ⟨cs, ⟨[], []⟩, 5, .inr ⟨fun h => hW h.1.2.2, rfl, rfl⟩⟩) (fun _ => rfl)
  have hW := Classical.not_not.1 hW
  have hW1 : ¬ W < 0 := by omega
  have hW2 : ¬ W > 8 := by omega
  obtain ⟨n, rfl⟩ := Int.eq_ofNat_of_zero_le hN.1
  obtain ⟨s, rfl⟩ := Int.eq_ofNat_of_zero_le hS.1
  obtain ⟨w, rfl⟩ := Int.eq_ofNat_of_zero_le hW.1
  obtain ⟨d, hd1, hd2, hd3⟩ : ∃ d : Dim, d.N = n ∧ d.S = s ∧ d.W = w := ⟨⟨n, s, w⟩, rfl, rfl, rfl⟩
  subst hd1; subst hd2; subst hd3
  have hdd : (⟨(d.N : Int).toNat, (d.S : Int).toNat, (d.W : Int).toNat⟩ : Dim) = d := by simp
  have hm : d.S * d.W ≤ 60 * 8 := Nat.mul_le_mul (by omega) (by omega)
  have hM : d.M = d.N + d.S * d.W := rfl
  have hMl : d.M ≤ 100000 := by omega
  refine GX.wbR ?_; intros
  refine GX.nmP 8 ?_; rintro b8 rfl
  refine GX.loop (σ := Nat) (fun i => [(0, .int .i64 (d.N : Int)), (1, .int .i64 (d.S : Int)), (2, .int .i64 (d.W : Int)), (3, .slice ao l.length cap), (8, .pointer (some ⟨b8, 0, none⟩)), (9, .int .i64 0), (10, .int .i64 (i : Int))]) (fun _ => []) (fun _ => [Box 26 tyPoints b8 ⟨[], []⟩])
    (fun i => i ≤ l.length ∧ ∀ c ∈ l.take i, May d c) (fun i => l.length - i) 0 ⟨rfl, rfl, rfl, rfl, rfl, rfl, rfl, trivial⟩ ⟨by omega, by simp⟩ (fun i hi => ?_)
  obtain ⟨hi, hmay⟩ := hi
  by_cases hlt : i < l.length
  · obtain ⟨c, hc⟩ := get_lt hlt
    refine GX.wbR ?_; intros
    refine GX.o (cl (rmay_spec _ c d) fun _ => ?_)
    by_cases hcm : ¬ May d c
    · refine GX.wbR ?_; intros
      exact rt2B (fun cs => ⟨cs, ⟨[], []⟩, 5, .inr ⟨fun h => hcm (by have h := h.2 c (List.mem_of_getElem? hc); rwa [hdd] at h), rfl, rfl⟩⟩) (fun _ => rfl)
    have hcm := Classical.not_not.1 hcm
    refine GX.wbR ?_; intros
    exact again (i + 1) ⟨rfl, rfl, rfl, rfl, rfl, rfl, rfl, trivial⟩ ⟨by omega, take_all_s hmay hc hcm⟩ (by omega)
  rw [List.take_of_length_le (by omega)] at hmay
  refine GX.wbRA ?_; intros
  refine GX.nmP 11 ?_; rintro b11 rfl
  refine GX.ownNil 50 Ty.hdr ?_
  refine GX.osN 4 Ty.bool 0 ?_
  refine GX.loop (σ := Nat × Option Addr × Nat × BL) (fun s => [(0, .int .i64 (d.N : Int)), (1, .int .i64 (d.S : Int)), (2, .int .i64 (d.W : Int)), (3, .slice ao l.length cap), (8, .pointer (some ⟨b8, 0, none⟩)), (9, .int .i64 0), (11, .pointer (some ⟨b11, 0, none⟩)), (12, .int .i64 (s.1 : Int))]) (fun _ => [])
    (fun s => [RowR b11 64 [.slice s.2.1 s.1 s.2.2.1, .slice none 0 0, .bool true], GX.Own 50 Ty.hdr s.2.1 s.2.2.1 (s.2.2.2.map GX.hd), Owns 4 Ty.bool s.2.2.2, Box 26 tyPoints b8 ⟨[], []⟩])
    (fun s => s.1 ≤ d.N ∧ MkN d s.1 s.2.2.2) (fun s => d.N - s.1) (0, none, 0, []) ⟨rfl, rfl, rfl, rfl, rfl, rfl, rfl, rfl, trivial⟩ ⟨by simp, MkN.zero d⟩ (fun s hs => ?_)
  obtain ⟨i, aH, cH, L⟩ := s
  obtain ⟨hi, hk⟩ := hs
  dsimp only at *
  have hLh : (L.map GX.hd).length = i := by rw [List.length_map, hk.len]
  by_cases hlt2 : i < d.N
  · refine GX.wbR ?_; intros
    refine GX.drawn1 (RowR b11 64 [.slice aH i cH, .slice none 0 0, .bool true]) (fun j => !(List.contains [8, 11] j)) [(0, true), (1, true), (2, true), (3, true), (4, true), (5, true), (6, false), (7, false), (8, false), (9, true), (10, true), (11, false)] rfl (by kernel_rfl) (by kernel_rfl) (by first | ((repeat (first | apply Go.GX.SelR.nil | apply Go.GX.SelR.cons | (with_reducible apply Go.GX.TakeR.head) | apply Go.GX.TakeR.tail)); done) | (repeat (first | apply Go.GX.SelR.nil | apply Go.GX.SelR.cons | apply Go.GX.TakeR.head | apply Go.GX.TakeR.tail))) ?_; intro wd F hW hR
    refine GX.wbT ?_; intros
    refine GX.unpin (RowR b11 64 [.slice aH i cH, .slice none 0 0, .bool true]) ?_
    refine GX.wbT ?_; intros
    refine GX.wbR ?_; intros
    refine GX.nmB 74 ?_; rintro x rfl
    refine GX.nmS 76 ?_; rintro a2 c2 rfl rfl
    have e0 : L.map GX.hd ++ [(some (⟨x, 0, none⟩ : Addr), d.S, d.S)] = (L ++ [(some (⟨x, 0, none⟩ : Addr), d.S, List.replicate d.S false)]).map GX.hd := by rw [List.map_append]; simp [GX.hd]
    refine GX.osA (l := L) (ao := some ⟨x, 0, none⟩) (cap := d.S) (xs := List.replicate d.S false) ?_
    rw [show (L.map GX.hd ++ [(some (⟨x, 0, none⟩ : Addr), d.S, d.S)]).length = i + 1 by rw [List.length_append, hLh]; rfl, e0]
    exact again (i + 1, a2, c2, L ++ [(some ⟨x, 0, none⟩, d.S, List.replicate d.S false)]) ⟨rfl, rfl, rfl, rfl, rfl, rfl, rfl, rfl, trivial⟩ ⟨by dsimp only; omega, hk.push _ _⟩ (by dsimp only; omega)
  obtain rfl : i = d.N := by omega
  refine frz aH ?_
  obtain ⟨H, hH⟩ : ∃ H, H = L.map GX.hd := ⟨_, rfl⟩
  have hF0 := hk.start
  rw [← hH] at hF0 hLh ⊢
  clear hH hk
  refine GX.wbR ?_; intros
  refine GX.ownNil 61 (Ty.slice Ty.hdr) ?_
  refine GX.loop (σ := Nat × Option Addr × Nat × BL × List (List HD)) (fun s => [(0, .int .i64 (d.N : Int)), (1, .int .i64 (d.S : Int)), (2, .int .i64 (d.W : Int)), (3, .slice ao l.length cap), (8, .pointer (some ⟨b8, 0, none⟩)), (9, .int .i64 0), (11, .pointer (some ⟨b11, 0, none⟩)), (13, .int .i64 (s.1 : Int))]) (fun _ => [])
    (fun s => [RowR b11 64 [.slice aH d.N cH, .slice s.2.1 s.1 s.2.2.1, .bool true], GX.Own 61 (Ty.slice Ty.hdr) s.2.1 s.2.2.1 s.2.2.2.2, Owns 4 Ty.bool s.2.2.2.1, Box 26 tyPoints b8 ⟨[], []⟩])
    (fun s => s.1 ≤ d.S ∧ MkF d s.1 0 s.2.2.2.1 H s.2.2.2.2 []) (fun s => d.S - s.1) (0, none, 0, L, []) ⟨rfl, rfl, rfl, rfl, rfl, rfl, rfl, rfl, trivial⟩ ⟨by simp, hF0⟩ (fun s hs => ?_)
  clear hF0 L
  obtain ⟨i, aF, cF, L, FH⟩ := s
  obtain ⟨hi, hF⟩ := hs
  dsimp only at *
  have hFs := hF.s
  by_cases hlt3 : i < d.S
  · refine GX.wbR ?_; intros
    refine GX.ownNil 50 Ty.hdr ?_
    refine GX.loop (σ := Nat × Option Addr × Nat × BL × List HD) (fun s => [(0, .int .i64 (d.N : Int)), (1, .int .i64 (d.S : Int)), (2, .int .i64 (d.W : Int)), (3, .slice ao l.length cap), (8, .pointer (some ⟨b8, 0, none⟩)), (9, .int .i64 0), (11, .pointer (some ⟨b11, 0, none⟩)), (13, .int .i64 (i : Int)), (14, .slice s.2.1 s.1 s.2.2.1), (15, .int .i64 (s.1 : Int))]) (fun _ => [])
      (fun s => [RowR b11 64 [.slice aH d.N cH, .slice aF i cF, .bool true], GX.Own 50 Ty.hdr s.2.1 s.2.2.1 s.2.2.2.2, GX.Own 61 (Ty.slice Ty.hdr) aF cF FH, Owns 4 Ty.bool s.2.2.2.1, Box 26 tyPoints b8 ⟨[], []⟩])
      (fun s => s.1 ≤ d.W ∧ MkF d i s.1 s.2.2.2.1 H FH s.2.2.2.2) (fun s => d.W - s.1) (0, none, 0, L, []) ⟨rfl, rfl, rfl, rfl, rfl, rfl, rfl, rfl, rfl, rfl, trivial⟩ ⟨by simp, hF⟩ (fun s hs => ?_)
    clear hF L
    obtain ⟨k, aR, cR, L, row⟩ := s
    obtain ⟨hk, hF⟩ := hs
    dsimp only at *
    have hrl := hF.rl
    by_cases hlt4 : k < d.W
    · refine GX.wbR ?_; intros
      refine GX.nmB 91 ?_; rintro x rfl
      refine GX.nmS 93 ?_; rintro a2 c2 rfl rfl
      refine GX.osA (l := L) (ao := some ⟨x, 0, none⟩) (cap := d.S) (xs := List.replicate d.S false) ?_
      rw [show (row ++ [(some (⟨x, 0, none⟩ : Addr), d.S, d.S)]).length = k + 1 by rw [List.length_append, hrl]; rfl]
      exact again (k + 1, a2, c2, L ++ [(some ⟨x, 0, none⟩, d.S, List.replicate d.S false)], row ++ [(some ⟨x, 0, none⟩, d.S, d.S)]) ⟨rfl, rfl, rfl, rfl, rfl, rfl, rfl, rfl, rfl, rfl, trivial⟩ ⟨by dsimp only; omega, hF.push _ _⟩ (by dsimp only; omega)
    obtain rfl : k = d.W := by omega
    have hil : IsLen d.W row := ⟨hrl.symm⟩
    refine frz aR ?_
    refine GX.wbR ?_; intros
    refine GX.nmS 101 ?_; rintro a2 c2 rfl rfl
    rw [show (FH ++ [row]).length = i + 1 by rw [List.length_append, hFs]; rfl]
    exact again (i + 1, a2, c2, L, FH ++ [row]) ⟨rfl, rfl, rfl, rfl, rfl, rfl, rfl, rfl, trivial⟩ ⟨by dsimp only; omega, hF.next⟩ (by dsimp only; omega)
  obtain rfl : i = d.S := by omega
  refine frz aF ?_
  obtain ⟨hHd, hB⟩ := hF.done
  have hz := hF.z
  have hH := hF.n
  clear hF
  refine GX.wbR ?_; intros
  refine GX.loop (σ := BL × Bool) (fun s => [(0, .int .i64 (d.N : Int)), (1, .int .i64 (d.S : Int)), (2, .int .i64 (d.W : Int)), (3, .slice ao l.length cap), (8, .pointer (some ⟨b8, 0, none⟩)), (9, .int .i64 0), (11, .pointer (some ⟨b11, 0, none⟩))]) (fun _ => []) (fun s => [RowR b11 64 [.slice aH d.N cH, .slice aF d.S cF, .bool s.2], Owns 4 Ty.bool s.1, Box 26 tyPoints b8 ⟨[], []⟩])
    (fun s => s.1.map GX.hd = L.map GX.hd ∧ BShape d (bitsL s.1) ∧ (∀ n s', XB (bitsL s.1) n s' → In d l n s') ∧ (s.2 = false → ∀ c ∈ l, Fit d (XB (bitsL s.1)) c)) (fun s => left d s.1 s.2)
    (L, true) ⟨rfl, rfl, rfl, rfl, rfl, rfl, rfl, trivial⟩ ⟨rfl, hB, fun n s' h => absurd h (bits0 hz n s'), fun h => by simp at h⟩ (fun s hs => ?_)
  obtain ⟨L1, t1⟩ := s
  obtain ⟨hd1, hB1, hs1, hc1⟩ := hs
  dsimp only at *
  have hH1 := hHd.congr hd1
  cases t1 with
  | true =>
    refine GX.wbR ?_; intros
    refine GX.loop (σ := Nat × BL × Bool) (fun s => [(0, .int .i64 (d.N : Int)), (1, .int .i64 (d.S : Int)), (2, .int .i64 (d.W : Int)), (3, .slice ao l.length cap), (8, .pointer (some ⟨b8, 0, none⟩)), (9, .int .i64 0), (11, .pointer (some ⟨b11, 0, none⟩)), (16, .int .i64 (s.1 : Int))]) (fun _ => []) (fun s => [RowR b11 64 [.slice aH d.N cH, .slice aF d.S cF, .bool s.2.2], Owns 4 Ty.bool s.2.1, Box 26 tyPoints b8 ⟨[], []⟩])
      (fun s => s.1 ≤ l.length ∧ s.2.1.map GX.hd = L1.map GX.hd ∧ StepB d l (bitsL L1) false (bitsL s.2.1) s.2.2 ∧ (s.2.2 = false → ∀ c ∈ l.take s.1, Fit d (XB (bitsL L1)) c)) (fun s => l.length - s.1)
      (0, L1, false) ⟨rfl, rfl, rfl, rfl, rfl, rfl, rfl, rfl, trivial⟩ ⟨by simp, rfl, StepB.refl false hB1 hs1, fun _ => by simp⟩ (fun s hs => ?_)
    obtain ⟨i, L2, t2⟩ := s
    obtain ⟨hi, hd2, st2, ft2⟩ := hs
    dsimp only at *
    have hH2 := hH1.congr hd2
    by_cases hlt : i < l.length
    · obtain ⟨c, hc⟩ := get_lt hlt
      refine GX.wbR ?_; intros
      refine GX.o (cl (rdo_spec b11 aH aF cH cF d H FH L2 t2 l _ c hH2 st2.shape st2.snd (List.mem_of_getElem? hc) hmay hMl (by omega)) fun s => ?_)
      obtain ⟨L3, t3, hd3, st3, ft3⟩ := s
      dsimp only
      refine GX.wbR ?_; intros
      refine again (i + 1, L3, t3) ⟨rfl, rfl, rfl, rfl, rfl, rfl, rfl, rfl, trivial⟩ ⟨by dsimp only; omega, hd3.trans hd2, st2.trans st3, fun h => ?_⟩ (by dsimp only; omega)
      have h2 := (st3.same h).1
      have hf := ft3 h
      rw [stepSame st2 h2] at hf
      exact take_all_s (ft2 h2) hc hf
    · have hil : i = l.length := by omega
      subst hil
      refine GX.wbR ?_; intros
      refine again (L2, t2) ⟨rfl, rfl, rfl, rfl, rfl, rfl, rfl, trivial⟩ ⟨hd2.trans hd1, st2.shape, st2.snd, fun h => ?_⟩ (left_less st2)
      have hf := ft2 h
      rw [List.take_of_length_le (Nat.le_refl _)] at hf
      rw [show bitsL (L2, t2).1 = bitsL L1 from stepSame st2 h]
      exact hf
  | false =>
    have hin : ∀ n s', XB (bitsL L1) n s' ↔ In d l n s' := bits_in hs1 (hc1 rfl)
    have hL1 : L1.length = d.M := by have := hB1.len; unfold bitsL at this; rwa [List.length_map] at this
    have hrow : ∀ n q, L1[n]? = some q → q.2.2.length = d.S ∧ rowS q.2.2 q.2.2.length = listOf d l n := fun n q hq => by
      have h1 := hB1.row q.2.2 (List.mem_of_getElem? (bitsL_get hq))
      refine ⟨h1, rowS_in h1 fun s' => ?_⟩
      rw [← hin n s']
      unfold XB
      rw [bitB_some (bitsL_get hq)]
    refine GX.wbRA ?_; intros
    refine GX.nmP 17 ?_; rintro b17 rfl
    refine GX.ownNil 35 (Ty.slice Ty.int) ?_
    refine GX.loop (σ := Nat × Option Addr × Nat) (fun s => [(0, .int .i64 (d.N : Int)), (1, .int .i64 (d.S : Int)), (2, .int .i64 (d.W : Int)), (3, .slice ao l.length cap), (8, .pointer (some ⟨b8, 0, none⟩)), (9, .int .i64 0), (11, .pointer (some ⟨b11, 0, none⟩)), (17, .pointer (some ⟨b17, 0, none⟩)), (18, .int .i64 (s.1 : Int))]) (fun _ => [])
      (fun s => [RowR b11 64 [.slice aH d.N cH, .slice aF d.S cF, .bool false], Owns 4 Ty.bool L1, RowR b17 26 [.slice s.2.1 s.1 s.2.2, .slice none 0 0], GX.Own 35 (Ty.slice Ty.int) s.2.1 s.2.2 ((List.range s.1).map (listOf d l)), Box 26 tyPoints b8 ⟨[], []⟩])
      (fun s => s.1 ≤ d.N) (fun s => d.N - s.1) (0, none, 0) ⟨rfl, rfl, rfl, rfl, rfl, rfl, rfl, rfl, rfl, trivial⟩ (by simp) (fun s hi => ?_)
    obtain ⟨i, aN, cN⟩ := s
    dsimp only at *
    have hxl : ((List.range i).map (listOf d l)).length = i := by simp
    by_cases hlt : i < d.N
    · obtain ⟨q, hq⟩ := get_lt (show i < L1.length by omega)
      have hrq := hrow i q hq
      obtain ⟨an, cn, r⟩ := q
      have hHi : H[i]? = some (an, r.length, cn) := hH1.hn i hlt _ hq
      have hlo := listOf_len d l i
      dsimp only at hrq
      refine GX.osT i ?_ hq
      refine GX.wbR ?_; intros
      refine GX.drawn2 (RowR b11 64 [.slice aH d.N cH, .slice aF d.S cF, .bool false]) (RowR b17 26 [.slice aN i cN, .slice none 0 0]) (fun j => !(List.contains [11, 13] j)) [(0, true), (1, true), (2, true), (3, true), (4, true), (5, true), (6, true), (7, true), (8, true), (9, false), (10, false), (11, false), (12, true), (13, false)] rfl (by kernel_rfl) (by kernel_rfl) (by first | ((repeat (first | apply Go.GX.SelR.nil | apply Go.GX.SelR.cons | (with_reducible apply Go.GX.TakeR.head) | apply Go.GX.TakeR.tail)); done) | (repeat (first | apply Go.GX.SelR.nil | apply Go.GX.SelR.cons | apply Go.GX.TakeR.head | apply Go.GX.TakeR.tail))) ?_; intro wd F hW hR
      refine GX.wbT ?_; intros
      refine GX.gow ?_
      refine (cl (rlist_spec an cn r (by omega)) fun s => ?_)
      obtain ⟨a9, c9⟩ := s
      dsimp only
      rw [hrq.2]
      refine GX.wbT ?_; intros
      refine GX.unpin (RowR b11 64 [.slice aH d.N cH, .slice aF d.S cF, .bool false]) ?_
      refine GX.unpin (RowR b17 26 [.slice aN i cN, .slice none 0 0]) ?_
      refine GX.wbT ?_; intros
      refine GX.wbR ?_; intros
      refine GX.nmS 139 ?_; rintro a2 c2 rfl rfl
      refine GX.osP (l := L1.set i (none, 0, [])) (ao := an) (cap := cn) (xs := r) i ?_ (List.getElem?_set_self (by omega))
      rw [List.set_set, set_sameO hq, show (List.range i).map (listOf d l) ++ [listOf d l i] = (List.range (i + 1)).map (listOf d l) by simp [List.range_succ], show ((List.range (i + 1)).map (listOf d l)).length = i + 1 by simp]
      exact again (i + 1, a2, c2) ⟨rfl, rfl, rfl, rfl, rfl, rfl, rfl, rfl, rfl, trivial⟩ (by dsimp only; omega) (by dsimp only; omega)
    obtain rfl : i = d.N := by omega
    refine frz aN ?_
    refine GX.wbR ?_; intros
    refine GX.ownNil 23 (Ty.slice (Ty.slice Ty.int)) ?_
    refine GX.loop (σ := Nat × Option Addr × Nat) (fun s => [(0, .int .i64 (d.N : Int)), (1, .int .i64 (d.S : Int)), (2, .int .i64 (d.W : Int)), (3, .slice ao l.length cap), (8, .pointer (some ⟨b8, 0, none⟩)), (9, .int .i64 0), (11, .pointer (some ⟨b11, 0, none⟩)), (17, .pointer (some ⟨b17, 0, none⟩)), (19, .int .i64 (s.1 : Int))]) (fun _ => [])
      (fun s => [RowR b11 64 [.slice aH d.N cH, .slice aF d.S cF, .bool false], Owns 4 Ty.bool L1, RowR b17 26 [.slice aN d.N cN, .slice s.2.1 s.1 s.2.2], GX.Own 23 (Ty.slice (Ty.slice Ty.int)) s.2.1 s.2.2 ((List.range s.1).map (fieldsOf d l)), Box 26 tyPoints b8 ⟨[], []⟩])
      (fun s => s.1 ≤ d.S) (fun s => d.S - s.1) (0, none, 0) ⟨rfl, rfl, rfl, rfl, rfl, rfl, rfl, rfl, rfl, trivial⟩ (by simp) (fun s hi => ?_)
    obtain ⟨i, aF2, cF2⟩ := s
    dsimp only at *
    have hxl : ((List.range i).map (fieldsOf d l)).length = i := by simp
    by_cases hlt : i < d.S
    · refine GX.wbR ?_; intros
      refine GX.ownNil 35 (Ty.slice Ty.int) ?_
      refine GX.loop (σ := Nat × Option Addr × Nat) (fun s => [(0, .int .i64 (d.N : Int)), (1, .int .i64 (d.S : Int)), (2, .int .i64 (d.W : Int)), (3, .slice ao l.length cap), (8, .pointer (some ⟨b8, 0, none⟩)), (9, .int .i64 0), (11, .pointer (some ⟨b11, 0, none⟩)), (17, .pointer (some ⟨b17, 0, none⟩)), (19, .int .i64 (i : Int)), (20, .slice s.2.1 s.1 s.2.2), (21, .int .i64 (s.1 : Int))]) (fun _ => [])
        (fun s => [RowR b11 64 [.slice aH d.N cH, .slice aF d.S cF, .bool false], Owns 4 Ty.bool L1, RowR b17 26 [.slice aN d.N cN, .slice aF2 i cF2], GX.Own 35 (Ty.slice Ty.int) s.2.1 s.2.2 ((List.range s.1).map fun f => listOf d l (d.fld i f)), GX.Own 23 (Ty.slice (Ty.slice Ty.int)) aF2 cF2 ((List.range i).map (fieldsOf d l)), Box 26 tyPoints b8 ⟨[], []⟩])
        (fun s => s.1 ≤ d.W) (fun s => d.W - s.1) (0, none, 0) ⟨rfl, rfl, rfl, rfl, rfl, rfl, rfl, rfl, rfl, rfl, rfl, trivial⟩ (by simp) (fun s hk => ?_)
      obtain ⟨k, aR, cR⟩ := s
      dsimp only at *
      have hyl : ((List.range k).map fun f => listOf d l (d.fld i f)).length = k := by simp
      by_cases hlt2 : k < d.W
      · have hfld := Dim.fld_lt hlt hlt2
        obtain ⟨q, hq⟩ := get_lt (show d.fld i k < L1.length by omega)
        have hrq := hrow _ q hq
        obtain ⟨w, hw⟩ := get_lt (show i < FH.length by have := hH1.s; omega)
        have hwl : w.length = d.W := hH1.w w (List.mem_of_getElem? hw)
        obtain ⟨an, cn, r⟩ := q
        have hHi : w[k]? = some (an, r.length, cn) := hH1.hf i k hlt hlt2 _ _ hw hq
        have hlo := listOf_len d l (d.fld i k)
        dsimp only at hrq
        have hFl := hH1.s
        refine GX.osT (d.fld i k) ?_ hq
        refine GX.wbR ?_; intros
        refine GX.o (cl (rlist_spec an cn r (by omega)) fun s => ?_)
        obtain ⟨a9, c9⟩ := s
        dsimp only
        rw [hrq.2]
        refine GX.wbR ?_; intros
        refine GX.nmS 164 ?_; rintro a2 c2 rfl rfl
        refine GX.osP (l := L1.set (d.fld i k) (none, 0, [])) (ao := an) (cap := cn) (xs := r) (d.fld i k) ?_ (List.getElem?_set_self (by omega))
        rw [List.set_set, set_sameO hq, show ((List.range k).map fun f => listOf d l (d.fld i f)) ++ [listOf d l (d.fld i k)] = (List.range (k + 1)).map fun f => listOf d l (d.fld i f) by simp [List.range_succ], show ((List.range (k + 1)).map fun f => listOf d l (d.fld i f)).length = k + 1 by simp]
        exact again (k + 1, a2, c2) ⟨rfl, rfl, rfl, rfl, rfl, rfl, rfl, rfl, rfl, rfl, rfl, trivial⟩ (by dsimp only; omega) (by dsimp only; omega)
      obtain rfl : k = d.W := by omega
      rw [show (List.range d.W).map (fun f => listOf d l (d.fld i f)) = fieldsOf d l i from rfl]
      have hil : IsLen d.W (fieldsOf d l i) := ⟨by unfold fieldsOf; simp⟩
      refine frz aR ?_
      refine GX.wbR ?_; intros
      refine GX.nmS 169 ?_; rintro a2 c2 rfl rfl
      rw [show (List.range i).map (fieldsOf d l) ++ [fieldsOf d l i] = (List.range (i + 1)).map (fieldsOf d l) by simp [List.range_succ], show ((List.range (i + 1)).map (fieldsOf d l)).length = i + 1 by simp]
      exact again (i + 1, a2, c2) ⟨rfl, rfl, rfl, rfl, rfl, rfl, rfl, rfl, rfl, trivial⟩ (by dsimp only; omega) (by dsimp only; omega)
    obtain rfl : i = d.S := by omega
    refine frz aF2 ?_
    have hnl : IsLen d.N ((List.range d.N).map (listOf d l)) := ⟨by simp⟩
    have hsl : IsLen d.S ((List.range d.S).map (fieldsOf d l)) := ⟨by simp⟩
    refine GX.wbRA ?_; intros
    refine rt2B (fun cs => ⟨cs, pts d l, 0, .inl ⟨⟨⟨hN, hS, hW⟩, ?_⟩, rfl, ?_⟩⟩) (fun _ => rfl)
    · rw [hdd]; exact hmay
    · rw [hdd]
end Go.Proofs.Ytkagjpkgboeaiaa
