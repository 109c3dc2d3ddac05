/- Sets of small numbers as words of 64 bits, plainly. No program in sight. -/
import Derived.Test.YtnpbadghodkhlaaNumM
namespace Go.SetM
open Go Go.GX Go.NumM

theorem ofI (z : Nat) : BitVec.ofInt 64 (z : Int) = BitVec.ofNat 64 z := by apply BitVec.eq_of_toNat_eq; simp
theorem orW {a c : Nat} (ha : a < 18446744073709551616) (hc : c < 18446744073709551616) : bOr .u64 (a : Int) (c : Int) = ((a ||| c : Nat) : Int) ∧ a ||| c < 18446744073709551616 := by
  have e : bOr .u64 (a : Int) (c : Int) = IntKind.u64.wrap ((BitVec.ofInt 64 (a : Int) ||| BitVec.ofInt 64 (c : Int)).toNat : Int) := rfl
  have hlt : a ||| c < 2 ^ 64 := Nat.or_lt_two_pow (by omega) (by omega)
  refine ⟨?_, by omega⟩
  rw [e, ofI, ofI, BitVec.toNat_or, BitVec.toNat_ofNat, BitVec.toNat_ofNat, Nat.mod_eq_of_lt (by omega), Nat.mod_eq_of_lt (by omega), wrap_u64_nat (by omega)]
theorem notW {a c : Nat} (ha : a < 18446744073709551616) (hc : c < 18446744073709551616) : ∃ z : Nat, bNot .u64 (a : Int) (c : Int) = (z : Int) ∧ z < 18446744073709551616 ∧ ∀ i, i < 64 → z.testBit i = (a.testBit i && !c.testBit i) := by
  have e : bNot .u64 (a : Int) (c : Int) = IntKind.u64.wrap ((BitVec.ofInt 64 (a : Int) &&& ~~~(BitVec.ofInt 64 (c : Int))).toNat : Int) := rfl
  have hlt := (BitVec.ofNat 64 a &&& ~~~(BitVec.ofNat 64 c)).isLt
  refine ⟨(BitVec.ofNat 64 a &&& ~~~(BitVec.ofNat 64 c)).toNat, ?_, by omega, fun i hi => ?_⟩
  · rw [e, ofI, ofI, wrap_u64_nat (by omega)]
  · rw [BitVec.testBit_toNat, BitVec.getLsbD_and, BitVec.getLsbD_not, BitVec.getLsbD_ofNat, BitVec.getLsbD_ofNat]
    simp [hi]
theorem and1W {z : Nat} (h : z < 18446744073709551616) : bAnd .u64 (z : Int) 1 = ((z % 2 : Nat) : Int) := by
  have e : bAnd .u64 (z : Int) 1 = IntKind.u64.wrap ((BitVec.ofInt 64 (z : Int) &&& BitVec.ofInt 64 ((1 : Nat) : Int)).toNat : Int) := rfl
  rw [e, ofI, ofI, BitVec.toNat_and, BitVec.toNat_ofNat, BitVec.toNat_ofNat, Nat.mod_eq_of_lt (by omega), Nat.mod_eq_of_lt (by omega), Nat.and_one_is_mod, wrap_u64_nat (by omega)]
theorem shlW {i : Nat} (hi : i < 64) : shlV .u64 1 (i : Int) = ((2 ^ i : Nat) : Int) ∧ 2 ^ i < 18446744073709551616 := by
  have hlt : 2 ^ i < 2 ^ 64 := Nat.pow_lt_pow_right (by omega) hi
  have e : min (i : Int).toNat IntKind.u64.bits = i := by rw [Int.toNat_natCast]; exact Nat.min_eq_left (by show i ≤ 64; omega)
  refine ⟨?_, by omega⟩
  unfold shlV
  rw [e]
  have : (1 : Int) * 2 ^ i = ((2 ^ i : Nat) : Int) := by simp
  rw [this, wrap_u64_nat (by omega)]

def GoodS (x : List Int) : Prop := x.length = 63 ∧ ∀ c ∈ x, 0 ≤ c ∧ c < 18446744073709551616
def wd (x : List Int) (j : Nat) : Nat := (x.getD j 0).toNat
def bit (x : List Int) (k : Nat) : Bool := (wd x (k / 64)).testBit (k % 64)
def has (x : List Int) (v : Int) : Prop := 0 ≤ v ∧ v < 4032 ∧ bit x v.toNat = true
theorem GoodS.get {x : List Int} (h : GoodS x) {j : Nat} (hj : j < 63) : x[j]? = some ((wd x j : Nat) : Int) ∧ wd x j < 18446744073709551616 := by
  have hl : j < x.length := by rw [h.1]; exact hj
  have hm := h.2 x[j] (List.getElem_mem hl)
  have e : wd x j = x[j].toNat := by unfold wd; rw [List.getD_eq_getElem?_getD, List.getElem?_eq_getElem hl]; rfl
  rw [e, List.getElem?_eq_getElem hl]
  exact ⟨by rw [Int.toNat_of_nonneg hm.1], by omega⟩
theorem wd_of {x : List Int} {j z : Nat} (h : x[j]? = some ((z : Nat) : Int)) : wd x j = z := by unfold wd; rw [List.getD_eq_getElem?_getD, h]; rfl
theorem has_nat {x : List Int} {k : Nat} (hk : k < 4032) : has x (k : Int) ↔ bit x k = true := ⟨fun h => h.2.2, fun h => ⟨by omega, by omega, h⟩⟩
theorem bit_at {x : List Int} {j i : Nat} (hi : i < 64) : bit x (64 * j + i) = (wd x j).testBit i := by
  unfold bit
  rw [show (64 * j + i) / 64 = j by omega, show (64 * j + i) % 64 = i by omega]
theorem goodS_ext {x y : List Int} (hx : GoodS x) (hy : GoodS y) (h : ∀ v, has x v ↔ has y v) : x = y := by
  refine List.ext_getElem? fun j => ?_
  by_cases hj : j < 63
  · rw [(hx.get hj).1, (hy.get hj).1]
    have : wd x j = wd y j := by
      refine Nat.eq_of_testBit_eq fun i => ?_
      by_cases hi : i < 64
      · have h1 := h ((64 * j + i : Nat) : Int)
        rw [has_nat (by omega), has_nat (by omega), bit_at hi, bit_at hi] at h1
        exact Bool.eq_iff_iff.2 h1
      · rw [Nat.testBit_lt_two_pow (Nat.lt_of_lt_of_le (hx.get hj).2 (Nat.pow_le_pow_right (n := 2) (i := 64) (by omega) (by omega))), Nat.testBit_lt_two_pow (Nat.lt_of_lt_of_le (hy.get hj).2 (Nat.pow_le_pow_right (n := 2) (i := 64) (by omega) (by omega)))]
    rw [this]
  · rw [List.getElem?_eq_none (by rw [hx.1]; omega), List.getElem?_eq_none (by rw [hy.1]; omega)]
def none63 : List Int := List.replicate 63 0
theorem good_none : GoodS none63 := ⟨by decide, fun c hc => by rw [List.eq_of_mem_replicate hc]; omega⟩
theorem has_none (v : Int) : ¬ has none63 v := by
  rintro ⟨h1, h2, h3⟩
  unfold bit at h3
  have : wd none63 (v.toNat / 64) = 0 := by
    unfold wd none63
    rw [List.getD_eq_getElem?_getD, List.getElem?_replicate]
    split <;> rfl
  rw [this] at h3
  simp at h3
/-- One word turned. -/
theorem set_good {x : List Int} (h : GoodS x) {j z : Nat} (hz : z < 18446744073709551616) : GoodS (x.set j (z : Int)) := ⟨by rw [List.length_set]; exact h.1, fun c hc => by
  rcases List.mem_or_eq_of_mem_set hc with hc | rfl
  · exact h.2 c hc
  · omega⟩
theorem wd_set {x : List Int} (h : GoodS x) {j z : Nat} (hj : j < 63) (i : Nat) : wd (x.set j (z : Int)) i = if i = j then z else wd x i := by
  unfold wd
  rw [List.getD_eq_getElem?_getD, List.getD_eq_getElem?_getD]
  split
  · rename_i e; subst e
    rw [List.getElem?_set_self (by rw [h.1]; exact hj)]; rfl
  · rename_i e
    rw [List.getElem?_set_ne (Ne.symm e)]
def addS (x : List Int) (k : Nat) : List Int := x.set (k / 64) (bOr .u64 (wd x (k / 64) : Int) (shlV .u64 1 ((k % 64 : Nat) : Int)))
def dropS (x : List Int) (k : Nat) : List Int := x.set (k / 64) (bNot .u64 (wd x (k / 64) : Int) (shlV .u64 1 ((k % 64 : Nat) : Int)))
theorem addS_spec {x : List Int} (h : GoodS x) {k : Nat} (hk : k < 4032) : GoodS (addS x k) ∧ ∀ v, has (addS x k) v ↔ v = k ∨ has x v := by
  obtain ⟨e1, h1⟩ := shlW (show k % 64 < 64 by omega)
  have hj : k / 64 < 63 := by omega
  obtain ⟨e2, h2⟩ := orW (h.get hj).2 h1
  unfold addS
  rw [e1, e2]
  refine ⟨set_good h h2, fun v => ?_⟩
  unfold has
  by_cases hv : 0 ≤ v ∧ v < 4032
  · obtain ⟨n, rfl⟩ := Int.eq_ofNat_of_zero_le hv.1
    rw [Int.toNat_natCast]
    unfold bit
    rw [wd_set h hj]
    by_cases he : n / 64 = k / 64
    · rw [if_pos he, Nat.testBit_or, Nat.testBit_two_pow, he]
      simp only [Bool.or_eq_true, decide_eq_true_eq]
      constructor
      · rintro ⟨_, _, h5 | h5⟩
        · exact .inr ⟨hv.1, hv.2, h5⟩
        · exact .inl (by omega)
      · rintro (h5 | ⟨_, _, h5⟩)
        · exact ⟨hv.1, hv.2, .inr (by omega)⟩
        · exact ⟨hv.1, hv.2, .inl h5⟩
    · rw [if_neg he]
      constructor
      · exact fun h5 => .inr h5
      · rintro (h5 | h5)
        · exact absurd (show n = k by omega) (fun h6 => he (by rw [h6]))
        · exact h5
  · constructor
    · rintro ⟨h5, h6, _⟩; exact absurd ⟨h5, h6⟩ hv
    · rintro (h5 | ⟨h5, h6, _⟩)
      · omega
      · exact absurd ⟨h5, h6⟩ hv
theorem dropS_spec {x : List Int} (h : GoodS x) {k : Nat} (hk : k < 4032) : GoodS (dropS x k) ∧ ∀ v, has (dropS x k) v ↔ v ≠ k ∧ has x v := by
  obtain ⟨e1, h1⟩ := shlW (show k % 64 < 64 by omega)
  have hj : k / 64 < 63 := by omega
  obtain ⟨z, e2, h2, h3⟩ := notW (h.get hj).2 h1
  unfold dropS
  rw [e1, e2]
  refine ⟨set_good h h2, fun v => ?_⟩
  unfold has
  by_cases hv : 0 ≤ v ∧ v < 4032
  · obtain ⟨n, rfl⟩ := Int.eq_ofNat_of_zero_le hv.1
    rw [Int.toNat_natCast]
    unfold bit
    rw [wd_set h hj]
    by_cases he : n / 64 = k / 64
    · rw [if_pos he, h3 _ (by omega), Nat.testBit_two_pow, he]
      simp only [Bool.and_eq_true, Bool.not_eq_true', decide_eq_false_iff_not]
      constructor
      · rintro ⟨_, _, h5, h6⟩
        exact ⟨fun h7 => h6 (by omega), hv.1, hv.2, h5⟩
      · rintro ⟨h5, _, _, h6⟩
        exact ⟨hv.1, hv.2, h6, fun h7 => h5 (by omega)⟩
    · rw [if_neg he]
      constructor
      · exact fun h5 => ⟨fun h6 => he (by rw [show n = k by omega]), h5⟩
      · exact fun h5 => h5.2
  · constructor
    · rintro ⟨h5, h6, _⟩; exact absurd ⟨h5, h6⟩ hv
    · rintro ⟨_, h5, h6, _⟩; exact absurd ⟨h5, h6⟩ hv
/-- The first i words joined. -/
def mix (x y : List Int) (i : Nat) : List Int := (List.range 63).map fun j => ((if j < i then wd x j ||| wd y j else wd x j : Nat) : Int)
theorem mix_get (x y : List Int) {i j : Nat} (hj : j < 63) : (mix x y i)[j]? = some (((if j < i then wd x j ||| wd y j else wd x j : Nat)) : Int) := by
  unfold mix
  rw [List.getElem?_map, List.getElem?_range hj]; rfl
theorem mix_zero {x y : List Int} (h : GoodS x) : mix x y 0 = x := by
  refine List.ext_getElem? fun j => ?_
  by_cases hj : j < 63
  · rw [mix_get x y hj, (h.get hj).1, if_neg (by omega)]
  · rw [List.getElem?_eq_none (by simp [mix]; omega), List.getElem?_eq_none (by rw [h.1]; omega)]
theorem mix_succ {x y : List Int} (hx : GoodS x) (hy : GoodS y) {i : Nat} (hi : i < 63) : (mix x y i).set i (bOr .u64 (wd x i : Int) (wd y i : Int)) = mix x y (i + 1) := by
  rw [(orW (hx.get hi).2 (hy.get hi).2).1]
  refine List.ext_getElem? fun j => ?_
  by_cases hj : j < 63
  · rw [mix_get x y hj, List.getElem?_set]
    by_cases e : i = j
    · subst e
      rw [if_pos rfl, if_pos (by simp [mix]; exact hi), if_pos (by omega)]
    · rw [if_neg e, mix_get x y hj]
      by_cases h2 : j < i
      · rw [if_pos h2, if_pos (by omega)]
      · rw [if_neg h2, if_neg (by omega)]
  · rw [List.getElem?_eq_none (by simp [mix]; omega), List.getElem?_eq_none (by simp [mix]; omega)]
def orS (x y : List Int) : List Int := mix x y 63
theorem orS_spec {x y : List Int} (hx : GoodS x) (hy : GoodS y) : GoodS (orS x y) ∧ ∀ v, has (orS x y) v ↔ has x v ∨ has y v := by
  have hw : ∀ j, j < 63 → wd (orS x y) j = wd x j ||| wd y j := fun j hj => by
    have := mix_get x y (i := 63) hj
    rw [if_pos hj] at this
    exact wd_of this
  refine ⟨⟨by simp [orS, mix], fun c hc => ?_⟩, fun v => ?_⟩
  · unfold orS mix at hc
    obtain ⟨j, hj, rfl⟩ := List.mem_map.1 hc
    have hj := List.mem_range.1 hj
    rw [if_pos hj]
    have := (orW (hx.get hj).2 (hy.get hj).2).2
    omega
  · unfold has bit
    by_cases hv : 0 ≤ v ∧ v < 4032
    · rw [hw _ (by omega), Nat.testBit_or]
      simp only [Bool.or_eq_true]
      constructor
      · rintro ⟨h1, h2, h3 | h3⟩
        · exact .inl ⟨h1, h2, h3⟩
        · exact .inr ⟨h1, h2, h3⟩
      · rintro (⟨h1, h2, h3⟩ | ⟨h1, h2, h3⟩)
        · exact ⟨h1, h2, .inl h3⟩
        · exact ⟨h1, h2, .inr h3⟩
    · constructor
      · rintro ⟨h5, h6, _⟩; exact absurd ⟨h5, h6⟩ hv
      · rintro (⟨h5, h6, _⟩ | ⟨h5, h6, _⟩) <;> exact absurd ⟨h5, h6⟩ hv
/-- The numbers below k, rising. -/
def lst (x : List Int) (k : Nat) : List Int := ((List.range k).filter fun n => bit x n).map fun n => ((n : Nat) : Int)
theorem lst_succ (x : List Int) (k : Nat) : lst x (k + 1) = if bit x k = true then lst x k ++ [(k : Int)] else lst x k := by
  unfold lst
  rw [List.range_succ, List.filter_append, List.map_append]
  split <;> rename_i h <;> simp [h]
theorem lst_len (x : List Int) (k : Nat) : (lst x k).length ≤ k := by
  unfold lst
  rw [List.length_map]
  exact Nat.le_trans (List.length_filter_le _ _) (by simp)
theorem lst_rise (x : List Int) (k : Nat) : (lst x k).Pairwise (· < ·) := by
  unfold lst
  rw [List.pairwise_map]
  exact (List.pairwise_lt_range.filter _).imp fun h => by omega
theorem lst_mem {x : List Int} {v : Int} : v ∈ lst x 4032 ↔ has x v := by
  unfold lst has
  simp only [List.mem_map, List.mem_filter, List.mem_range]
  constructor
  · rintro ⟨n, ⟨h1, h2⟩, rfl⟩; exact ⟨by omega, by omega, h2⟩
  · rintro ⟨h1, h2, h3⟩; exact ⟨v.toNat, ⟨by omega, h3⟩, by omega⟩
/-- Behind the last bit of a word nothing comes. -/
theorem lst_rest {x : List Int} {j m : Nat} (h : wd x j / 2 ^ m = 0) : ∀ d, m + d ≤ 64 → lst x (64 * j + m + d) = lst x (64 * j + m) := by
  intro d
  induction d with
  | zero => intro _; rfl
  | succ d ih =>
    intro hd
    rw [show 64 * j + m + (d + 1) = (64 * j + m + d) + 1 by omega, lst_succ, if_neg, ih (by omega)]
    rw [show 64 * j + m + d = 64 * j + (m + d) by omega, bit_at (by omega)]
    have h2 : wd x j < 2 ^ m := by
      have := Nat.div_add_mod (wd x j) (2 ^ m)
      rw [h, Nat.mul_zero, Nat.zero_add] at this
      rw [← this]; exact Nat.mod_lt _ (Nat.two_pow_pos _)
    rw [Nat.testBit_lt_two_pow (Nat.lt_of_lt_of_le h2 (Nat.pow_le_pow_right (by omega) (by omega)))]
    simp
theorem word_zero {x : List Int} (h : GoodS x) {j m : Nat} (hj : j < 63) (hm : wd x j / 2 ^ m ≠ 0) : m < 64 := by
  refine Decidable.byContradiction fun h2 => hm (Nat.div_eq_of_lt ?_)
  exact Nat.lt_of_lt_of_le (h.get hj).2 (Nat.pow_le_pow_right (n := 2) (i := 64) (by omega) (by omega))
theorem half (z m : Nat) : z / 2 ^ m / 2 = z / 2 ^ (m + 1) := by rw [Nat.div_div_eq_div_mul, Nat.pow_succ]
theorem low_bit (z m : Nat) : (z / 2 ^ m) % 2 = 1 ↔ z.testBit m = true := by
  rw [Nat.testBit_eq_decide_div_mod_eq]; simp
end Go.SetM
