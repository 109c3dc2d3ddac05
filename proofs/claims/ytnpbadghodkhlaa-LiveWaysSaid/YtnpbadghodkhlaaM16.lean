import Derived.Test.YtnpbadghodkhlaaM8
import Derived.Test.YtnpbadghodkhlaaM10
import Derived.Test.YtnpbadghodkhlaaM12
import Derived.Test.YtnpbadghodkhlaaM14
import Derived.Test.YtnpbadghodkhlaaM15
/- Sets of small numbers as words of 64 bits, plainly. No program in sight. -/
namespace Go.SetM
open Go Go.GX Go.NumM

theorem ofI (z : Nat) : BitVec.ofInt 64 (z : Int) = BitVec.ofNat 64 z := by apply BitVec.eq_of_toNat_eq; simp
theorem orW {a c : Nat} (ha : a < 18446744073709551616) (hc : c < 18446744073709551616) : bOr .u64 (a : Int) (c : Int) = ((a ||| c : Nat) : Int) ∧ a ||| c < 18446744073709551616 := by
  have e : bOr .u64 (a : Int) (c : Int) = IntKind.u64.wrap ((BitVec.ofInt 64 (a : Int) ||| BitVec.ofInt 64 (c : Int)).toNat : Int) := rfl
  have hlt : a ||| c < 2 ^ 64 := Nat.or_lt_two_pow (by omega) (by omega)
  refine ⟨?_, by omega⟩
  rw [e, ofI, ofI, BitVec.toNat_or, BitVec.toNat_ofNat, BitVec.toNat_ofNat, Nat.mod_eq_of_lt (by omega), Nat.mod_eq_of_lt (by omega), wrap_u64_nat (by omega)]
theorem notW {a c : Nat} (ha : a < 18446744073709551616) (hc : c < 18446744073709551616) : ∃ z : Nat, bNot .u64 (a : Int) (c : Int) = (z : Int) ∧ z < 18446744073709551616 ∧ ∀ i, i < 64 → z.testBit i = (a.testBit i && !c.testBit i) := by
  have e : bNot .u64 (a : Int) (c : Int) = IntKind.u64.wrap ((BitVec.ofInt 64 (a : Int) &&& ~~~(BitVec.ofInt 64 (c : Int))).toNat : Int) := rfl
  have hlt := (BitVec.ofNat 64 a &&& ~~~(BitVec.ofNat 64 c)).isLt
  refine ⟨(BitVec.ofNat 64 a &&& ~~~(BitVec.ofNat 64 c)).toNat, ?_, by omega, fun i hi => ?_⟩
  · rw [e, ofI, ofI, wrap_u64_nat (by omega)]
  · rw [BitVec.testBit_toNat, BitVec.getLsbD_and, BitVec.getLsbD_not, BitVec.getLsbD_ofNat, BitVec.getLsbD_ofNat]
    simp [hi]
theorem and1W {z : Nat} (h : z < 18446744073709551616) : bAnd .u64 (z : Int) 1 = ((z % 2 : Nat) : Int) := by
  have e : bAnd .u64 (z : Int) 1 = IntKind.u64.wrap ((BitVec.ofInt 64 (z : Int) &&& BitVec.ofInt 64 ((1 : Nat) : Int)).toNat : Int) := rfl
  rw [e, ofI, ofI, BitVec.toNat_and, BitVec.toNat_ofNat, BitVec.toNat_ofNat, Nat.mod_eq_of_lt (by omega), Nat.mod_eq_of_lt (by omega), Nat.and_one_is_mod, wrap_u64_nat (by omega)]
theorem shlW {i : Nat} (hi : i < 64) : shlV .u64 1 (i : Int) = ((2 ^ i : Nat) : Int) ∧ 2 ^ i < 18446744073709551616 := by
  have hlt : 2 ^ i < 2 ^ 64 := Nat.pow_lt_pow_right (by omega) hi
  have e : min (i : Int).toNat IntKind.u64.bits = i := by rw [Int.toNat_natCast]; exact Nat.min_eq_left (by show i ≤ 64; omega)
  refine ⟨?_, by omega⟩
  unfold shlV
  rw [e]
  have : (1 : Int) * 2 ^ i = ((2 ^ i : Nat) : Int) := by simp
  rw [this, wrap_u64_nat (by omega)]

def GoodS (x : List Int) : Prop := x.length = 63 ∧ ∀ c ∈ x, 0 ≤ c ∧ c < 18446744073709551616
def wd (x : List Int) (j : Nat) : Nat := (x.getD j 0).toNat
def bit (x : List Int) (k : Nat) : Bool := (wd x (k / 64)).testBit (k % 64)
def has (x : List Int) (v : Int) : Prop := 0 ≤ v ∧ v < 4032 ∧ bit x v.toNat = true
theorem GoodS.get {x : List Int} (h : GoodS x) {j : Nat} (hj : j < 63) : x[j]? = some ((wd x j : Nat) : Int) ∧ wd x j < 18446744073709551616 := by
  have hl : j < x.length := by rw [h.1]; exact hj
  have hm := h.2 x[j] (List.getElem_mem hl)
  have e : wd x j = x[j].toNat := by unfold wd; rw [List.getD_eq_getElem?_getD, List.getElem?_eq_getElem hl]; rfl
  rw [e, List.getElem?_eq_getElem hl]
  exact ⟨by rw [Int.toNat_of_nonneg hm.1], by omega⟩
theorem wd_of {x : List Int} {j z : Nat} (h : x[j]? = some ((z : Nat) : Int)) : wd x j = z := by unfold wd; rw [List.getD_eq_getElem?_getD, h]; rfl
theorem has_nat {x : List Int} {k : Nat} (hk : k < 4032) : has x (k : Int) ↔ bit x k = true := ⟨fun h => h.2.2, fun h => ⟨by omega, by omega, h⟩⟩
theorem bit_at {x : List Int} {j i : Nat} (hi : i < 64) : bit x (64 * j + i) = (wd x j).testBit i := by
  unfold bit
  rw [show (64 * j + i) / 64 = j by omega, show (64 * j + i) % 64 = i by omega]
theorem goodS_ext {x y : List Int} (hx : GoodS x) (hy : GoodS y) (h : ∀ v, has x v ↔ has y v) : x = y := by
  refine List.ext_getElem? fun j => ?_
  by_cases hj : j < 63
  · rw [(hx.get hj).1, (hy.get hj).1]
    have : wd x j = wd y j := by
      refine Nat.eq_of_testBit_eq fun i => ?_
      by_cases hi : i < 64
      · have h1 := h ((64 * j + i : Nat) : Int)
        rw [has_nat (by omega), has_nat (by omega), bit_at hi, bit_at hi] at h1
        exact Bool.eq_iff_iff.2 h1
      · rw [Nat.testBit_lt_two_pow (Nat.lt_of_lt_of_le (hx.get hj).2 (Nat.pow_le_pow_right (n := 2) (i := 64) (by omega) (by omega))), Nat.testBit_lt_two_pow (Nat.lt_of_lt_of_le (hy.get hj).2 (Nat.pow_le_pow_right (n := 2) (i := 64) (by omega) (by omega)))]
    rw [this]
  · rw [List.getElem?_eq_none (by rw [hx.1]; omega), List.getElem?_eq_none (by rw [hy.1]; omega)]
def none63 : List Int := List.replicate 63 0
theorem good_none : GoodS none63 := ⟨by decide, fun c hc => by rw [List.eq_of_mem_replicate hc]; omega⟩
theorem has_none (v : Int) : ¬ has none63 v := by
  rintro ⟨h1, h2, h3⟩
  unfold bit at h3
  have : wd none63 (v.toNat / 64) = 0 := by
    unfold wd none63
    rw [List.getD_eq_getElem?_getD, List.getElem?_replicate]
    split <;> rfl
  rw [this] at h3
  simp at h3
/-- One word turned. -/
theorem set_good {x : List Int} (h : GoodS x) {j z : Nat} (hz : z < 18446744073709551616) : GoodS (x.set j (z : Int)) := ⟨by rw [List.length_set]; exact h.1, fun c hc => by
  rcases List.mem_or_eq_of_mem_set hc with hc | rfl
  · exact h.2 c hc
  · omega⟩
theorem wd_set {x : List Int} (h : GoodS x) {j z : Nat} (hj : j < 63) (i : Nat) : wd (x.set j (z : Int)) i = if i = j then z else wd x i := by
  unfold wd
  rw [List.getD_eq_getElem?_getD, List.getD_eq_getElem?_getD]
  split
  · rename_i e; subst e
    rw [List.getElem?_set_self (by rw [h.1]; exact hj)]; rfl
  · rename_i e
    rw [List.getElem?_set_ne (Ne.symm e)]
def addS (x : List Int) (k : Nat) : List Int := x.set (k / 64) (bOr .u64 (wd x (k / 64) : Int) (shlV .u64 1 ((k % 64 : Nat) : Int)))
def dropS (x : List Int) (k : Nat) : List Int := x.set (k / 64) (bNot .u64 (wd x (k / 64) : Int) (shlV .u64 1 ((k % 64 : Nat) : Int)))
theorem addS_spec {x : List Int} (h : GoodS x) {k : Nat} (hk : k < 4032) : GoodS (addS x k) ∧ ∀ v, has (addS x k) v ↔ v = k ∨ has x v := by
  obtain ⟨e1, h1⟩ := shlW (show k % 64 < 64 by omega)
  have hj : k / 64 < 63 := by omega
  obtain ⟨e2, h2⟩ := orW (h.get hj).2 h1
  unfold addS
  rw [e1, e2]
  refine ⟨set_good h h2, fun v => ?_⟩
  unfold has
  by_cases hv : 0 ≤ v ∧ v < 4032
  · obtain ⟨n, rfl⟩ := Int.eq_ofNat_of_zero_le hv.1
    rw [Int.toNat_natCast]
    unfold bit
    rw [wd_set h hj]
    by_cases he : n / 64 = k / 64
    · rw [if_pos he, Nat.testBit_or, Nat.testBit_two_pow, he]
      simp only [Bool.or_eq_true, decide_eq_true_eq]
      constructor
      · rintro ⟨_, _, h5 | h5⟩
        · exact .inr ⟨hv.1, hv.2, h5⟩
        · exact .inl (by omega)
      · rintro (h5 | ⟨_, _, h5⟩)
        · exact ⟨hv.1, hv.2, .inr (by omega)⟩
        · exact ⟨hv.1, hv.2, .inl h5⟩
    · rw [if_neg he]
      constructor
      · exact fun h5 => .inr h5
      · rintro (h5 | h5)
        · exact absurd (show n = k by omega) (fun h6 => he (by rw [h6]))
        · exact h5
  · constructor
    · rintro ⟨h5, h6, _⟩; exact absurd ⟨h5, h6⟩ hv
    · rintro (h5 | ⟨h5, h6, _⟩)
      · omega
      · exact absurd ⟨h5, h6⟩ hv
theorem dropS_spec {x : List Int} (h : GoodS x) {k : Nat} (hk : k < 4032) : GoodS (dropS x k) ∧ ∀ v, has (dropS x k) v ↔ v ≠ k ∧ has x v := by
  obtain ⟨e1, h1⟩ := shlW (show k % 64 < 64 by omega)
  have hj : k / 64 < 63 := by omega
  obtain ⟨z, e2, h2, h3⟩ := notW (h.get hj).2 h1
  unfold dropS
  rw [e1, e2]
  refine ⟨set_good h h2, fun v => ?_⟩
  unfold has
  by_cases hv : 0 ≤ v ∧ v < 4032
  · obtain ⟨n, rfl⟩ := Int.eq_ofNat_of_zero_le hv.1
    rw [Int.toNat_natCast]
    unfold bit
    rw [wd_set h hj]
    by_cases he : n / 64 = k / 64
    · rw [if_pos he, h3 _ (by omega), Nat.testBit_two_pow, he]
      simp only [Bool.and_eq_true, Bool.not_eq_true', decide_eq_false_iff_not]
      constructor
      · rintro ⟨_, _, h5, h6⟩
        exact ⟨fun h7 => h6 (by omega), hv.1, hv.2, h5⟩
      · rintro ⟨h5, _, _, h6⟩
        exact ⟨hv.1, hv.2, h6, fun h7 => h5 (by omega)⟩
    · rw [if_neg he]
      constructor
      · exact fun h5 => ⟨fun h6 => he (by rw [show n = k by omega]), h5⟩
      · exact fun h5 => h5.2
  · constructor
    · rintro ⟨h5, h6, _⟩; exact absurd ⟨h5, h6⟩ hv
    · rintro ⟨_, h5, h6, _⟩; exact absurd ⟨h5, h6⟩ hv
/-- The first i words joined. -/
def mix (x y : List Int) (i : Nat) : List Int := (List.range 63).map fun j => ((if j < i then wd x j ||| wd y j else wd x j : Nat) : Int)
theorem mix_get (x y : List Int) {i j : Nat} (hj : j < 63) : (mix x y i)[j]? = some (((if j < i then wd x j ||| wd y j else wd x j : Nat)) : Int) := by
  unfold mix
  rw [List.getElem?_map, List.getElem?_range hj]; rfl
theorem mix_zero {x y : List Int} (h : GoodS x) : mix x y 0 = x := by
  refine List.ext_getElem? fun j => ?_
  by_cases hj : j < 63
  · rw [mix_get x y hj, (h.get hj).1, if_neg (by omega)]
  · rw [List.getElem?_eq_none (by simp [mix]; omega), List.getElem?_eq_none (by rw [h.1]; omega)]
theorem mix_succ {x y : List Int} (hx : GoodS x) (hy : GoodS y) {i : Nat} (hi : i < 63) : (mix x y i).set i (bOr .u64 (wd x i : Int) (wd y i : Int)) = mix x y (i + 1) := by
  rw [(orW (hx.get hi).2 (hy.get hi).2).1]
  refine List.ext_getElem? fun j => ?_
  by_cases hj : j < 63
  · rw [mix_get x y hj, List.getElem?_set]
    by_cases e : i = j
    · subst e
      rw [if_pos rfl, if_pos (by simp [mix]; exact hi), if_pos (by omega)]
    · rw [if_neg e, mix_get x y hj]
      by_cases h2 : j < i
      · rw [if_pos h2, if_pos (by omega)]
      · rw [if_neg h2, if_neg (by omega)]
  · rw [List.getElem?_eq_none (by simp [mix]; omega), List.getElem?_eq_none (by simp [mix]; omega)]
def orS (x y : List Int) : List Int := mix x y 63
theorem orS_spec {x y : List Int} (hx : GoodS x) (hy : GoodS y) : GoodS (orS x y) ∧ ∀ v, has (orS x y) v ↔ has x v ∨ has y v := by
  have hw : ∀ j, j < 63 → wd (orS x y) j = wd x j ||| wd y j := fun j hj => by
    have := mix_get x y (i := 63) hj
    rw [if_pos hj] at this
    exact wd_of this
  refine ⟨⟨by simp [orS, mix], fun c hc => ?_⟩, fun v => ?_⟩
  · unfold orS mix at hc
    obtain ⟨j, hj, rfl⟩ := List.mem_map.1 hc
    have hj := List.mem_range.1 hj
    rw [if_pos hj]
    have := (orW (hx.get hj).2 (hy.get hj).2).2
    omega
  · unfold has bit
    by_cases hv : 0 ≤ v ∧ v < 4032
    · rw [hw _ (by omega), Nat.testBit_or]
      simp only [Bool.or_eq_true]
      constructor
      · rintro ⟨h1, h2, h3 | h3⟩
        · exact .inl ⟨h1, h2, h3⟩
        · exact .inr ⟨h1, h2, h3⟩
      · rintro (⟨h1, h2, h3⟩ | ⟨h1, h2, h3⟩)
        · exact ⟨h1, h2, .inl h3⟩
        · exact ⟨h1, h2, .inr h3⟩
    · constructor
      · rintro ⟨h5, h6, _⟩; exact absurd ⟨h5, h6⟩ hv
      · rintro (⟨h5, h6, _⟩ | ⟨h5, h6, _⟩) <;> exact absurd ⟨h5, h6⟩ hv
/-- The numbers below k, rising. -/
def lst (x : List Int) (k : Nat) : List Int := ((List.range k).filter fun n => bit x n).map fun n => ((n : Nat) : Int)
theorem lst_succ (x : List Int) (k : Nat) : lst x (k + 1) = if bit x k = true then lst x k ++ [(k : Int)] else lst x k := by
  unfold lst
  rw [List.range_succ, List.filter_append, List.map_append]
  split <;> rename_i h <;> simp [h]
theorem lst_len (x : List Int) (k : Nat) : (lst x k).length ≤ k := by
  unfold lst
  rw [List.length_map]
  exact Nat.le_trans (List.length_filter_le _ _) (by simp)
theorem lst_rise (x : List Int) (k : Nat) : (lst x k).Pairwise (· < ·) := by
  unfold lst
  rw [List.pairwise_map]
  exact (List.pairwise_lt_range.filter _).imp fun h => by omega
theorem lst_mem {x : List Int} {v : Int} : v ∈ lst x 4032 ↔ has x v := by
  unfold lst has
  simp only [List.mem_map, List.mem_filter, List.mem_range]
  constructor
  · rintro ⟨n, ⟨h1, h2⟩, rfl⟩; exact ⟨by omega, by omega, h2⟩
  · rintro ⟨h1, h2, h3⟩; exact ⟨v.toNat, ⟨by omega, h3⟩, by omega⟩
/-- Behind the last bit of a word nothing comes. -/
theorem lst_rest {x : List Int} {j m : Nat} (h : wd x j / 2 ^ m = 0) : ∀ d, m + d ≤ 64 → lst x (64 * j + m + d) = lst x (64 * j + m) := by
  intro d
  induction d with
  | zero => intro _; rfl
  | succ d ih =>
    intro hd
    rw [show 64 * j + m + (d + 1) = (64 * j + m + d) + 1 by omega, lst_succ, if_neg, ih (by omega)]
    rw [show 64 * j + m + d = 64 * j + (m + d) by omega, bit_at (by omega)]
    have h2 : wd x j < 2 ^ m := by
      have := Nat.div_add_mod (wd x j) (2 ^ m)
      rw [h, Nat.mul_zero, Nat.zero_add] at this
      rw [← this]; exact Nat.mod_lt _ (Nat.two_pow_pos _)
    rw [Nat.testBit_lt_two_pow (Nat.lt_of_lt_of_le h2 (Nat.pow_le_pow_right (by omega) (by omega)))]
    simp
theorem word_zero {x : List Int} (h : GoodS x) {j m : Nat} (hj : j < 63) (hm : wd x j / 2 ^ m ≠ 0) : m < 64 := by
  refine Decidable.byContradiction fun h2 => hm (Nat.div_eq_of_lt ?_)
  exact Nat.lt_of_lt_of_le (h.get hj).2 (Nat.pow_le_pow_right (n := 2) (i := 64) (by omega) (by omega))
theorem half (z m : Nat) : z / 2 ^ m / 2 = z / 2 ^ (m + 1) := by rw [Nat.div_div_eq_div_mul, Nat.pow_succ]
theorem low_bit (z m : Nat) : (z / 2 ^ m) % 2 = 1 ↔ z.testBit m = true := by
  rw [Nat.testBit_eq_decide_div_mod_eq]; simp
end Go.SetM

/- The walks over the methods of live.set. -/
namespace Go.Proofs.Ytnpbadghodkhlaa
open Go Go.RR Go.RX Go.GX Go.Api Go.FlowM Go.RiseM Go.LivM Go.SetM Go.NumM
attribute [local irreducible] wpList Code.wp wpPlan Exit.then Exit.inBlock bodyPost NoPanic Went GX.Post GX.Again GX.Meet GX.RowR GX.Own GX.Owns GX.Box GX.Sl GX.Pt GX.Ag GX.MapR GX.Kept GX.Pin wpT GoK AtEnd Both
abbrev tySet : Ty (List Int) := Ty.arr 63 .u64
instance : UArr Try.prog 50 63 48 := ⟨Try.underlying50⟩
instance : UInf Try.prog 48 := ⟨by kernel_rfl, by kernel_rfl⟩
instance : UPlain Try.prog 50 := ⟨by kernel_rfl⟩
instance : UTy Try.prog 50 tySet none63 (.agg #[.int .u64 0, .int .u64 0, .int .u64 0, .int .u64 0, .int .u64 0, .int .u64 0, .int .u64 0, .int .u64 0, .int .u64 0, .int .u64 0, .int .u64 0, .int .u64 0, .int .u64 0, .int .u64 0, .int .u64 0, .int .u64 0, .int .u64 0, .int .u64 0, .int .u64 0, .int .u64 0, .int .u64 0, .int .u64 0, .int .u64 0, .int .u64 0, .int .u64 0, .int .u64 0, .int .u64 0, .int .u64 0, .int .u64 0, .int .u64 0, .int .u64 0, .int .u64 0, .int .u64 0, .int .u64 0, .int .u64 0, .int .u64 0, .int .u64 0, .int .u64 0, .int .u64 0, .int .u64 0, .int .u64 0, .int .u64 0, .int .u64 0, .int .u64 0, .int .u64 0, .int .u64 0, .int .u64 0, .int .u64 0, .int .u64 0, .int .u64 0, .int .u64 0, .int .u64 0, .int .u64 0, .int .u64 0, .int .u64 0, .int .u64 0, .int .u64 0, .int .u64 0, .int .u64 0, .int .u64 0, .int .u64 0, .int .u64 0, .int .u64 0]) := ⟨Try.zeroValue50, fun _ _ => ⟨rfl, rfl⟩⟩
theorem join_spec (p g o : Nat) (x y : List Int) (hx : GoodS x) (hy : GoodS y) : Does Try.prog 31 [.pointer (some ⟨p, 0, none⟩), .pointer (some ⟨g, o, none⟩)] [Pt tySet g o y] [Box 50 tySet p x] (fun _ : Unit => .tuple #[]) (fun _ => []) (fun _ => [Box 50 tySet p (orS x y)]) := by
  refine enter Try.func31 rfl Try.ntmps31 rfl fun b => ?_
  refine GX.wa_R ?_; intros
  refine GX.loop (σ := Nat) (fun i => [(0, .pointer (some ⟨p, 0, none⟩)), (6, .pointer (some ⟨g, o, none⟩)), (7, .int .i64 (i : Int))]) (fun _ => []) (fun i => [Box 50 tySet p (mix x y i)])
    (fun i => i ≤ 63) (fun i => 63 - i) 0 ⟨rfl, rfl, rfl, trivial⟩ (by omega) (fun i hi => ?_) (h2 := by rw [mix_zero hx]; first | ((repeat (first | apply Go.GX.SelR.nil | apply Go.GX.SelR.cons | (with_reducible apply Go.GX.TakeR.head) | apply Go.GX.TakeR.tail)); done) | (repeat (first | apply Go.GX.SelR.nil | apply Go.GX.SelR.cons | apply Go.GX.TakeR.head | apply Go.GX.TakeR.tail)))
  by_cases hlt : i < 63
  · have h1 := (hy.get hlt).1
    have h2 := mix_get x y (i := i) hlt
    rw [if_neg (Nat.lt_irrefl i)] at h2
    have h3 := mix_succ hx hy hlt
    refine GX.wa_R ?_; intros
    refine GX.drawn0  (fun j => !(List.contains [] j)) [(0, true), (1, true), (2, true), (3, true), (4, true), (5, true)] rfl (by kernel_rfl) (by kernel_rfl) (by first | ((repeat (first | apply Go.GX.SelR.nil | apply Go.GX.SelR.cons | (with_reducible apply Go.GX.TakeR.head) | apply Go.GX.TakeR.tail)); done) | (repeat (first | apply Go.GX.SelR.nil | apply Go.GX.SelR.cons | apply Go.GX.TakeR.head | apply Go.GX.TakeR.tail))) ?_; intro wd F hW hR
    refine GX.wa_T ?_; intros
    refine GX.wa_R ?_; intros
    refine GX.drawn1 (Box 50 tySet p (mix x y i)) (fun j => !(List.contains [9] j)) [(0, true), (1, true), (2, true), (3, true), (4, true), (5, true), (6, true), (7, true), (8, true), (9, false)] rfl (by kernel_rfl) (by kernel_rfl) (by first | ((repeat (first | apply Go.GX.SelR.nil | apply Go.GX.SelR.cons | (with_reducible apply Go.GX.TakeR.head) | apply Go.GX.TakeR.tail)); done) | (repeat (first | apply Go.GX.SelR.nil | apply Go.GX.SelR.cons | apply Go.GX.TakeR.head | apply Go.GX.TakeR.tail))) ?_; intro wd F hW hR
    refine GX.wa_T ?_; intros
    refine GX.unpin (Box 50 tySet p _) ?_
    refine GX.gow ?_
    refine GX.stB (hsub := arr_sub (k := .u64) hlt) ?_
    rw [h3]
    refine GX.wa_T ?_; intros
    refine GX.wa_R ?_; intros
    exact again (i + 1) ⟨rfl, rfl, rfl, trivial⟩ (by omega) (by omega)
  · have hi2 : i = 63 := by omega
    subst hi2
    refine GX.wa_R ?_; intros
    exact en0 ()
theorem add_spec (p k : Nat) (x : List Int) (hx : GoodS x) (hk : k < 4000) : Does Try.prog 33 [.pointer (some ⟨p, 0, none⟩), .int .i64 (k : Int)] [] [Box 50 tySet p x] (fun _ : Unit => .tuple #[]) (fun _ => []) (fun _ => [Box 50 tySet p (addS x k)]) := by
  refine enter Try.func33 rfl Try.ntmps33 rfl fun b => ?_
  have hj : k / 64 < 63 := by omega
  have h1 := (hx.get hj).1
  refine GX.drawn1 (Box 50 tySet p x) (fun j => !(List.contains [12] j)) [(0, true), (1, true), (2, true), (3, true), (4, true), (5, true), (6, true), (7, true), (8, true), (9, true), (10, true), (11, true), (12, false)] rfl (by kernel_rfl) (by kernel_rfl) (by first | ((repeat (first | apply Go.GX.SelR.nil | apply Go.GX.SelR.cons | (with_reducible apply Go.GX.TakeR.head) | apply Go.GX.TakeR.tail)); done) | (repeat (first | apply Go.GX.SelR.nil | apply Go.GX.SelR.cons | apply Go.GX.TakeR.head | apply Go.GX.TakeR.tail))) ?_; intro wd F hW hR
  refine GX.wa_T ?_; intros
  refine GX.unpin (Box 50 tySet p _) ?_
  refine GX.gow ?_
  refine GX.stB (hsub := arr_sub (k := .u64) hj) ?_
  refine GX.wa_T ?_; intros
  refine GX.wa_R ?_; intros
  exact en0 ()
theorem drop_spec (p k : Nat) (x : List Int) (hx : GoodS x) (hk : k < 4000) : Does Try.prog 32 [.pointer (some ⟨p, 0, none⟩), .int .i64 (k : Int)] [] [Box 50 tySet p x] (fun _ : Unit => .tuple #[]) (fun _ => []) (fun _ => [Box 50 tySet p (dropS x k)]) := by
  refine enter Try.func32 rfl Try.ntmps32 rfl fun b => ?_
  have hj : k / 64 < 63 := by omega
  have h1 := (hx.get hj).1
  refine GX.drawn1 (Box 50 tySet p x) (fun j => !(List.contains [12] j)) [(0, true), (1, true), (2, true), (3, true), (4, true), (5, true), (6, true), (7, true), (8, true), (9, true), (10, true), (11, true), (12, false)] rfl (by kernel_rfl) (by kernel_rfl) (by first | ((repeat (first | apply Go.GX.SelR.nil | apply Go.GX.SelR.cons | (with_reducible apply Go.GX.TakeR.head) | apply Go.GX.TakeR.tail)); done) | (repeat (first | apply Go.GX.SelR.nil | apply Go.GX.SelR.cons | apply Go.GX.TakeR.head | apply Go.GX.TakeR.tail))) ?_; intro wd F hW hR
  refine GX.wa_T ?_; intros
  refine GX.unpin (Box 50 tySet p _) ?_
  refine GX.gow ?_
  refine GX.stB (hsub := arr_sub (k := .u64) hj) ?_
  refine GX.wa_T ?_; intros
  refine GX.wa_R ?_; intros
  exact en0 ()
theorem list_spec (g o : Nat) (x : List Int) (hx : GoodS x) : Does Try.prog 21 [.pointer (some ⟨g, o, none⟩)] [Pt tySet g o x] [] (fun s : Option Addr × Nat => .slice s.1 (lst x 4032).length s.2) (fun _ => []) (fun s => [Own 3 Ty.int s.1 s.2 (lst x 4032)]) := by
  refine enter Try.func21 rfl Try.ntmps21 rfl fun b => ?_
  refine GX.wa_R ?_; intros
  refine ownNil 3 Ty.int ?_
  refine GX.loop (σ := Nat × (Option Addr × Nat)) (fun q => [(3, .slice q.2.1 (lst x (64 * q.1)).length q.2.2), (7, .pointer (some ⟨g, o, none⟩)), (8, .int .i64 (q.1 : Int))]) (fun _ => []) (fun q => [Own 3 Ty.int q.2.1 q.2.2 (lst x (64 * q.1))])
    (fun q => q.1 ≤ 63) (fun q => 63 - q.1) (0, (none, 0)) ⟨rfl, rfl, rfl, trivial⟩ (Nat.zero_le _) (fun q hq => ?_)
  obtain ⟨i, a, c⟩ := q
  dsimp only at *
  by_cases hlt : i < 63
  · have h1 := (hx.get hlt).1
    have hw := (hx.get hlt).2
    refine GX.wa_R ?_; intros
    refine GX.drawn0  (fun j => !(List.contains [] j)) [(0, true), (1, true), (2, true), (3, true), (4, true), (5, true)] rfl (by kernel_rfl) (by kernel_rfl) (by first | ((repeat (first | apply Go.GX.SelR.nil | apply Go.GX.SelR.cons | (with_reducible apply Go.GX.TakeR.head) | apply Go.GX.TakeR.tail)); done) | (repeat (first | apply Go.GX.SelR.nil | apply Go.GX.SelR.cons | apply Go.GX.TakeR.head | apply Go.GX.TakeR.tail))) ?_; intro wd F hW hR
    refine GX.wa_T ?_; intros
    refine GX.wa_R ?_; intros
    refine GX.loop (σ := Nat × (Option Addr × Nat)) (fun q => [(3, .slice q.2.1 (lst x (64 * i + q.1)).length q.2.2), (5, .int .u64 ((SetM.wd x i / 2 ^ q.1 : Nat) : Int)), (6, .int .i64 ((64 * i + q.1 : Nat) : Int)), (7, .pointer (some ⟨g, o, none⟩)), (8, .int .i64 (i : Int))]) (fun _ => []) (fun q => [Own 3 Ty.int q.2.1 q.2.2 (lst x (64 * i + q.1))])
      (fun q => q.1 ≤ 64) (fun q => 64 - q.1) (0, (a, c)) ⟨rfl, by dsimp only; rw [Nat.pow_zero, Nat.div_one]; rfl, rfl, rfl, rfl, trivial⟩ (Nat.zero_le _) (fun q hq => ?_)
    obtain ⟨m, a2, c2⟩ := q
    dsimp only at *
    by_cases hz : SetM.wd x i / 2 ^ m = 0
    · have hr := lst_rest hz (64 - m) (by omega)
      rw [show 64 * i + m + (64 - m) = 64 * (i + 1) by omega] at hr
      have hz2 : ¬ ((SetM.wd x i / 2 ^ m : Nat) : Int) ≠ 0 := by omega
      refine GX.wa_R ?_; intros
      exact again (i + 1, (a2, c2)) ⟨by dsimp only; rw [hr]; rfl, rfl, rfl, trivial⟩ (by dsimp only; omega) (by dsimp only; omega) (h2 := by dsimp only; rw [hr]; first | ((repeat (first | apply Go.GX.SelR.nil | apply Go.GX.SelR.cons | (with_reducible apply Go.GX.TakeR.head) | apply Go.GX.TakeR.tail)); done) | (repeat (first | apply Go.GX.SelR.nil | apply Go.GX.SelR.cons | apply Go.GX.TakeR.head | apply Go.GX.TakeR.tail)))
    · have hm := word_zero hx hlt hz
      have hz2 : ((SetM.wd x i / 2 ^ m : Nat) : Int) ≠ 0 := by omega
      have hlw : SetM.wd x i / 2 ^ m < 18446744073709551616 := Nat.lt_of_le_of_lt (Nat.div_le_self _ _) hw
      have ha := and1W hlw
      have hs := lst_succ x (64 * i + m)
      have hll := lst_len x (64 * i + m)
      have hsh := shr1 (z := SetM.wd x i / 2 ^ m)
      rw [SetM.half] at hsh
      by_cases hb : (SetM.wd x i).testBit m = true
      · rw [if_pos (by rw [bit_at hm]; exact hb)] at hs
        have hb2 : bAnd .u64 ((SetM.wd x i / 2 ^ m : Nat) : Int) 1 = 1 := by rw [ha, low_bit _ _ |>.2 hb]; rfl
        refine GX.wa_R ?_; intros
        refine GX.nmS 3 ?_; rintro a9 c9 rfl rfl
        exact again (m + 1, (a9, c9)) ⟨by dsimp only; rw [← Nat.add_assoc, hs]; rfl, by dsimp only; rw [← hsh]; rfl, rfl, rfl, rfl, trivial⟩ (by dsimp only; omega) (by dsimp only; omega) (h2 := by dsimp only; rw [← Nat.add_assoc, hs]; first | ((repeat (first | apply Go.GX.SelR.nil | apply Go.GX.SelR.cons | (with_reducible apply Go.GX.TakeR.head) | apply Go.GX.TakeR.tail)); done) | (repeat (first | apply Go.GX.SelR.nil | apply Go.GX.SelR.cons | apply Go.GX.TakeR.head | apply Go.GX.TakeR.tail)))
      · rw [if_neg (by rw [bit_at hm]; exact hb)] at hs
        have hb2 : ¬ bAnd .u64 ((SetM.wd x i / 2 ^ m : Nat) : Int) 1 = 1 := fun h => hb (low_bit _ _ |>.1 (by rw [ha] at h; omega))
        refine GX.wa_R ?_; intros
        exact again (m + 1, (a2, c2)) ⟨by dsimp only; rw [← Nat.add_assoc, hs]; rfl, by dsimp only; rw [← hsh]; rfl, rfl, rfl, rfl, trivial⟩ (by dsimp only; omega) (by dsimp only; omega) (h2 := by dsimp only; rw [← Nat.add_assoc, hs]; first | ((repeat (first | apply Go.GX.SelR.nil | apply Go.GX.SelR.cons | (with_reducible apply Go.GX.TakeR.head) | apply Go.GX.TakeR.tail)); done) | (repeat (first | apply Go.GX.SelR.nil | apply Go.GX.SelR.cons | apply Go.GX.TakeR.head | apply Go.GX.TakeR.tail)))
  · have hi2 : i = 63 := by omega
    subst hi2
    refine GX.wa_R ?_; intros
    exact rt1 (_, _) rfl
end Go.Proofs.Ytnpbadghodkhlaa

/- A slice of one's own, lent to a function that only reads it. No program in sight. -/
namespace Go.GX
open Go Go.RowKit Go.RR Go.RX
theorem Does.lend {P : Program} {f : FuncId} {args : List Value} {ps1 : List Pf} {t : TypeId} {α : Type} {e : Ty α} {ao : Option Addr} {cap : Nat} {xs : List α} {σ : Type} {val : σ → Value} (hc : Does P f args (Sl e ao cap xs :: ps1) [] val (fun _ => []) (fun _ => [])) :
    Does P f args ps1 [Own t e ao cap xs] val (fun _ => []) (fun _ => [Own t e ao cap xs]) := by
  constructor
  intro w F b s
  have hown : (Own t e ao cap xs).says F w := s.rs _ (by simp)
  have hlt : ∀ k, (F k ∨ (Own t e ao cap xs).on k) → k < w.heap.size := by
    rintro k (hk | hk)
    · exact s.lt k hk
    · exact (Own t e ao cap xs).inn hown hk
  have s' : St ⟨w, fun _ => False, fun k => F k ∨ (Own t e ao cap xs).on k⟩ (fun k => F k ∨ (Own t e ao cap xs).on k) (Sl e ao cap xs :: ps1) [] w := by
    refine ⟨Upd.refl _ _, hlt, fun k hk _ => .inl hk, ?_, no_r, by simp, by simp, by simp⟩
    intro p hp
    rcases List.mem_cons.1 hp with rfl | hp
    · exact frzAt hown
    · exact p.move (s.fs p hp) (fun _ _ h => .inl h) (Agree.refl _ _)
  refine (hc.run w _ _ s').mono ?_
  rintro e' w' ⟨i, rfl, F2, s2⟩
  refine ⟨i, rfl, ?_⟩
  have hu : Upd (feet []) w w' := s2.upd
  have hno : ∀ k, ¬ feet [] k := fun k => feet_nil
  exact mkOk1 s (hu.mono fun k _ hk => absurd hk (hno k)) ((Own t e ao cap xs).move hown (fun _ _ h => h) (Agree.of_upd hu fun k _ _ => hno k) (Agree.of_upd hu fun k _ _ => hno k)) (fun k hk _ => hk)
section
variable {P : Program} {n : Nat} {env : Env} {b : Base} {ps : List Pf} {hp : List Res} {K : Act → World → Prop}
/-- Something stays from now on; what is known tells what it says. -/
theorem frz_stA {r : Res} {p : Pf} {rest : List Res} (hl : hp.Perm (r :: rest)) (hp' : ∀ F w, AllP F w ps → r.says F w → p.says (fun k => F k ∨ r.on k) w) (h : G n env b (p :: ps) rest K) : G n env b ps hp K := by
  constructor
  rintro w ⟨F, s⟩
  have s := s.perm hl
  have ha := List.pairwise_cons.1 s.apart
  refine h.run w ⟨fun k => F k ∨ r.on k, s.upd, ?_, ?_, ?_, ?_, ?_, ha.2, fun q hq => s.on q (List.mem_cons_of_mem _ hq)⟩
  · rintro k (hk | hk)
    · exact s.lt k hk
    · exact r.inn (s.rs r List.mem_cons_self) hk
  · rintro k (hk | hk) hlt
    · exact s.old k hk hlt
    · exact .inr (s.on r List.mem_cons_self k hk hlt)
  · intro q hq
    rcases List.mem_cons.1 hq with rfl | hq
    · exact hp' F w s.fs (s.rs r List.mem_cons_self)
    · exact q.move (s.fs q hq) (fun _ _ h => .inl h) (Agree.refl _ _)
  · intro q hq
    exact q.move (s.rs q (List.mem_cons_of_mem _ hq)) (fun _ _ h => .inl h) (Agree.refl _ _) (Agree.refl _ _)
  · rintro q hq k hk (hf | hr)
    · exact s.apF q (List.mem_cons_of_mem _ hq) k hk hf
    · exact ha.1 q hq k hr hk
/-- A row of cells that reads as something stays from now on. -/
theorem frzR (bl : Nat) {α : Type} {e : Ty α} {t : TypeId} {vs : List Value} {y : α} {rest : List Res} [hf : FRow bl hp t vs rest] (h : G n env b (Pt e bl 0 y :: ps) rest K) (hr : Reads ps (.agg vs.toArray) e y := by first | exact Go.GX.Rds.r) : G n env b ps hp K :=
  frz_stA hf.p (fun F w h1 h2 => by
    have hrow : Row w bl t vs := h2
    have hd : e.rd F w (Value.agg vs.toArray).cells.toList y := hr.as F w h1
    have hc : (Value.agg vs.toArray).cells.toList = vs := by simp [Value.cells]
    rw [hc] at hd
    exact ⟨.inr rfl, hrow.lt, vs, fun j c hj => by rw [Nat.zero_add]; exact hrow.cell_some hj, e.move hd (fun _ _ h => .inl h) (Agree.refl _ _)⟩) h
/-- A slice's header in a variable that is not turned from now on. -/
theorem frzH (bl : Nat) {t : TypeId} {vs : List Value} {a : Option Addr} {m c : Nat} {rest : List Res} [hf : FRow bl hp t vs rest] (h : G n env b (Pt Ty.hdr bl 0 (a, m, c) :: ps) rest K) (hv : vs = [.slice a m c] := by exact rfl) : G n env b ps hp K := frz_st hf.p (fun F w h => by
  have h1 : Row w bl t vs := h
  subst hv
  exact ⟨.inr rfl, h1.lt, _, fun j c hj => by rw [Nat.zero_add]; exact h1.cell_some hj, hdr_rd⟩) h
end
end Go.GX

/- The walk over ahead of package live. -/
namespace Go.GX
open Go Go.RowKit Go.RR Go.RX
/-- As lend, where the result is told by facts that ask nothing of memory. -/
theorem Does.lendP {P : Program} {f : FuncId} {args : List Value} {ps1 : List Pf} {t : TypeId} {α : Type} {e : Ty α} {ao : Option Addr} {cap : Nat} {xs : List α} {σ : Type} {val : σ → Value} {ps' : σ → List Pf} (hc : Does P f args (Sl e ao cap xs :: ps1) [] val ps' (fun _ => []))
    (hpure : ∀ s, ∀ p ∈ ps' s, ∀ (F : Nat → Prop) (w : World) (F' : Nat → Prop) (w' : World), p.says F w → p.says F' w') :
    Does P f args ps1 [Own t e ao cap xs] val ps' (fun _ => [Own t e ao cap xs]) := by
  constructor
  intro w F b s
  have hown : (Own t e ao cap xs).says F w := s.rs _ (by simp)
  have hlt : ∀ k, (F k ∨ (Own t e ao cap xs).on k) → k < w.heap.size := by
    rintro k (hk | hk)
    · exact s.lt k hk
    · exact (Own t e ao cap xs).inn hown hk
  have s' : St ⟨w, fun _ => False, fun k => F k ∨ (Own t e ao cap xs).on k⟩ (fun k => F k ∨ (Own t e ao cap xs).on k) (Sl e ao cap xs :: ps1) [] w := by
    refine ⟨Upd.refl _ _, hlt, fun k hk _ => .inl hk, ?_, no_r, by simp, by simp, by simp⟩
    intro p hp
    rcases List.mem_cons.1 hp with rfl | hp
    · exact frzAt hown
    · exact p.move (s.fs p hp) (fun _ _ h => .inl h) (Agree.refl _ _)
  refine (hc.run w _ _ s').mono ?_
  rintro e' w' ⟨i, rfl, F2, s2⟩
  refine ⟨i, rfl, ?_⟩
  have hu : Upd (feet []) w w' := s2.upd
  have hno : ∀ k, ¬ feet [] k := fun k => feet_nil
  obtain ⟨F3, s3⟩ := mkOk1 s (hu.mono fun k _ hk => absurd hk (hno k)) ((Own t e ao cap xs).move hown (fun _ _ h => h) (Agree.of_upd hu fun k _ _ => hno k) (Agree.of_upd hu fun k _ _ => hno k)) (fun k hk _ => hk)
  exact ⟨F3, s3.upd, s3.lt, s3.old, fun p hp => hpure i p hp _ _ _ _ (s2.fs p hp), s3.rs, s3.apF, s3.apart, s3.on⟩
theorem ag_arr {m : Nat} {k : IntKind} {cs : List Value} {y : List Int} {F F' : Nat → Prop} {w w' : World} (h : (Ag (Ty.arr m k) cs y).says F w) : (Ag (Ty.arr m k) cs y).says F' w' := h
end Go.GX
namespace Go.Proofs.Ytnpbadghodkhlaa
open Go Go.RR Go.RX Go.GX Go.Api Go.FlowM Go.RiseM Go.LivM Go.SetM Go.NumM
attribute [local irreducible] wpList Code.wp wpPlan Exit.then Exit.inBlock bodyPost NoPanic Went GX.Post GX.Again GX.Meet GX.RowR GX.Own GX.Owns GX.Box GX.Sl GX.Pt GX.Ag GX.MapR GX.Kept GX.Pin wpT GoK AtEnd Both
abbrev ArgsOk (ins : List Ins) : Prop := ∀ x ∈ ins, x.args.length ≤ 17592186043904
/-- What the sets say. -/
def HS (X : List (List Int)) (i : Nat) (v : Int) : Prop := ∃ s, X[i]? = some s ∧ has s v
structure AhdS (ins : List Ins) (X : List (List Int)) (i : Nat) where
  cs : List Value
  r : List Int
  h : GoodS r ∧ ∀ v, has r v ↔ Step ins (HS X) i v
set_option maxHeartbeats 1000000 in
theorem ahead_spec (cs : List Value) (c : Api.Code) (hA : ArgsOk c.ins) (aS : Option Addr) (capS : Nat) (X : List (List Int)) (hX : X.length = c.ins.length) (hG : ∀ s ∈ X, GoodS s) (i : Nat) (hi : i < c.ins.length) :
    Does Try.prog 20 [.agg cs.toArray, .slice aS X.length capS, .int .i64 (i : Int)] [Sl tySet aS capS X, Ag tyCode cs c] [] (fun s : AhdS c.ins X i => .agg s.cs.toArray) (fun s => [Ag tySet s.cs s.r]) (fun _ => []) := by
  refine enter Try.func20 rfl Try.ntmps20 rfl fun b => ?_
  obtain ⟨x, hx⟩ := get_lt hi
  have hxa := hA x (List.mem_of_getElem? hx)
  have hnl := next_len c.ins (i : Int)
  have hul := uses_len x
  refine GX.wa_R ?_; intros
  refine GX.nmP 3 ?_; rintro b3 rfl
  refine GX.nmP 6 ?_; rintro b6 rfl
  refine GX.nmP 7 ?_; rintro b7 rfl
  refine GX.o (cl (next_spec _ c (i : Int)) fun s => ?_)
  obtain ⟨aN, cN⟩ := s
  dsimp only
  refine GX.wa_R ?_; intros
  refine GX.loop (σ := Nat × List Int) (fun q => [(1, .slice aS X.length capS), (2, .int .i64 (i : Int)), (3, .pointer (some ⟨b3, 0, none⟩)), (6, .pointer (some ⟨b6, 0, none⟩)), (7, .pointer (some ⟨b7, 0, none⟩)), (15, .slice aN (next c.ins i).length cN), (16, .int .i64 ((next c.ins i).length : Int)), (17, .int .i64 (q.1 : Int))]) (fun _ => []) (fun q => [Box 50 tySet b6 none63, Box 50 tySet b7 q.2])
    (fun q => q.1 ≤ (next c.ins i).length ∧ GoodS q.2 ∧ ∀ v, has q.2 v ↔ ∃ j : Nat, (j : Int) ∈ (next c.ins i).take q.1 ∧ HS X j v) (fun q => (next c.ins i).length - q.1) (0, none63) ⟨rfl, rfl, rfl, rfl, rfl, rfl, rfl, rfl, trivial⟩ ⟨Nat.zero_le _, good_none, fun v => ⟨fun h => absurd h (has_none v), fun ⟨j, h, _⟩ => by simp at h⟩⟩ (fun q hq => ?_)
  obtain ⟨k, r⟩ := q
  obtain ⟨h1, h2, h3⟩ := hq
  dsimp only at *
  by_cases hlt : k < (next c.ins i).length
  · obtain ⟨y, hy⟩ := get_lt hlt
    have hyi := (next_in (List.mem_of_getElem? hy)).1
    obtain ⟨m, rfl⟩ := Int.eq_ofNat_of_zero_le hyi.1
    obtain ⟨s, hs⟩ := get_lt (show m < X.length by have := hyi.2; omega)
    have hsg := hG s (List.mem_of_getElem? hs)
    have ho := orS_spec h2 hsg
    refine GX.wa_R ?_; intros
    refine GX.o (cl (join_spec b7 _ _ r s h2 hsg) fun _ => ?_)
    refine GX.wa_R ?_; intros
    refine again (k + 1, orS r s) ⟨rfl, rfl, rfl, rfl, rfl, rfl, rfl, rfl, trivial⟩ ⟨by dsimp only; omega, ho.1, fun v => ?_⟩ (by dsimp only; omega)
    rw [ho.2, h3, List.take_add_one, hy]
    constructor
    · rintro (⟨j, hj, hh⟩ | hh)
      · exact ⟨j, List.mem_append_left _ hj, hh⟩
      · exact ⟨m, by simp, s, hs, hh⟩
    · rintro ⟨j, hj, hh⟩
      rcases List.mem_append.1 hj with hj | hj
      · exact .inl ⟨j, hj, hh⟩
      · have e : (j : Int) = (m : Int) := by simpa using hj
        obtain rfl : j = m := by omega
        obtain ⟨s2, hs2, hh⟩ := hh
        rw [hs] at hs2
        cases hs2
        exact .inr hh
  rw [List.take_of_length_le (by omega)] at h3
  refine GX.wa_R ?_; intros
  refine GX.o (cl (def_spec _ x) fun _ => ?_)
  refine GX.wa_R ?_; intros
  refine GX.cut (σ := List Int) (fun _ => [(2, .int .i64 (i : Int)), (3, .pointer (some ⟨b3, 0, none⟩)), (6, .pointer (some ⟨b6, 0, none⟩)), (7, .pointer (some ⟨b7, 0, none⟩))]) (fun _ => []) (fun r2 => [Box 50 tySet b6 none63, Box 50 tySet b7 r2])
    (fun r2 => GoodS r2 ∧ ∀ v, has r2 v ↔ def_ x ≠ v ∧ has r v) ?_ (fun r2 hr2 => ?_)
  · have hdr : def_ x = -1 ∨ In 4000 (def_ x) := by
      unfold def_
      split
      · rename_i h; exact .inr h.2
      · exact .inl rfl
    rcases hdr with hd | hd
    · rw [hd]
      refine GX.wa_R ?_; intros
      exact meet r ⟨rfl, rfl, rfl, rfl, trivial⟩ ⟨h2, fun v => ⟨fun h => ⟨fun e => by have := h.1; omega, h⟩, fun h => h.2⟩⟩
    · obtain ⟨hd1, hd2⟩ := hd
      obtain ⟨d, hde⟩ := Int.eq_ofNat_of_zero_le hd1
      rw [hde] at hd2 ⊢
      have hds := dropS_spec h2 (show d < 4032 by omega)
      refine GX.wa_R ?_; intros
      refine GX.o (cl (drop_spec b7 d r h2 (by omega)) fun _ => ?_)
      refine GX.wa_R ?_; intros
      exact meet (dropS r d) ⟨rfl, rfl, rfl, rfl, trivial⟩ ⟨hds.1, fun v => by rw [hds.2]; exact ⟨fun h => ⟨fun e => h.1 e.symm, h.2⟩, fun h => ⟨fun e => h.1 e.symm, h.2⟩⟩⟩
  obtain ⟨g1, g2⟩ := hr2
  refine GX.wa_R ?_; intros
  refine GX.o (cl (uses_spec _ x hxa) fun s => ?_)
  obtain ⟨aU, cU⟩ := s
  dsimp only
  refine GX.wa_R ?_; intros
  refine GX.loop (σ := Nat × List Int) (fun q => [(6, .pointer (some ⟨b6, 0, none⟩)), (7, .pointer (some ⟨b7, 0, none⟩)), (41, .slice aU (uses x).length cU), (42, .int .i64 ((uses x).length : Int)), (43, .int .i64 (q.1 : Int))]) (fun _ => []) (fun q => [Box 50 tySet b6 none63, Box 50 tySet b7 q.2])
    (fun q => q.1 ≤ (uses x).length ∧ GoodS q.2 ∧ ∀ v, has q.2 v ↔ v ∈ (uses x).take q.1 ∨ has r2 v) (fun q => (uses x).length - q.1) (0, r2) ⟨rfl, rfl, rfl, rfl, rfl, trivial⟩ ⟨Nat.zero_le _, g1, fun v => by simp⟩ (fun q hq => ?_)
  obtain ⟨k2, r3⟩ := q
  obtain ⟨j1, j2, j3⟩ := hq
  dsimp only at *
  by_cases hlt2 : k2 < (uses x).length
  · obtain ⟨y, hy⟩ := get_lt hlt2
    have hyi := (uses_in.1 (List.mem_of_getElem? hy)).2
    obtain ⟨m, rfl⟩ := Int.eq_ofNat_of_zero_le hyi.1
    have hm : m < 4000 := by have := hyi.2; omega
    have ha := addS_spec j2 (show m < 4032 by omega)
    refine GX.wa_R ?_; intros
    refine GX.o (cl (add_spec b7 m r3 j2 hm) fun _ => ?_)
    refine GX.wa_R ?_; intros
    refine again (k2 + 1, addS r3 m) ⟨rfl, rfl, rfl, rfl, rfl, trivial⟩ ⟨by dsimp only; omega, ha.1, fun v => ?_⟩ (by dsimp only; omega)
    rw [ha.2, j3, List.take_add_one, hy]
    simp only [Option.toList_some, List.mem_append, List.mem_singleton]
    constructor
    · rintro (h | h | h)
      · exact .inl (.inr h)
      · exact .inl (.inl h)
      · exact .inr h
    · rintro ((h | h) | h)
      · exact .inr (.inl h)
      · exact .inl h
      · exact .inr (.inr h)
  rw [List.take_of_length_le (by omega)] at j3
  refine GX.wa_R ?_; intros
  refine rt1B (fun cs => (⟨cs, r3, j2, fun v => ?_⟩ : AhdS c.ins X i)) (fun _ => rfl)
  rw [j3, g2, h3]
  constructor
  · rintro (h | ⟨h, j, hj, hh⟩)
    · exact ⟨x, hx, .inl h⟩
    · exact ⟨x, hx, .inr ⟨h, j, hj, hh⟩⟩
  · rintro ⟨x2, hx2, h⟩
    rw [hx] at hx2
    cases hx2
    rcases h with h | ⟨h, j, hj, hh⟩
    · exact .inl h
    · exact .inr ⟨h, j, hj, hh⟩
theorem aheadO_spec (cs : List Value) (c : Api.Code) (hA : ArgsOk c.ins) (aS : Option Addr) (capS : Nat) (X : List (List Int)) (hX : X.length = c.ins.length) (hG : ∀ s ∈ X, GoodS s) (i : Nat) (hi : i < c.ins.length) :
    Does Try.prog 20 [.agg cs.toArray, .slice aS X.length capS, .int .i64 (i : Int)] [Ag tyCode cs c] [Own 50 tySet aS capS X] (fun s : AhdS c.ins X i => .agg s.cs.toArray) (fun s => [Ag tySet s.cs s.r]) (fun _ => [Own 50 tySet aS capS X]) :=
  (ahead_spec cs c hA aS capS X hX hG i hi).lendP fun s p hp F w F' w' h => by
    obtain rfl : p = Ag tySet s.cs s.r := by simpa using hp
    exact ag_arr h
end Go.Proofs.Ytnpbadghodkhlaa

/- The walk over Before of package live. -/
namespace Go.GX
open Go Go.RowKit Go.RR Go.RX
section
variable {P : Program} {n : Nat} {env : Env} {b : Base} {ps : List Pf} {hp : List Res} {K : Act → World → Prop}
theorem slPl {bl cap : Nat} (j off : Nat) {α : Type} {e : Ty α} {xs : List α} {x0 : α} [hf : FSl (some ⟨bl, 0, none⟩) ps e cap xs] (h : G n env b (Pt e bl off x0 :: ps) hp K) (hj : xs[j]? = some x0 := by with_reducible assumption) (ho : 0 + j * e.size = off := by (show 0 + _ * 1 = _; omega)) : G n env b ps hp K := by
  subst ho
  constructor
  rintro w ⟨F, s⟩
  obtain ⟨_, _, hs⟩ : (Sl e (some ⟨bl, 0, none⟩) cap xs).says F w := s.fs _ hf.mem
  obtain ⟨b1, o, cs, he, h3, h4, h5, h6⟩ := hs j x0 hj
  simp only [Option.some.injEq, Addr.mk.injEq, and_true] at he
  obtain ⟨rfl, rfl⟩ := he
  refine h.run w ⟨F, s.upd, s.lt, s.old, fun p hp => ?_, s.rs, s.apF, s.apart, s.on⟩
  rcases List.mem_cons.1 hp with rfl | hp
  · exact ⟨h3, h4, cs, h5, h6⟩
  · exact s.fs p hp
end
end Go.GX
namespace Go.Proofs.Ytnpbadghodkhlaa
open Go Go.RR Go.RX Go.GX Go.Api Go.FlowM Go.RiseM Go.LivM Go.SetM Go.NumM
attribute [local irreducible] wpList Code.wp wpPlan Exit.then Exit.inBlock bodyPost NoPanic Went GX.Post GX.Again GX.Meet GX.RowR GX.Own GX.Owns GX.Box GX.Sl GX.Pt GX.Ag GX.MapR GX.Kept GX.Pin wpT GoK AtEnd Both
theorem hs_set {X : List (List Int)} {m : Nat} (hm : m < X.length) (r : List Int) (i : Nat) (v : Int) : HS (X.set m r) i v ↔ if i = m then has r v else HS X i v := by
  unfold HS
  split
  · rename_i e; subst e
    rw [List.getElem?_set_self hm]
    exact ⟨fun ⟨s, h, hh⟩ => by cases h; exact hh, fun h => ⟨r, rfl, h⟩⟩
  · rename_i e
    rw [List.getElem?_set_ne (Ne.symm e)]
theorem hs_get {X : List (List Int)} {m : Nat} {s : List Int} (h : X[m]? = some s) (v : Int) : HS X m v ↔ has s v :=
  ⟨fun ⟨s2, h2, hh⟩ => by rw [h] at h2; cases h2; exact hh, fun hh => ⟨s, h, hh⟩⟩
theorem hs_none (n : Nat) (i : Nat) (v : Int) : ¬ HS (List.replicate n none63) i v := fun ⟨s, h, hh⟩ => by
  have := List.mem_of_getElem? h
  rw [List.eq_of_mem_replicate this] at hh
  exact has_none v hh
/-- What one turn of a set does. -/
theorem turn {ins : List Ins} {X : List (List Int)} (hX : X.length = ins.length) (hG : ∀ s ∈ X, GoodS s) (hI : Inv ins (HS X)) {m : Nat} (hm : m < ins.length) {s r : List Int} (hs : X[m]? = some s) (hr : GoodS r ∧ ∀ v, has r v ↔ Step ins (HS X) m v) (hne : r ≠ s) :
    (∀ s ∈ X.set m r, GoodS s) ∧ Inv ins (HS (X.set m r)) ∧ size ins.length (HS X) < size ins.length (HS (X.set m r)) := by
  have hml : m < X.length := by omega
  have h1 : ∀ v, HS (X.set m r) m v ↔ Step ins (HS X) m v := fun v => by rw [hs_set hml, if_pos rfl]; exact hr.2 v
  have h2 : ∀ i v, i ≠ m → (HS (X.set m r) i v ↔ HS X i v) := fun i v e => by rw [hs_set hml, if_neg e]
  obtain ⟨hI2, hup⟩ := inv_set hI h1 h2
  refine ⟨fun t ht => ?_, hI2, ?_⟩
  · rcases List.mem_or_eq_of_mem_set ht with ht | rfl
    · exact hG t ht
    · exact hr.1
  · have hsg := hG s (List.mem_of_getElem? hs)
    have hsub : ∀ v, has s v → has r v := fun v h => (hr.2 v).2 (hI.step m v ((hs_get hs v).2 h))
    obtain ⟨v, hv1, hv2⟩ : ∃ v, has r v ∧ ¬ has s v := Classical.byContradiction fun h => hne (goodS_ext hr.1 hsg fun v => ⟨fun h1 => Classical.byContradiction fun h2 => h ⟨v, h1, h2⟩, hsub v⟩)
    exact size_lt hup hm (hI.stepLive ((hr.2 v).1 hv1)).var (fun h => hv2 ((hs_get hs v).1 h)) ((h1 v).2 ((hr.2 v).1 hv1))
structure BeS where
  X : List (List Int)
  t : Bool
structure BiS where
  X : List (List Int)
  t : Bool
  k : Nat
def outL (X : List (List Int)) (i : Nat) : List (List Int) := (X.take i).map (fun s => lst s 4032) ++ List.replicate (X.length - i) []
theorem outL_len (X : List (List Int)) {i : Nat} (hi : i ≤ X.length) : (outL X i).length = X.length := by unfold outL; simp; omega
theorem outL_set {X : List (List Int)} {i : Nat} {s : List Int} (h : X[i]? = some s) : (outL X i).set i (lst s 4032) = outL X (i + 1) := by
  have hi := (List.getElem?_eq_some_iff.1 h).1
  unfold outL
  rw [List.take_add_one, h, List.map_append, List.set_append_right _ _ (by simp; omega), List.append_assoc]
  congr 1
  rw [show i - ((X.take i).map fun s => lst s 4032).length = 0 by simp; omega, show X.length - i = (X.length - (i + 1)) + 1 by omega, List.replicate_succ]
  rfl
set_option maxHeartbeats 4000000 in
theorem before_spec (cs : List Value) (c : Api.Code) (hA : ArgsOk c.ins) (hn : c.ins.length ≤ 100000) :
    Does Try.prog 9 [.agg cs.toArray] [Ag tyCode cs c] [] (fun s : Option Addr × Nat => .slice s.1 (befores c.ins).length s.2) (fun s => [Sl (Ty.slice Ty.int) s.1 s.2 (befores c.ins)]) (fun _ => []) := by
  refine enter Try.func9 rfl Try.ntmps9 rfl fun b => ?_
  obtain ⟨n, hn0⟩ : ∃ n, n = c.ins.length := ⟨_, rfl⟩
  refine GX.wa_RO ?_; intros
  refine GX.nmP 1 ?_; rintro b1 rfl
  refine GX.nmB 3 ?_; rintro g rfl
  rw [← hn0]
  refine GX.loop (σ := BeS) (fun q => [(1, .pointer (some ⟨b1, 0, none⟩)), (3, .slice (some ⟨g, 0, none⟩) n n), (4, .bool q.t)]) (fun _ => []) (fun q => [Own 50 tySet (some ⟨g, 0, none⟩) n q.X])
    (fun q => q.X.length = n ∧ (∀ s ∈ q.X, GoodS s) ∧ Inv c.ins (HS q.X) ∧ (q.t = false → ∀ i v, Step c.ins (HS q.X) i v → HS q.X i v)) (fun q => 2 * (n * 4000 - size n (HS q.X)) + (if q.t = true then 1 else 0)) ⟨List.replicate n none63, true⟩ ⟨rfl, rfl, rfl, trivial⟩ ⟨by simp, fun s hs => by rw [List.eq_of_mem_replicate hs]; exact good_none, inv_none (hs_none n), fun h => by simp at h⟩ (fun q hq => ?_)
  obtain ⟨X, t⟩ := q
  obtain ⟨h1, h2, h3, h4⟩ := hq
  dsimp only at *
  cases t with
  | true =>
    clear h4
    refine GX.wa_R ?_; intros
    rw [← hn0]
    refine GX.loop (σ := BiS) (fun q => [(1, .pointer (some ⟨b1, 0, none⟩)), (3, .slice (some ⟨g, 0, none⟩) n n), (4, .bool q.t), (5, .int .i64 ((q.k : Int) - 1))]) (fun _ => []) (fun q => [Own 50 tySet (some ⟨g, 0, none⟩) n q.X])
      (fun q => q.k ≤ n ∧ q.X.length = n ∧ (∀ s ∈ q.X, GoodS s) ∧ Inv c.ins (HS q.X) ∧ (q.t = true → size n (HS X) < size n (HS q.X)) ∧ (q.t = false → q.X = X ∧ ∀ i, q.k ≤ i → ∀ v, Step c.ins (HS q.X) i v → HS q.X i v)) (fun q => q.k) ⟨X, false, n⟩ ⟨rfl, rfl, rfl, rfl, trivial⟩ ⟨Nat.le_refl _, h1, h2, h3, fun h => by simp at h, fun _ => ⟨rfl, fun i hi v hs => absurd (h3.stepLive hs).lt (by dsimp only at hi; omega)⟩⟩ (fun q hq => ?_)
    obtain ⟨Y, t, k⟩ := q
    obtain ⟨g0, g1, g2, g3, g4, g5⟩ := hq
    dsimp only at *
    cases k with
    | zero =>
      refine GX.wa_R ?_; intros
      refine again ⟨Y, t⟩ ⟨rfl, rfl, rfl, trivial⟩ ⟨g1, g2, g3, fun ht i v => (g5 ht).2 i (Nat.zero_le _) v⟩ ?_
      dsimp only
      have hs1 := size_le n (HS Y)
      cases t with
      | true => have := g4 rfl; simp; omega
      | false => rw [(g5 rfl).1]; simp
    | succ m =>
      have hm : m < c.ins.length := by omega
      obtain ⟨s, hs⟩ := get_lt (show m < Y.length by omega)
      have em : ((m + 1 : Nat) : Int) - 1 = (m : Int) := by omega
      rw [em]
      refine GX.wa_R ?_; intros
      have ha := fun cs2 => aheadO_spec cs2 c hA (some ⟨g, 0, none⟩) n Y (by omega) g2 m hm
      rw [g1] at ha
      refine GX.o (cl (ha _) fun s2 => ?_)
      obtain ⟨cs2, r, hr⟩ := s2
      dsimp only
      refine GX.wa_R ?_; intros
      refine GX.nmP 6 ?_; rintro b6 rfl
      refine GX.drawn2 (Box 50 tySet b6 r) (Own 50 tySet (some ⟨g, 0, none⟩) n Y) (fun j => !(List.contains [] j)) [(0, true), (1, true), (2, true), (3, true), (4, true), (5, true)] rfl (by kernel_rfl) (by kernel_rfl) (by first | ((repeat (first | apply Go.GX.SelR.nil | apply Go.GX.SelR.cons | (with_reducible apply Go.GX.TakeR.head) | apply Go.GX.TakeR.tail)); done) | (repeat (first | apply Go.GX.SelR.nil | apply Go.GX.SelR.cons | apply Go.GX.TakeR.head | apply Go.GX.TakeR.tail))) ?_; intro wd F hW hR
      refine GX.wa_T ?_; intros
      refine GX.unpin (Own 50 tySet (some ⟨g, 0, none⟩) n _) ?_
      refine GX.unpin (Box 50 tySet b6 _) ?_
      by_cases hne : r ≠ s
      · obtain ⟨k1, k2, k3⟩ := turn (by omega) g2 g3 hm hs hr hne
        rw [← hn0] at k3
        refine GX.wa_R ?_; intros
        refine again ⟨Y.set m r, true, m⟩ ⟨rfl, rfl, rfl, rfl, trivial⟩ ⟨by dsimp only; omega, by dsimp only; rw [List.length_set]; exact g1, k1, k2, fun _ => ?_, fun h => by simp at h⟩ (by dsimp only; omega)
        dsimp only
        cases t with
        | true => have := g4 rfl; omega
        | false => rw [(g5 rfl).1] at k3; rw [(g5 rfl).1]; exact k3
      · have he : r = s := Classical.not_not.1 hne
        refine GX.wa_R ?_; intros
        refine again ⟨Y, t, m⟩ ⟨rfl, rfl, rfl, rfl, trivial⟩ ⟨by dsimp only; omega, g1, g2, g3, g4, fun ht => ⟨(g5 ht).1, fun i hi v hst => ?_⟩⟩ (by dsimp only; omega)
        by_cases e : i = m
        · subst e
          exact (hs_get hs v).2 (by rw [← he]; exact (hr.2 v).2 hst)
        · exact (g5 ht).2 i (by dsimp only at hi; omega) v hst
  | false =>
    have hfix := h4 rfl
    clear h4
    refine frz (some ⟨g, 0, none⟩ : Option Addr) ?_
    refine GX.wa_RO ?_; intros
    refine GX.nmB 7 ?_; rintro gl rfl
    rw [← hn0]
    refine GX.loop (σ := Nat) (fun i => [(3, .slice (some ⟨g, 0, none⟩) n n), (7, .slice (some ⟨gl, 0, none⟩) n n), (41, .int .i64 (n : Int)), (42, .int .i64 (i : Int))]) (fun _ => []) (fun i => [Own 33 (Ty.slice Ty.int) (some ⟨gl, 0, none⟩) n (outL X i)])
      (fun i => i ≤ n) (fun i => n - i) 0 ⟨rfl, rfl, rfl, rfl, trivial⟩ (Nat.zero_le _) (fun i hi => ?_) (h2 := by rw [show outL X 0 = List.replicate n [] by unfold outL; rw [List.take_zero, List.map_nil, List.nil_append, Nat.sub_zero, h1]]; first | ((repeat (first | apply Go.GX.SelR.nil | apply Go.GX.SelR.cons | (with_reducible apply Go.GX.TakeR.head) | apply Go.GX.TakeR.tail)); done) | (repeat (first | apply Go.GX.SelR.nil | apply Go.GX.SelR.cons | apply Go.GX.TakeR.head | apply Go.GX.TakeR.tail)))
    have hol := outL_len X (i := i) (by omega)
    by_cases hlt : i < n
    · obtain ⟨s, hs⟩ := get_lt (show i < X.length by omega)
      have hsg := h2 s (List.mem_of_getElem? hs)
      obtain ⟨y, hy⟩ := get_lt (show i < (outL X i).length by omega)
      have hset := outL_set hs
      refine GX.wa_R ?_; intros
      refine GX.slPl (bl := g) i (i * 63) ?_ (ho := by show 0 + i * 63 = i * 63; omega)
      refine GX.o (cl (list_spec _ _ s hsg) fun s2 => ?_)
      obtain ⟨aL, cL⟩ := s2
      dsimp only
      refine frz aL ?_
      refine GX.wa_R ?_; intros
      rw [hset]
      exact again (i + 1) ⟨rfl, rfl, rfl, rfl, trivial⟩ (by omega) (by omega)
    · have hin : i = X.length := by omega
      have hb : outL X i = befores c.ins := by
        rw [hin]
        unfold outL
        rw [List.take_length, Nat.sub_self, List.replicate_zero, List.append_nil]
        refine befores_of (by rw [List.length_map]; omega) fun k s hks => ?_
        rw [List.getElem?_map] at hks
        obtain ⟨z, hz, rfl⟩ := Option.map_eq_some_iff.1 hks
        refine ⟨lst_rise z 4032, fun v => ?_⟩
        rw [lst_mem, ← hs_get hz]
        exact ⟨h3.live k v, fix_live hfix⟩
      have hbl : n = (befores c.ins).length := by rw [befores_len]; exact hn0
      rw [hb]
      refine GX.wa_R ?_; intros
      refine frz (some ⟨gl, 0, none⟩ : Option Addr) ?_
      rw [← hbl]
      exact rt1 (some ⟨gl, 0, none⟩, n) rfl
end Go.Proofs.Ytnpbadghodkhlaa

/- Codes that only lead on: what is live. No program in sight. -/
namespace Go.LivM
open Go.RiseM Go.Api Go.FlowM
theorem befores_fwd {ins : List Ins} {l : List (List Int)} (hf : ∀ i j : Nat, (j : Int) ∈ next ins i → i < j) (hl : l.length = ins.length) (hr : ∀ s ∈ l, Rise s)
    (hx : ∀ (i : Nat) s x, l[i]? = some s → ins[i]? = some x → ∀ v, v ∈ s ↔ v ∈ uses x ∨ def_ x ≠ v ∧ ∃ j : Nat, (j : Int) ∈ next ins i ∧ ∃ s2, l[j]? = some s2 ∧ v ∈ s2) : befores ins = l := by
  have key : ∀ d i : Nat, ins.length - i ≤ d → ∀ s, l[i]? = some s → ∀ v, v ∈ s ↔ Live ins i v := by
    intro d
    induction d with
    | zero =>
      intro i hi s hs
      have := (List.getElem?_eq_some_iff.1 hs).1
      omega
    | succ d ih =>
      intro i hi s hs v
      have hil := (List.getElem?_eq_some_iff.1 hs).1
      have hil2 : i < ins.length := by omega
      have hxi : ins[i]? = some ins[i] := List.getElem?_eq_getElem hil2
      rw [hx i s _ hs hxi]
      constructor
      · rintro (h | ⟨h, j, hj, s2, hs2, hv⟩)
        · exact .use hxi h
        · exact .pass hxi h hj ((ih j (by have := hf i j hj; omega) s2 hs2 v).1 hv)
      · intro h
        cases h with
        | use h2 h3 => rw [hxi] at h2; cases h2; exact .inl h3
        | pass h2 h3 h4 h5 =>
          rename_i j y
          rw [hxi] at h2; cases h2
          have hj := h5.lt
          exact .inr ⟨h3, j, h4, l[j], List.getElem?_eq_getElem (by omega), (ih j (by have := hf i j h4; omega) _ (List.getElem?_eq_getElem (by omega)) v).2 h5⟩
  exact (befores_of hl fun i s hs => ⟨hr s (List.mem_of_getElem? hs), key _ i (Nat.le_refl _) s hs⟩).symm
def c16 : Api.Code := ⟨0, [], false, ⟨0, 0, 0⟩, [⟨1, 1, 0, 0, 0, []⟩, ⟨15, 1, 0, 0, 0, []⟩, ⟨18, 0, 0, 0, 0, []⟩]⟩
theorem c16_before : befores c16.ins = [[0], [0, 1], [0]] := by
  have n0 : next c16.ins ((0 : Nat) : Int) = [1] := by decide
  have n1 : next c16.ins ((1 : Nat) : Int) = [2] := by decide
  have n2 : next c16.ins ((2 : Nat) : Int) = [] := by decide
  refine befores_fwd (fun i j h => ?_) rfl (by decide) (fun i s x hs hx v => ?_)
  · match i with
    | 0 => rw [n0] at h; simp at h; omega
    | 1 => rw [n1] at h; simp at h; omega
    | 2 => rw [n2] at h; simp at h
    | i + 3 => rw [next_none (.inr (by show (3 : Int) ≤ _; omega))] at h; simp at h
  · match i with
    | 0 =>
      cases hs; cases hx
      rw [n0, show uses ⟨1, 1, 0, 0, 0, []⟩ = [] by decide, show def_ ⟨1, 1, 0, 0, 0, []⟩ = 1 by decide]
      constructor
      · intro h
        simp at h
        exact .inr ⟨by omega, 1, by simp, [0, 1], rfl, by simp [h]⟩
      · rintro (h | ⟨h, j, hj, s2, hs2, hv⟩)
        · simp at h
        · simp at hj
          obtain rfl : j = 1 := by omega
          cases hs2
          simp at hv
          rcases hv with hv | hv
          · simp [hv]
          · omega
    | 1 =>
      cases hs; cases hx
      rw [n1, show uses ⟨15, 1, 0, 0, 0, []⟩ = [1] by decide, show def_ ⟨15, 1, 0, 0, 0, []⟩ = -1 by decide]
      constructor
      · intro h
        simp at h
        rcases h with h | h
        · exact .inr ⟨by omega, 2, by simp, [0], rfl, by simp [h]⟩
        · exact .inl (by simp [h])
      · rintro (h | ⟨h, j, hj, s2, hs2, hv⟩)
        · simp at h; simp [h]
        · simp at hj
          obtain rfl : j = 2 := by omega
          cases hs2
          simp at hv
          simp [hv]
    | 2 =>
      cases hs; cases hx
      rw [n2, show uses ⟨18, 0, 0, 0, 0, []⟩ = [0] by decide]
      simp
    | i + 3 => simp at hs
/-- A line of copies. -/
def lineI (n : Nat) : List Ins := ((List.range n).map fun i : Nat => (⟨3, (i : Int) + 1, (i : Int), 0, 0, []⟩ : Ins)) ++ [⟨18, (n : Int), 0, 0, 0, []⟩]
theorem lineI_len (n : Nat) : (lineI n).length = n + 1 := by simp [lineI]
theorem lineI_get {n i : Nat} (h : i < n) : (lineI n)[i]? = some ⟨3, (i : Int) + 1, (i : Int), 0, 0, []⟩ := by
  unfold lineI
  rw [List.getElem?_append_left (by simp; exact h), List.getElem?_map, List.getElem?_range h]; rfl
theorem lineI_last (n : Nat) : (lineI n)[n]? = some ⟨18, (n : Int), 0, 0, 0, []⟩ := by
  unfold lineI
  rw [List.getElem?_append_right (by simp)]
  simp
theorem line_before {n : Nat} (hn : n ≤ 60) : befores (lineI n) = (List.range (n + 1)).map fun i : Nat => [(i : Int)] := by
  have nx : ∀ i : Nat, i < n → next (lineI n) (i : Int) = [(i : Int) + 1] := fun i hi => by
    rw [next_some (lineI_get hi)]
    unfold nextOf targets
    have h1 : In (lineI n).length ((i : Int) + 1) := ⟨by omega, by rw [lineI_len]; omega⟩
    simp only [show ¬ (3 : Int) = 18 by decide, show ¬ (3 : Int) = 16 by decide, show ¬ (3 : Int) = 17 by decide, if_false]
    rw [show [(i : Int) + 1].filter (fun y => decide (In (lineI n).length y)) = [(i : Int) + 1] by rw [List.filter_cons, if_pos (decide_eq_true h1)]; rfl]
    rfl
  have nl : next (lineI n) (n : Int) = [] := by
    rw [next_some (lineI_last n)]
    rfl
  have hg : ∀ i : Nat, i < n + 1 → ((List.range (n + 1)).map fun i => [((i : Nat) : Int)])[i]? = some [(i : Int)] := fun i hi => by
    rw [List.getElem?_map, List.getElem?_range hi]; rfl
  refine befores_fwd (fun i j h => ?_) (by rw [lineI_len]; simp) (fun s hs => ?_) (fun i s x hs hx v => ?_)
  · by_cases hi : i < n
    · rw [nx i hi] at h
      simp at h
      omega
    · by_cases hi2 : i = n
      · rw [hi2, nl] at h; simp at h
      · rw [next_none (.inr (by rw [lineI_len]; omega))] at h; simp at h
  · obtain ⟨i, _, rfl⟩ := List.mem_map.1 hs
    exact List.pairwise_singleton _ _
  · have hil : i < n + 1 := by
      have := (List.getElem?_eq_some_iff.1 hs).1
      simpa using this
    rw [hg i hil] at hs
    cases hs
    by_cases hi : i < n
    · rw [lineI_get hi] at hx
      cases hx
      have hu : ∀ w : Int, w ∈ uses ⟨3, (i : Int) + 1, (i : Int), 0, 0, []⟩ ↔ w = i := fun w => by
        rw [uses_in]
        simp only [asks, true_or, if_true, List.mem_singleton]
        exact ⟨fun h => h.1, fun h => ⟨h, ⟨by omega, by omega⟩⟩⟩
      have hd : def_ ⟨3, (i : Int) + 1, (i : Int), 0, 0, []⟩ = (i : Int) + 1 := if_pos ⟨.inr (.inr (.inl rfl)), ⟨by dsimp only; omega, by dsimp only; omega⟩⟩
      rw [hu, hd, nx i hi]
      simp only [List.mem_singleton]
      constructor
      · exact fun h => .inl h
      · rintro (h | ⟨h, j, hj, s2, hs2, hv⟩)
        · exact h
        · obtain rfl : j = i + 1 := by omega
          rw [hg _ (by omega)] at hs2
          cases hs2
          simp at hv
          omega
    · obtain rfl : i = n := by omega
      rw [lineI_last] at hx
      cases hx
      have hu : ∀ w : Int, w ∈ uses ⟨18, (i : Int), 0, 0, 0, []⟩ ↔ w = i := fun w => by
        rw [uses_in]
        simp [asks]
        omega
      rw [hu, nl]
      simp
end Go.LivM
