import Derived.Test.YtdkhfjcbhpfkoaaM9
import Derived.Test.YtdkhfjcbhpfkoaaM10
import Derived.Test.YtdkhfjcbhpfkoaaM12
/- Reading numbers back from bytes, plainly. No program in sight. -/
namespace Go.NumM
open Go Go.GX Go.Api

/-- What a reader may say: 'x', with 'D2' left over and the mark 'd2', where 'D' lay ahead and the mark was 'd'. -/
structure Rdn {α : Type} (enc : α → List Int) (ok : α → Prop) (D : List Int) (d : Bool) (x : α) (D2 : List Int) (d2 : Bool) : Prop where
  good : ok x
  len : D2.length ≤ D.length
  mark : d2 = false → d = false
  size : d2 = false → (enc x).length + 10 * D2.length ≤ 10 * D.length
  back : d = false → ∀ y rest, ok y → D = enc y ++ rest → x = y ∧ D2 = rest ∧ d2 = false
/-- What a reader leaves behind. -/
structure RdnS {α : Type} (enc : α → List Int) (ok : α → Prop) (D : List Int) (d : Bool) where
  x : α
  c : Option Addr × Nat
  D2 : List Int
  d2 : Bool
  h : Rdn enc ok D d x D2 d2

theorem or64 {a b : Nat} (ha : a < 18446744073709551616) (hb : b < 18446744073709551616) : bOr .u64 (a : Int) (b : Int) = ((a ||| b : Nat) : Int) := by
  have e2 : ∀ z : Nat, BitVec.ofInt 64 (z : Int) = BitVec.ofNat 64 z := fun z => by apply BitVec.eq_of_toNat_eq; simp
  have e : bOr .u64 (a : Int) (b : Int) = IntKind.u64.wrap ((BitVec.ofInt 64 (a : Int) ||| BitVec.ofInt 64 (b : Int)).toNat : Int) := rfl
  have hlt : a ||| b < 2 ^ 64 := Nat.or_lt_two_pow (by omega) (by omega)
  rw [e, e2, e2, BitVec.toNat_or, BitVec.toNat_ofNat, BitVec.toNat_ofNat, Nat.mod_eq_of_lt (by omega), Nat.mod_eq_of_lt (by omega), wrap_u64_nat (by omega)]
theorem and64 {a b : Nat} (ha : a < 18446744073709551616) (hb : b < 18446744073709551616) : bAnd .u64 (a : Int) (b : Int) = ((a &&& b : Nat) : Int) := by
  have e2 : ∀ z : Nat, BitVec.ofInt 64 (z : Int) = BitVec.ofNat 64 z := fun z => by apply BitVec.eq_of_toNat_eq; simp
  have e : bAnd .u64 (a : Int) (b : Int) = IntKind.u64.wrap ((BitVec.ofInt 64 (a : Int) &&& BitVec.ofInt 64 (b : Int)).toNat : Int) := rfl
  have hlt : a &&& b < 2 ^ 64 := Nat.and_lt_two_pow _ (by omega)
  rw [e, e2, e2, BitVec.toNat_and, BitVec.toNat_ofNat, BitVec.toNat_ofNat, Nat.mod_eq_of_lt (by omega), Nat.mod_eq_of_lt (by omega), wrap_u64_nat (by omega)]
theorem shl64 {a i : Nat} (hi : i ≤ 64) (h : a * 2 ^ i < 18446744073709551616) : shlV .u64 (a : Int) (i : Int) = ((a * 2 ^ i : Nat) : Int) := by
  have e : min (i : Int).toNat IntKind.u64.bits = i := by rw [Int.toNat_natCast]; exact Nat.min_eq_left hi
  unfold shlV
  rw [e]
  have : (a : Int) * 2 ^ i = ((a * 2 ^ i : Nat) : Int) := by simp
  rw [this, wrap_u64_nat h]
theorem not_fin : ∀ i : Fin 256, IntKind.u64.wrap (bNot .u8 ((i.val : Nat) : Int) 128) = ((i.val % 128 : Nat) : Int) := by decide +kernel
theorem and_fin : ∀ i : Fin 256, IntKind.u64.wrap (bAnd .u8 ((i.val : Nat) : Int) 127) = ((i.val % 128 : Nat) : Int) := by decide +kernel
theorem not8 {c : Nat} (h : c < 256) : IntKind.u64.wrap (bNot .u8 (c : Int) 128) = ((c % 128 : Nat) : Int) := not_fin ⟨c, h⟩
theorem and8 {c : Nat} (h : c < 256) : IntKind.u64.wrap (bAnd .u8 (c : Int) 127) = ((c % 128 : Nat) : Int) := and_fin ⟨c, h⟩
/-- The low bits of 'c', as either reader takes them. -/
def Low (c l : Int) : Prop := ∀ k : Nat, c = (k : Int) → k < 256 → l = ((k % 128 : Nat) : Int)
theorem low_p (c : Int) : Low c (IntKind.u64.wrap (bNot .u8 c 128)) := fun k h hk => by rw [h]; exact not8 hk
theorem low_r (c : Int) : Low c (IntKind.u64.wrap (bAnd .u8 c 127)) := fun k h hk => by rw [h]; exact and8 hk
theorem or_step {z i : Nat} (hz : z < 18446744073709551616) (hi : 7 * i ≤ 64) : bOr .u64 ((z % 2 ^ (7 * i) : Nat) : Int) (shlV .u64 ((z / 2 ^ (7 * i) % 128 : Nat) : Int) ((7 * i : Nat) : Int)) = ((z % 2 ^ (7 * (i + 1)) : Nat) : Int) := by
  have h1 : z / 2 ^ (7 * i) * 2 ^ (7 * i) ≤ z := Nat.div_mul_le_self _ _
  have h2 : z / 2 ^ (7 * i) % 128 * 2 ^ (7 * i) ≤ z := Nat.le_trans (Nat.mul_le_mul_right _ (Nat.mod_le _ _)) h1
  have h3 : z % 2 ^ (7 * i) ≤ z := Nat.mod_le _ _
  rw [shl64 hi (by omega), or64 (by omega) (by omega)]
  congr 1
  have h4 : z % 2 ^ (7 * i) < 2 ^ (7 * i) := Nat.mod_lt _ (Nat.two_pow_pos _)
  have h5 := Nat.shiftLeft_add_eq_or_of_lt h4 (z / 2 ^ (7 * i) % 128)
  rw [Nat.shiftLeft_eq] at h5
  rw [Nat.or_comm, ← h5]
  have e : 2 ^ (7 * (i + 1)) = 2 ^ (7 * i) * 128 := by rw [Nat.mul_add, Nat.pow_add]
  rw [e, Nat.mod_mul]
  rw [Nat.mul_comm, Nat.add_comm]
theorem i64_wrap (v : Int) : I64 (IntKind.i64.wrap v) := by
  have h : IntKind.i64.wrap v = if 9223372036854775808 ≤ v % 18446744073709551616 then v % 18446744073709551616 - 18446744073709551616 else v % 18446744073709551616 := by
    simp [IntKind.wrap, IntKind.signed, IntKind.bits]
  rw [h]
  split
  · exact ⟨by omega, by omega⟩
  · exact ⟨by omega, by omega⟩
/-- Half way through a number: 'i' bytes are read, and 'v' is what they tell. -/
def Mid (D : List Int) (i : Nat) (v : Int) : Prop := ∀ y rest, I64 y → D = num y ++ rest → D.drop i = enc (zig y / 2 ^ (7 * i)) ++ rest ∧ v = ((zig y % 2 ^ (7 * i) : Nat) : Int) ∧ (i = 0 ∨ 2 ^ (7 * i) ≤ zig y)
theorem mid0 (D : List Int) : Mid D 0 0 := fun y rest hy h => ⟨by simpa [num] using h, by simp [Nat.mod_one], .inl rfl⟩
theorem enc_ne (z : Nat) : ∃ c l, enc z = (c : Int) :: l := by
  by_cases h : z < 128
  · exact ⟨_, _, enc_small h⟩
  · exact ⟨_, _, enc_big h⟩
theorem mid_lt {D : List Int} {i : Nat} {v : Int} (h : Mid D i v) {y : Int} {rest : List Int} (hy : I64 y) (hD : D = num y ++ rest) : i < D.length ∧ i ≤ 9 := by
  obtain ⟨h1, h2, h3⟩ := h y rest hy hD
  obtain ⟨c, l, hc⟩ := enc_ne (zig y / 2 ^ (7 * i))
  rw [hc] at h1
  have h4 := congrArg List.length h1
  rw [List.length_drop] at h4
  simp at h4
  refine ⟨by omega, ?_⟩
  rcases h3 with h3 | h3
  · omega
  · have h5 := zig_lt hy
    have h6 : 2 ^ (7 * i) < 2 ^ 64 := by omega
    have := (Nat.pow_lt_pow_iff_right (show 1 < 2 by omega)).1 h6
    omega
theorem get_drop {D : List Int} {i : Nat} {c x : Int} {l : List Int} (h : D[i]? = some c) (h2 : D.drop i = x :: l) : c = x ∧ D.drop (i + 1) = l := by
  have h3 : (D.drop i)[0]? = D[i]? := by simp
  rw [h2, h] at h3
  have h4 : (D.drop i).drop 1 = D.drop (i + 1) := by simp
  rw [h2] at h4
  exact ⟨(by simpa using h3.symm), by simpa using h4.symm⟩
theorem mid_step {D : List Int} {i : Nat} {v c l : Int} (h : Mid D i v) (hc : D[i]? = some c) (hb : ¬ c < 128) (hl : Low c l) : Mid D (i + 1) (bOr .u64 v (shlV .u64 l ((7 * i : Nat) : Int))) := by
  intro y rest hy hD
  obtain ⟨h1, h2, h3⟩ := h y rest hy hD
  have h9 := (mid_lt h hy hD).2
  have hz : ¬ zig y / 2 ^ (7 * i) < 128 := by
    intro hz
    rw [enc_small hz] at h1
    have := (get_drop hc h1).1
    omega
  rw [enc_big hz, List.cons_append] at h1
  obtain ⟨g1, g2⟩ := get_drop hc h1
  have hl' := hl _ g1 (by omega)
  have e : 2 ^ (7 * (i + 1)) = 2 ^ (7 * i) * 128 := by rw [Nat.mul_add, Nat.pow_add]
  refine ⟨?_, ?_, .inr ?_⟩
  · rw [g2, e, Nat.div_div_eq_div_mul]
  · rw [hl', h2, show (128 + zig y / 2 ^ (7 * i) % 128) % 128 = zig y / 2 ^ (7 * i) % 128 by omega]
    exact or_step (zig_lt hy) (by omega)
  · rw [e]
    have := Nat.div_mul_le_self (zig y) (2 ^ (7 * i))
    exact Nat.le_trans (by rw [Nat.mul_comm]; exact Nat.mul_le_mul_right _ (by omega)) this
theorem mid_end {D : List Int} {i : Nat} {v c l : Int} (h : Mid D i v) (hc : D[i]? = some c) (hb : c < 128) (hl : Low c l) {y : Int} {rest : List Int} (hy : I64 y) (hD : D = num y ++ rest) : D.drop (i + 1) = rest ∧ bOr .u64 v (shlV .u64 l ((7 * i : Nat) : Int)) = (zig y : Int) := by
  obtain ⟨h1, h2, h3⟩ := h y rest hy hD
  have h9 := (mid_lt h hy hD).2
  have hz : zig y / 2 ^ (7 * i) < 128 := by
    refine Decidable.byContradiction fun hz => ?_
    rw [enc_big hz] at h1
    have := (get_drop hc h1).1
    omega
  rw [enc_small hz, List.singleton_append] at h1
  obtain ⟨g1, g2⟩ := get_drop hc h1
  have hl' := hl _ g1 (by omega)
  refine ⟨g2, ?_⟩
  rw [hl', h2, or_step (zig_lt hy) (by omega), Nat.mod_eq_of_lt]
  have e : 2 ^ (7 * (i + 1)) = 2 ^ (7 * i) * 128 := by rw [Nat.mul_add, Nat.pow_add]
  rw [e]
  rw [Nat.div_lt_iff_lt_mul (Nat.two_pow_pos _)] at hz
  rw [Nat.mul_comm]; exact hz
/-- The number that 'v' stands for, as package code finds it. -/
def zagP (v : Int) : Int := if bAnd .u64 v 1 = 1 then cplV .i64 (IntKind.i64.wrap (shrV .u64 v 1)) else IntKind.i64.wrap (shrV .u64 v 1)
def zagR (v : Int) : Int := if bAnd .u64 v 1 = 1 then IntKind.i64.wrap (cplV .u64 (shrV .u64 v 1)) else IntKind.i64.wrap (shrV .u64 v 1)
theorem zagP_ok (v : Int) : I64 (zagP v) := by unfold zagP; split <;> exact i64_wrap _
theorem zagR_ok (v : Int) : I64 (zagR v) := by unfold zagR; split <;> exact i64_wrap _
theorem low1 {z : Nat} (h : z < 18446744073709551616) : bAnd .u64 (z : Int) 1 = ((z % 2 : Nat) : Int) := by
  have := and64 h (show 1 < 18446744073709551616 by omega)
  rw [Nat.and_one_is_mod] at this
  exact this
theorem wrap_i64 {n : Int} (h : -9223372036854775808 ≤ n ∧ n ≤ 9223372036854775807) : IntKind.i64.wrap n = n := by
  have e : IntKind.i64.wrap n = if 9223372036854775808 ≤ n % 18446744073709551616 then n % 18446744073709551616 - 18446744073709551616 else n % 18446744073709551616 := by
    simp [IntKind.wrap, IntKind.signed, IntKind.bits]
  rw [e]; split <;> omega
theorem cpl_i64 {z : Nat} (h : z < 9223372036854775808) : cplV .i64 (z : Int) = -(z : Int) - 1 := by
  have e1 : BitVec.ofInt 64 (-1) = BitVec.allOnes 64 := by decide
  have e2 : BitVec.ofInt 64 (z : Int) = BitVec.ofNat 64 z := by apply BitVec.eq_of_toNat_eq; simp
  have key : cplV .i64 (z : Int) = IntKind.i64.wrap ((BitVec.ofInt 64 (-1) ^^^ BitVec.ofInt 64 (z : Int)).toNat : Int) := by
    unfold cplV
    simp only [IntKind.signed]
    rfl
  rw [key, e1, e2, BitVec.xor_comm, BitVec.xor_allOnes, BitVec.toNat_not, BitVec.toNat_ofNat, Nat.mod_eq_of_lt (by omega)]
  have e : ∀ n : Int, IntKind.i64.wrap n = if 9223372036854775808 ≤ n % 18446744073709551616 then n % 18446744073709551616 - 18446744073709551616 else n % 18446744073709551616 := by
    intro n; simp [IntKind.wrap, IntKind.signed, IntKind.bits]
  rw [e]; split <;> omega
theorem wrap_cpl {z : Nat} (h : z < 9223372036854775808) : IntKind.i64.wrap (cplV .u64 (z : Int)) = -(z : Int) - 1 := by
  rw [cpl_u64 (by omega)]
  have e : ∀ n : Int, IntKind.i64.wrap n = if 9223372036854775808 ≤ n % 18446744073709551616 then n % 18446744073709551616 - 18446744073709551616 else n % 18446744073709551616 := by
    intro n; simp [IntKind.wrap, IntKind.signed, IntKind.bits]
  rw [e]; split <;> omega
theorem zag_of {y : Int} (hy : I64 y) : zagP (zig y) = y ∧ zagR (zig y) = y := by
  have hz := zig_lt hy
  have hb := zag_zig y
  unfold zag at hb
  unfold zagP zagR
  rw [low1 hz, shr1]
  by_cases h : zig y % 2 = 1
  · rw [if_pos h] at hb
    rw [if_pos (by omega), if_pos (by omega), wrap_i64 (by omega), cpl_i64 (by omega), wrap_cpl (by omega)]
    exact ⟨hb, hb⟩
  · rw [if_neg h] at hb
    rw [if_neg (by omega), if_neg (by omega), wrap_i64 (by omega)]
    exact ⟨hb, hb⟩
/-- The end of a number. -/
theorem rd_num {D : List Int} {d : Bool} {i : Nat} {v c l x : Int} (h : Mid D i v) (hc : D[i]? = some c) (hb : c < 128) (hl : Low c l) (hx : x = zagP (bOr .u64 v (shlV .u64 l ((7 * i : Nat) : Int))) ∨ x = zagR (bOr .u64 v (shlV .u64 l ((7 * i : Nat) : Int)))) : Rdn num I64 D d x (D.drop (i + 1)) d := by
  have hx6 : I64 x := by rcases hx with rfl | rfl; exact zagP_ok _; exact zagR_ok _
  have hi : i < D.length := by
    have := List.getElem?_eq_some_iff.1 hc
    exact this.1
  have hn := Go.Proofs.Ytdkhfjcbhpfkoaa.num_len x hx6
  refine ⟨hx6, by rw [List.length_drop]; omega, fun h => h, fun _ => by rw [List.length_drop]; omega, fun hd y rest hy hD => ?_⟩
  obtain ⟨h1, h2⟩ := mid_end h hc hb hl hy hD
  refine ⟨?_, h1, hd⟩
  rw [h2] at hx
  rcases hx with rfl | rfl
  · exact (zag_of hy).1
  · exact (zag_of hy).2
/-- No number. -/
theorem rd_bad {D D2 : List Int} {d : Bool} {i : Nat} {v : Int} (h : Mid D i v) (hi : d = false → D.length ≤ i ∨ 10 ≤ i) (hD2 : D2.length ≤ D.length) : Rdn num I64 D d 0 D2 true :=
  ⟨⟨by omega, by omega⟩, hD2, fun h => absurd h (by decide), fun h => absurd h (by decide), fun hd y rest hy hD => by
    have := mid_lt h hy hD
    have := hi hd
    omega⟩
end Go.NumM

/- Reading lists and structures back from bytes, plainly. No program in sight. -/
namespace Go.NumM
open Go Go.GX Go.Api

theorem num_pos (x : Int) : 1 ≤ (num x).length := by
  obtain ⟨c, l, h⟩ := enc_ne (zig x)
  unfold num; rw [h]; simp
theorem fm_len {α : Type} {f : α → List Int} {l : List α} (h : ∀ x ∈ l, 1 ≤ (f x).length) : l.length ≤ (l.flatMap f).length := by
  induction l with
  | nil => simp
  | cons x l ih =>
    have h1 := h x (by simp)
    have h2 := ih (fun y hy => h y (by simp [hy]))
    rw [List.flatMap_cons, List.length_append, List.length_cons]; omega
/-- What 'many' says: a count that fits into what is left. -/
structure Rdm (D : List Int) (d : Bool) (n : Nat) (D2 : List Int) (d2 : Bool) : Prop where
  fit : n ≤ D2.length
  len : D2.length ≤ D.length
  mark : d2 = false → d = false
  size : d2 = false → (num n).length + 10 * D2.length ≤ 10 * D.length
  back : d = false → ∀ (y : Nat) rest, y ≤ 9223372036854775807 → y ≤ rest.length → D = num y ++ rest → n = y ∧ D2 = rest ∧ d2 = false
structure RdmS (D : List Int) (d : Bool) where
  n : Nat
  c : Option Addr × Nat
  D2 : List Int
  d2 : Bool
  h : Rdm D d n D2 d2
theorem rdm_ok {D : List Int} {d : Bool} {x : Int} {D2 : List Int} {d2 : Bool} (h : Rdn num I64 D d x D2 d2) {n : Nat} (hn : x = (n : Int)) (hf : n ≤ D2.length) : Rdm D d n D2 d2 := by
  subst hn
  refine ⟨hf, h.len, h.mark, h.size, fun hd y rest hy hr hD => ?_⟩
  obtain ⟨h1, h2⟩ := h.back hd (y : Int) rest ⟨by omega, by omega⟩ hD
  exact ⟨by omega, h2⟩
theorem rdm_bad {D : List Int} {d : Bool} {x : Int} {D2 : List Int} {d2 : Bool} (h : Rdn num I64 D d x D2 d2) (hn : x < 0 ∨ (D2.length : Int) < x ∨ d2 = true) : Rdm D d 0 D2 true := by
  refine ⟨Nat.zero_le _, h.len, fun h => absurd h (by decide), fun h => absurd h (by decide), fun hd y rest hy hr hD => ?_⟩
  obtain ⟨h1, h2, h3⟩ := h.back hd (y : Int) rest ⟨by omega, by omega⟩ hD
  subst h1 h2
  rw [h3] at hn
  simp at hn
  omega
def flat {α : Type} (f : α → List Int) (l : List α) : List Int := l.flatMap f
def okL {α : Type} (ok : α → Prop) (i : Nat) (l : List α) : Prop := l.length = i ∧ ∀ x ∈ l, ok x
/-- A list with its length ahead of it. -/
def encN {α : Type} (f : α → List Int) (l : List α) : List Int := num l.length ++ l.flatMap f
def okN {α : Type} (ok : α → Prop) (l : List α) : Prop := ∀ x ∈ l, ok x
section
variable {α β : Type} {e : α → List Int} {ok : α → Prop} {e2 : β → List Int} {ok2 : β → Prop} {D D1 D2 : List Int} {d d1 d2 : Bool}
theorem rdl_nil : Rdn (flat e) (okL ok 0) D d [] D d := ⟨⟨rfl, by simp⟩, Nat.le_refl _, fun h => h, fun _ => by simp [flat], fun hd y rest hy hD => by
  have : y = [] := List.length_eq_zero_iff.1 hy.1
  subst this
  exact ⟨rfl, by simpa [flat] using hD, hd⟩⟩
theorem rdl_snoc {i : Nat} {xs : List α} {x : α} (h : Rdn (flat e) (okL ok i) D d xs D1 d1) (g : Rdn e ok D1 d1 x D2 d2) : Rdn (flat e) (okL ok (i + 1)) D d (xs ++ [x]) D2 d2 := by
  refine ⟨⟨by rw [List.length_append, h.good.1]; rfl, fun y hy => ?_⟩, by have := h.len; have := g.len; omega, fun k => h.mark (g.mark k), fun k => ?_, fun hd ys rest hy hD => ?_⟩
  · rcases List.mem_append.1 hy with hy | hy
    · exact h.good.2 y hy
    · simp at hy; subst hy; exact g.good
  · have h1 := h.size (g.mark k)
    have h2 := g.size k
    unfold flat at h1 ⊢
    have h6 : [x].flatMap e = e x := by simp
    rw [List.flatMap_append, List.length_append, h6]
    omega
  · obtain ⟨hl, ha⟩ := hy
    have hne : ys ≠ [] := by intro hh; subst hh; simp at hl
    have hys : ys.dropLast ++ [ys.getLast hne] = ys := List.dropLast_concat_getLast hne
    have hD' : D = flat e ys.dropLast ++ (e (ys.getLast hne) ++ rest) := by
      rw [hD]
      have h0 := congrArg (flat e) hys
      rw [← h0]
      simp [flat, List.flatMap_append]
    obtain ⟨h1, h2, h3⟩ := h.back hd ys.dropLast _ ⟨by rw [List.length_dropLast]; omega, fun y hy => ha y ((List.dropLast_sublist ys).subset hy)⟩ hD'
    obtain ⟨g1, g2, g3⟩ := g.back h3 _ rest (ha _ (List.getLast_mem hne)) h2
    exact ⟨by rw [h1, g1, hys], g2, g3⟩
theorem rdl_end {n i : Nat} {xs : List α} (hm : Rdm D d n D1 d1) (h : Rdn (flat e) (okL ok i) D1 d1 xs D2 d2) (hi : i = n ∨ (i ≤ n ∧ d2 = true)) (hn : n ≤ 9223372036854775807) (hD : D.length ≤ 9223372036854775807) (hp : ∀ x, ok x → 1 ≤ (e x).length) : Rdn (encN e) (okN ok) D d xs D2 d2 := by
  refine ⟨h.good.2, by have := h.len; have := hm.len; omega, fun k => hm.mark (h.mark k), fun k => ?_, fun hd ys rest hy hD2 => ?_⟩
  · have h1 := h.size k
    have h2 := hm.size (h.mark k)
    have : i = n := by rcases hi with hi | hi; exact hi; rw [k] at hi; exact absurd hi.2 (by decide)
    have h5 : (encN e xs).length = (num (xs.length : Int)).length + (xs.flatMap e).length := by unfold encN; rw [List.length_append]
    rw [h5]
    rw [← this, ← h.good.1] at h2
    have h3 : (num (xs.length : Int)).length + 10 * D1.length ≤ 10 * D.length := h2
    have h4 : (xs.flatMap e).length + 10 * D2.length ≤ 10 * D1.length := h1
    generalize (num (xs.length : Int)).length = u at h3 ⊢
    generalize (xs.flatMap e).length = w at h4 ⊢
    omega
  · unfold encN at hD2
    rw [List.append_assoc] at hD2
    have hl := fm_len (f := e) (l := ys) (fun x hx => hp x (hy x hx))
    have hDl := congrArg List.length hD2
    simp only [List.length_append] at hDl
    obtain ⟨m1, m2, m3⟩ := hm.back hd ys.length _ (by omega) (by rw [List.length_append]; omega) hD2
    rcases hi with hi | ⟨hi, hb⟩
    · exact h.back m3 ys rest ⟨by omega, hy⟩ m2
    · exfalso
      have hsplit : D1 = flat e (ys.take i) ++ ((ys.drop i).flatMap e ++ rest) := by
        rw [m2]
        unfold flat
        rw [← List.append_assoc, ← List.flatMap_append, List.take_append_drop]
      have := (h.back m3 (ys.take i) _ ⟨by rw [List.length_take]; omega, fun x hx => hy x (List.mem_of_mem_take hx)⟩ hsplit).2.2
      rw [hb] at this
      exact absurd this (by decide)
theorem rd_pair {x : α} {y : β} (h : Rdn e ok D d x D1 d1) (g : Rdn e2 ok2 D1 d1 y D2 d2) : Rdn (fun p : α × β => e p.1 ++ e2 p.2) (fun p => ok p.1 ∧ ok2 p.2) D d (x, y) D2 d2 := by
  refine ⟨⟨h.good, g.good⟩, by have := h.len; have := g.len; omega, fun k => h.mark (g.mark k), fun k => ?_, fun hd p rest hp hD => ?_⟩
  · have h1 := h.size (g.mark k)
    have h2 := g.size k
    simp only [List.length_append]
    omega
  · obtain ⟨u, v⟩ := p
    simp only [List.append_assoc] at hD
    obtain ⟨h1, h2, h3⟩ := h.back hd u _ hp.1 hD
    obtain ⟨g1, g2, g3⟩ := g.back h3 v rest hp.2 h2
    exact ⟨by rw [h1, g1], g2, g3⟩
theorem rd_map {x : α} (f : α → β) (g : β → α) (h : Rdn e ok D d x D2 d2) (hg : ∀ b, ok2 b → ok (g b) ∧ e2 b = e (g b) ∧ f (g b) = b) (hx : ok x → ok2 (f x)) (he : ok x → (e2 (f x)).length ≤ (e x).length) : Rdn e2 ok2 D d (f x) D2 d2 := by
  refine ⟨hx h.good, h.len, h.mark, fun k => ?_, fun hd y rest hy hD => ?_⟩
  · have := h.size k
    have := he h.good
    omega
  · obtain ⟨g1, g2, g3⟩ := hg y hy
    obtain ⟨h1, h2⟩ := h.back hd (g y) rest g1 (by rw [hD, g2])
    exact ⟨by rw [h1, g3], h2⟩
theorem rdl_list {D D2 : List Int} {d d2 : Bool} {xs : List Int} (h : Rdn (encN num) (okN I64) D d xs D2 d2) : Rdn encL (okN I64) D d xs D2 d2 := h
end
theorem rd_ins {D D1 D2 D3 D4 D5 D6 : List Int} {d d1 d2 d3 d4 d5 d6 : Bool} {x1 x2 x3 x4 x5 : Int} {xs : List Int} (h1 : Rdn num I64 D d x1 D1 d1) (h2 : Rdn num I64 D1 d1 x2 D2 d2) (h3 : Rdn num I64 D2 d2 x3 D3 d3) (h4 : Rdn num I64 D3 d3 x4 D4 d4) (h5 : Rdn num I64 D4 d4 x5 D5 d5) (h6 : Rdn encL (okN I64) D5 d5 xs D6 d6) :
    Rdn encI Ins.ok D d ⟨x1, x2, x3, x4, x5, xs⟩ D6 d6 := by
  have e : ∀ i : Ins, encI i = ((((num i.op ++ num i.a) ++ num i.b) ++ num i.c) ++ num i.n) ++ encL i.args := fun i => by unfold encI encs; simp
  exact rd_map (fun p : ((((Int × Int) × Int) × Int) × Int) × List Int => (⟨p.1.1.1.1.1, p.1.1.1.1.2, p.1.1.1.2, p.1.1.2, p.1.2, p.2⟩ : Ins)) (fun i => (((((i.op, i.a), i.b), i.c), i.n), i.args)) (rd_pair (rd_pair (rd_pair (rd_pair (rd_pair h1 h2) h3) h4) h5) h6)
    (fun i ⟨k1, k2, k3, k4, k5, k6⟩ => ⟨⟨⟨⟨⟨⟨k1, k2⟩, k3⟩, k4⟩, k5⟩, k6⟩, e i, rfl⟩) (fun ⟨⟨⟨⟨⟨k1, k2⟩, k3⟩, k4⟩, k5⟩, k6⟩ => ⟨k1, k2, k3, k4, k5, k6⟩) (fun _ => by rw [e]; exact Nat.le_refl _)
theorem encI_pos (i : Ins) : 1 ≤ (encI i).length := by
  have := num_pos i.op
  unfold encI encs; simp; omega
theorem rd_unt {D D1 D2 D3 D4 D5 D6 : List Int} {d d1 d2 d3 d4 d5 d6 : Bool} {x1 x3 : Int} {x2 x4 x5 : List Int} {is : List Ins} (h1 : Rdn num I64 D d x1 D1 d1) (h2 : Rdn encL (okN I64) D1 d1 x2 D2 d2) (h3 : Rdn num I64 D2 d2 x3 D3 d3) (h4 : Rdn encL (okN I64) D3 d3 x4 D4 d4) (h5 : Rdn encL (okN I64) D4 d4 x5 D5 d5) (h6 : Rdn (encN encI) (okN Ins.ok) D5 d5 is D6 d6) :
    Rdn encU Unt.ok D d ⟨x1, x2, x3, x4, x5, is⟩ D6 d6 := by
  have e : ∀ i : Unt, encU i = ((((num i.params ++ encL i.vars) ++ num i.result) ++ encL i.takes) ++ encL i.owns) ++ encN encI i.ins := fun i => by unfold encU encN; simp
  exact rd_map (fun p : ((((Int × List Int) × Int) × List Int) × List Int) × List Ins => (⟨p.1.1.1.1.1, p.1.1.1.1.2, p.1.1.1.2, p.1.1.2, p.1.2, p.2⟩ : Unt)) (fun i => (((((i.params, i.vars), i.result), i.takes), i.owns), i.ins)) (rd_pair (rd_pair (rd_pair (rd_pair (rd_pair h1 h2) h3) h4) h5) h6)
    (fun i ⟨k1, k2, k3, k4, k5, k6⟩ => ⟨⟨⟨⟨⟨⟨k1, k2⟩, k3⟩, k4⟩, k5⟩, k6⟩, e i, rfl⟩) (fun ⟨⟨⟨⟨⟨k1, k2⟩, k3⟩, k4⟩, k5⟩, k6⟩ => ⟨k1, k2, k3, k4, k5, k6⟩) (fun _ => by rw [e]; exact Nat.le_refl _)
theorem encU_pos (u : Unt) : 1 ≤ (encU u).length := by
  have := num_pos u.params
  unfold encU; simp only [List.length_append]; omega
theorem num_bit (b : Bool) : (num (if b = true then 1 else 0)).length = 1 := by cases b <;> rw [num, enc_small (by decide)] <;> rfl
theorem rd_lay {D D1 D2 : List Int} {d d1 d2 : Bool} {x : Int} {xs : List Int} (h1 : Rdn num I64 D d x D1 d1) (h2 : Rdn encL (okN I64) D1 d1 xs D2 d2) : Rdn encC Layout.ok D d ⟨decide (x = 1), xs⟩ D2 d2 := by
  refine rd_map (fun p : Int × List Int => (⟨decide (p.1 = 1), p.2⟩ : Layout)) (fun c => (if c.arr = true then 1 else 0, c.refs)) (rd_pair h1 h2) (fun c k => ⟨⟨by split <;> exact ⟨by omega, by omega⟩, k⟩, rfl, ?_⟩) (fun k => k.2) (fun _ => ?_)
  · obtain ⟨a, r⟩ := c
    cases a <;> rfl
  · have := num_bit (decide (x = 1))
    have := num_pos x
    unfold encC
    simp only [List.length_append]
    omega
theorem encC_pos (c : Layout) : 1 ≤ (encC c).length := by
  have := num_pos (if c.arr = true then 1 else 0)
  unfold encC; rw [List.length_append]; omega
theorem rd_rtg {D D1 D2 D3 D4 : List Int} {d d1 d2 d3 d4 : Bool} {x : Int} {cl : List Layout} {gl : List Int} {us : List Unt} (h1 : Rdn (encN encC) (okN Layout.ok) D d cl D1 d1) (h2 : Rdn encL (okN I64) D1 d1 gl D2 d2) (h3 : Rdn (encN encU) (okN Unt.ok) D2 d2 us D3 d3) (h4 : Rdn num I64 D3 d3 x D4 d4) : Rdn encT RTg.ok D d ⟨cl, gl, us, x⟩ D4 d4 := by
  have e : ∀ t : RTg, encT t = ((encN encC t.classes ++ encL t.globals) ++ encN encU t.units) ++ num t.main := fun t => by unfold encT encN; simp
  exact rd_map (fun p : ((List Layout × List Int) × List Unt) × Int => (⟨p.1.1.1, p.1.1.2, p.1.2, p.2⟩ : RTg)) (fun t => (((t.classes, t.globals), t.units), t.main)) (rd_pair (rd_pair (rd_pair h1 h2) h3) h4)
    (fun i ⟨k1, k2, k3, k4⟩ => ⟨⟨⟨⟨k1, k2⟩, k3⟩, k4⟩, e i, rfl⟩) (fun ⟨⟨⟨k1, k2⟩, k3⟩, k4⟩ => ⟨k1, k2, k3, k4⟩) (fun _ => by rw [e]; exact Nat.le_refl _)
end Go.NumM

/- Regions in which two that act may come up in either order. No program in sight. -/
namespace Go.RX
open Go Go.RowKit Go.RR
section
variable {P : Program} {ops : Array Oper} {S : World → Prop} {hold : Nat → Bool}
/-- Behind what is taken first: either one, then the other. -/
def Fork (P : Program) (ops : Array Oper) (Q : Exit → Act → World → Prop) (S : World → Prop) (hold : Nat → Bool) (la lb : List (Nat × Bool)) : Exit → Act → World → Prop
  | .normal, a, w => wpPlan P ops Q S hold la a w ∧ wpPlan P ops Q S hold lb a w
  | e, a, w => Q e a w
def forkOk (ops : Array Oper) (hold : Nat → Bool) (la lb : List (Nat × Bool)) : List (Nat × Bool) → Array Bool → Bool
  | [], listed => match la, lb with
    | (i, false) :: ra, (j, false) :: rb => (Region.ready .any ops listed) == [i, j] && Nat.beq ra.length rb.length && planOk ops hold ra (listed.setIfInBounds i true) && planOk ops hold rb (listed.setIfInBounds j true)
    | _, _ => false
  | (i, true) :: r, listed => (Region.ready .any ops listed).contains i && freeX ops hold listed i && forkOk ops hold la lb r (listed.setIfInBounds i true)
  | (_, false) :: _, _ => false
theorem wpAnyX_of_fork {Q : Exit → Act → World → Prop} (hs : Region.noSelect ops = true) (hQ : ∀ c a d v w, Q (.panic c) (Act.put a d v) w → Q (.panic c) a w) {la lb : List (Nat × Bool)} : ∀ (pre : List (Nat × Bool)) (listed : Array Bool) (a : Act) (w : World),
    forkOk ops hold la lb pre listed = true → wpPlan P ops (Fork P ops Q S hold la lb) S hold pre a w → wpAnyX P ops Q S hold (pre.length + la.length) listed a w
  | [], listed, a, w, hp, h => by
    unfold forkOk at hp
    split at hp
    · rename_i i ra j rb
      simp only [Bool.and_eq_true, beq_iff] at hp
      obtain ⟨⟨⟨h1, h2⟩, h3⟩, h4⟩ := hp
      have hr : Region.ready .any ops listed = [i, j] := by simpa using h1
      obtain ⟨ha, hb⟩ : wpPlan P ops Q S hold ((i, false) :: ra) a w ∧ wpPlan P ops Q S hold ((j, false) :: rb) a w := h
      rw [List.length_nil, Nat.zero_add, List.length_cons]
      refine ⟨fun h0 => absurd (hr ▸ h0) (by simp), fun k hk => ?_⟩
      rw [hr] at hk
      rcases List.mem_cons.1 hk with rfl | hk
      · exact wpOp_mono (fun a' w' h5 => ⟨h5.1, wpAnyX_of_plan hs hQ ra _ a' w' h3 h5.2⟩) ha
      · obtain rfl : k = j := by simpa using hk
        rw [h2]
        exact wpOp_mono (fun a' w' h5 => ⟨h5.1, wpAnyX_of_plan hs hQ rb _ a' w' h4 h5.2⟩) hb
    · simp at hp
  | (i, true) :: r, listed, a, w, hp, ⟨oi, v, hi, hy, hS, h⟩ => by
    simp only [forkOk, Bool.and_eq_true] at hp
    have := wpAnyX_first (P := P) (Q := Q) hi (Region.noSelect_spec hs) (fun c a w => hQ c a oi.dst v w) _ (Tame oi S) (r.length + la.length) listed a w (waits_spec (List.range ops.size) [] (fun j oj _ h => by simp at h)) (freeX_spec hi hp.1.2) (by simpa using hp.1.1) hy hS (wpAnyX_of_fork hs hQ r _ _ w hp.2 h)
    rw [List.length_cons, Nat.add_right_comm]; exact this
  | (_, false) :: _, _, _, _, hp, _ => by simp [forkOk] at hp
end
theorem drawnF {P : Program} {n : Nat} {env : Env} {w : World} {Q : Exit → Act → World → Prop} {id : Nat} {l : List Oper} (S : World → Prop) (hold : Nat → Bool) (pre la lb : List (Nat × Bool)) [hm : Mixed P] (hlen : Nat.beq l.length (pre.length + la.length) = true) (hs : Region.noSelect l.toArray = true)
    (hp : forkOk l.toArray hold la lb pre (Array.replicate (pre.length + la.length) false) = true)
    (h : E n env w.drew (wpPlan P l.toArray (Fork P l.toArray (NoPanic Q) S hold la lb) S hold pre)) : E n env w ((Code.region id l.toArray true).wp P Q) := by
  constructor; intro a ha
  refine wp_region_noPanic (wp_region_any hm.m (wpAny_of_X (S := S) (hold := hold) _ _ _ _ ?_))
  have hlen : l.toArray.size = pre.length + la.length := by simpa using beq_iff.1 hlen
  rw [hlen]
  exact wpAnyX_of_fork hs (fun c a d v w h => h) pre _ a _ hp (h.run a ha)
end Go.RX
namespace Go.GX
open Go Go.RowKit Go.RR Go.RX
section
variable {P : Program} {n : Nat} {env : Env} {b : Base} {ps : List Pf} {hp hpS : List Res} {Q : Exit → Act → World → Prop} {K : Act → World → Prop}
/-- Either order: nothing of one's own is held. -/
theorem drawnF {id : Nat} {l : List Oper} (hold : Nat → Bool) (pre la lb : List (Nat × Bool)) [hm : Mixed P] (hlen : Nat.beq l.length (pre.length + la.length) = true) (hs : Region.noSelect l.toArray = true) (hpl : forkOk l.toArray hold la lb pre (Array.replicate (pre.length + la.length) false) = true)
    (h : ∀ wd F, AllP F wd ps → AllR F wd [] → G n env b (Kept wd F :: ps) hp (wpPlan P l.toArray (Fork P l.toArray (NoPanic Q) (SS wd F []) hold la lb) (SS wd F []) hold pre)) : G n env b ps hp ((Code.region id l.toArray true).wp P Q) := by
  constructor
  rintro w ⟨F, s⟩
  have s := s.drew
  refine RX.drawnF (SS w.drew F []) hold pre la lb hlen hs hpl ((h w.drew F s.fs no_r).run w.drew ⟨F, s.upd, s.lt, s.old, fun p hp => ?_, s.rs, s.apF, s.apart, s.on⟩)
  rcases List.mem_cons.1 hp with rfl | hp
  · exact ⟨Agree.refl _ _, fun _ _ h => h⟩
  · exact s.fs p hp
theorem fork {ops : Array Oper} {S : World → Prop} {hold : Nat → Bool} {la lb : List (Nat × Bool)} (ha : G n env b ps hp (wpPlan P ops Q S hold la)) (hb : G n env b ps hp (wpPlan P ops Q S hold lb)) : G n env b ps hp (wpPlan P ops (Fork P ops Q S hold la lb) S hold []) :=
  ⟨fun w s => ⟨fun a h => ⟨(ha.run w s).run a h, (hb.run w s).run a h⟩⟩⟩
end
end Go.GX

/- Regions in which those that act may come up in several orders: plans as trees. No program in sight. -/
namespace Go.RX
open Go Go.RowKit Go.RR
/-- A plan: in a row; or what is taken, then any of those that are ready. -/
inductive Tr where
  | lin : List (Nat × Bool) → Tr
  | br : List (Nat × Bool) → Tr → Tr
  | nil : Tr
  | alt : Nat → Tr → Tr → Tr
def Tr.size : Tr → Nat
  | .lin l => l.length
  | .br l t => l.length + t.size
  | .nil => 0
  | .alt _ t _ => t.size + 1
def Tr.isPlan : Tr → Bool
  | .lin _ => true
  | .br _ _ => true
  | _ => false
def Tr.idx : Tr → List Nat
  | .alt i _ r => i :: r.idx
  | _ => []
def GoK (P : Program) (ops : Array Oper) (Q : Exit → Act → World → Prop) (S : World → Prop) (hold : Nat → Bool) (i : Nat) (K : Act → World → Prop) : Act → World → Prop :=
  fun a w => wpOp P ops Q i (fun a' w' => (hold i = true → S w → S w') ∧ K a' w') a w
def AtEnd (Q : Exit → Act → World → Prop) (K : Act → World → Prop) : Exit → Act → World → Prop
  | .normal, a, w => K a w
  | e, a, w => Q e a w
def Both (K K' : Act → World → Prop) : Act → World → Prop := fun a w => K a w ∧ K' a w
def wpT (P : Program) (ops : Array Oper) (Q : Exit → Act → World → Prop) (S : World → Prop) (hold : Nat → Bool) : Tr → Act → World → Prop
  | .lin l => wpPlan P ops Q S hold l
  | .br l t => wpPlan P ops (AtEnd Q (wpT P ops Q S hold t)) S hold l
  | .nil => fun _ _ => True
  | .alt i t r => Both (GoK P ops Q S hold i (wpT P ops Q S hold t)) (wpT P ops Q S hold r)
def takesOk (ops : Array Oper) (hold : Nat → Bool) (fin : Array Bool → Bool) : List (Nat × Bool) → Array Bool → Bool
  | [], listed => fin listed
  | (i, true) :: r, listed => (Region.ready .any ops listed).contains i && freeX ops hold listed i && takesOk ops hold fin r (listed.setIfInBounds i true)
  | (_, false) :: _, _ => false
def Tr.ok (ops : Array Oper) (hold : Nat → Bool) : Tr → Nat → Array Bool → Bool
  | .lin l, n, listed => Nat.beq n l.length && planOk ops hold l listed
  | .br l t, n, listed => takesOk ops hold (fun m => (Region.ready .any ops m) == t.idx && t.ok ops hold (n - l.length) m) l listed && Nat.ble (l.length + 1) n && !t.idx.isEmpty
  | .nil, _, _ => true
  | .alt i t r, n, m => t.isPlan && t.ok ops hold (n - 1) (m.setIfInBounds i true) && r.ok ops hold n m
section
variable {P : Program} {ops : Array Oper} {S : World → Prop} {hold : Nat → Bool} {Q : Exit → Act → World → Prop}
theorem wpAnyX_takes (hs : Region.noSelect ops = true) (hQ : ∀ c a d v w, Q (.panic c) (Act.put a d v) w → Q (.panic c) a w) {fin : Array Bool → Bool} {m : Nat} {K : Act → World → Prop} (hK : ∀ listed a w, fin listed = true → K a w → wpAnyX P ops Q S hold m listed a w) :
    ∀ (l : List (Nat × Bool)) (listed : Array Bool) (a : Act) (w : World), takesOk ops hold fin l listed = true → wpPlan P ops (AtEnd Q K) S hold l a w → wpAnyX P ops Q S hold (l.length + m) listed a w
  | [], listed, a, w, hp, h => by rw [List.length_nil, Nat.zero_add]; exact hK listed a w hp h
  | (i, true) :: r, listed, a, w, hp, ⟨oi, v, hi, hy, hS, h⟩ => by
    simp only [takesOk, Bool.and_eq_true] at hp
    have := wpAnyX_first (P := P) (Q := Q) hi (Region.noSelect_spec hs) (fun c a w => hQ c a oi.dst v w) _ (Tame oi S) (r.length + m) listed a w (waits_spec (List.range ops.size) [] (fun j oj _ h => by simp at h)) (freeX_spec hi hp.1.2) (by simpa using hp.1.1) hy hS (wpAnyX_takes hs hQ hK r _ _ w hp.2 h)
    rw [List.length_cons, Nat.add_right_comm]; exact this
  | (_, false) :: _, _, _, _, hp, _ => by simp [takesOk] at hp
theorem plan_idx {t : Tr} (h : t.isPlan = true) : t.idx = [] ∧ t ≠ .nil := by
  cases t <;> simp_all [Tr.isPlan, Tr.idx]
theorem wpAnyX_of_tree (hs : Region.noSelect ops = true) (hQ : ∀ c a d v w, Q (.panic c) (Act.put a d v) w → Q (.panic c) a w) (t : Tr) : ∀ (n : Nat) (listed : Array Bool) (a : Act) (w : World),
    t.ok ops hold n listed = true → wpT P ops Q S hold t a w → (t.idx = [] → t ≠ .nil → wpAnyX P ops Q S hold n listed a w) ∧
      ∀ k ∈ t.idx, wpOp P ops Q k (fun a' w' => (hold k = true → S w → S w') ∧ wpAnyX P ops Q S hold (n - 1) (listed.setIfInBounds k true) a' w') a w := by
  induction t with
  | lin l =>
    intro n listed a w hp h
    unfold Tr.ok at hp
    rw [Bool.and_eq_true, beq_iff] at hp
    rw [hp.1]
    exact ⟨fun _ _ => wpAnyX_of_plan hs hQ l listed a w hp.2 h, fun k hk => by simp [Tr.idx] at hk⟩
  | br l t ih =>
    intro n listed a w hp h
    unfold Tr.ok at hp
    rw [Bool.and_eq_true, Bool.and_eq_true, Nat.ble_eq] at hp
    refine ⟨fun _ _ => ?_, fun k hk => by simp [Tr.idx] at hk⟩
    obtain ⟨m, rfl⟩ : ∃ m, n = l.length + (m + 1) := ⟨n - l.length - 1, by omega⟩
    refine wpAnyX_takes hs hQ (fin := fun q => (Region.ready .any ops q) == t.idx && t.ok ops hold (l.length + (m + 1) - l.length) q) (fun q a w hf hk => ?_) l listed a w hp.1.1 h
    rw [Bool.and_eq_true] at hf
    have hr : Region.ready .any ops q = t.idx := by simpa using hf.1
    have h2 := (ih _ _ _ _ hf.2 hk).2
    rw [Nat.add_sub_cancel_left, Nat.add_sub_cancel] at h2
    refine ⟨fun h0 => ?_, fun k hk' => ?_⟩
    · rw [hr] at h0
      rw [h0] at hp
      simp at hp
    · rw [hr] at hk'
      exact h2 k hk'
  | nil =>
    intro n listed a w _ _
    exact ⟨fun _ h => absurd rfl h, fun k hk => by simp [Tr.idx] at hk⟩
  | alt i t r ih1 ih2 =>
    intro n listed a w hp h
    unfold Tr.ok at hp
    rw [Bool.and_eq_true, Bool.and_eq_true] at hp
    obtain ⟨ha, hb⟩ : GoK P ops Q S hold i (wpT P ops Q S hold t) a w ∧ wpT P ops Q S hold r a w := h
    refine ⟨fun h0 => by simp [Tr.idx] at h0, fun k hk => ?_⟩
    rcases List.mem_cons.1 hk with rfl | hk
    · refine wpOp_mono (fun a' w' h5 => ⟨h5.1, ?_⟩) ha
      exact (ih1 _ _ _ _ hp.1.2 h5.2).1 (plan_idx hp.1.1).1 (plan_idx hp.1.1).2
    · exact (ih2 _ _ _ _ hp.2 hb).2 k hk
end
theorem drawnT {P : Program} {n : Nat} {env : Env} {w : World} {Q : Exit → Act → World → Prop} {id : Nat} {l : List Oper} (S : World → Prop) (hold : Nat → Bool) (t : Tr) [hm : Mixed P] (hs : Region.noSelect l.toArray = true)
    (hp : (t.isPlan && t.ok l.toArray hold l.length (Array.replicate l.length false)) = true)
    (h : E n env w.drew (wpT P l.toArray (NoPanic Q) S hold t)) : E n env w ((Code.region id l.toArray true).wp P Q) := by
  constructor; intro a ha
  refine wp_region_noPanic (wp_region_any hm.m (wpAny_of_X (S := S) (hold := hold) _ _ _ _ ?_))
  rw [Bool.and_eq_true] at hp
  have hlen : l.toArray.size = l.length := by simp
  rw [hlen]
  exact (wpAnyX_of_tree hs (fun c a d v w h => h) t _ _ a _ hp.2 (h.run a ha)).1 (plan_idx hp.1).1 (plan_idx hp.1).2
theorem goK {P : Program} {n : Nat} {env : Env} {w : World} {Q : Exit → Act → World → Prop} {S : World → Prop} {hold : Nat → Bool} {ops : Array Oper} {i : Nat} {o : Oper} {K : Act → World → Prop} (hi : nth ops.toList i = some o) (hw : Wanted n env ops o true)
    (h : OW P n env w o (Went S hold i K) Q) : E n env w (GoK P ops Q S hold i K) := by
  constructor; intro a ha
  have hi := (nth_array ops i).symm.trans hi
  have h1 : wpOp P ops Q i (Went S hold i K) a w := by
    unfold wpOp
    simp only [hi, hw a ha, if_true]
    exact .inl (h.run a ha)
  exact wpOp_mono (fun a' w' h2 => ⟨fun hh _ => h2.1 hh, h2.2⟩) h1
end Go.RX
namespace Go.GX
open Go Go.RowKit Go.RR Go.RX
section
variable {P : Program} {n : Nat} {env : Env} {b : Base} {ps : List Pf} {hp hpS : List Res} {Q : Exit → Act → World → Prop} {K : Act → World → Prop}
theorem drawnT {id : Nat} {l : List Oper} (hold : Nat → Bool) (t : Tr) [hm : Mixed P] (hs : Region.noSelect l.toArray = true) (hpl : (t.isPlan && t.ok l.toArray hold l.length (Array.replicate l.length false)) = true)
    (h : ∀ wd F, AllP F wd ps → AllR F wd [] → G n env b (Kept wd F :: ps) hp (wpT P l.toArray (NoPanic Q) (SS wd F []) hold t)) : G n env b ps hp ((Code.region id l.toArray true).wp P Q) := by
  constructor
  rintro w ⟨F, s⟩
  have s := s.drew
  refine RX.drawnT (SS w.drew F []) hold t hs hpl ((h w.drew F s.fs no_r).run w.drew ⟨F, s.upd, s.lt, s.old, fun p hp => ?_, s.rs, s.apF, s.apart, s.on⟩)
  rcases List.mem_cons.1 hp with rfl | hp
  · exact ⟨Agree.refl _ _, fun _ _ h => h⟩
  · exact s.fs p hp
variable {ops : Array Oper} {S : World → Prop} {hold : Nat → Bool}
theorem treeL {l : List (Nat × Bool)} (h_ : G n env b ps hp (wpPlan P ops Q S hold l)) : G n env b ps hp (wpT P ops Q S hold (.lin l)) := h_
theorem treeB {l : List (Nat × Bool)} {t : Tr} (h_ : G n env b ps hp (wpPlan P ops (AtEnd Q (wpT P ops Q S hold t)) S hold l)) : G n env b ps hp (wpT P ops Q S hold (.br l t)) := h_
theorem treeO {i : Nat} {t : Tr} (h_ : G n env b ps hp (GoK P ops Q S hold i (wpT P ops Q S hold t))) : G n env b ps hp (wpT P ops Q S hold (.alt i t .nil)) := ⟨fun w s => ⟨fun a ha => ⟨(h_.run w s).run a ha, trivial⟩⟩⟩
theorem treeA {i : Nat} {t r : Tr} (h1 : G n env b ps hp (GoK P ops Q S hold i (wpT P ops Q S hold t))) (h2 : G n env b ps hp (wpT P ops Q S hold r)) : G n env b ps hp (wpT P ops Q S hold (.alt i t r)) := ⟨fun w s => ⟨fun a ha => ⟨(h1.run w s).run a ha, (h2.run w s).run a ha⟩⟩⟩
theorem endK (h_ : G n env b ps hp K) : G n env b ps hp (wpPlan P ops (AtEnd Q K) S hold []) := h_
theorem gok {i : Nat} {o : Oper} (h : GO P n env b ps hp o (Went S hold i K) Q) (hi : nth ops.toList i = some o := by exact rfl) (hw : Wanted n env ops o true := by first | exact Go.RX.plain rfl | exact Go.RX.guarded rfl rfl rfl (by with_reducible rfl)) :
    G n env b ps hp (GoK P ops Q S hold i K) := ⟨fun w s => RX.goK hi hw (h.run w s)⟩
theorem s_gok {i : Nat} (h_ : G n env b ps hp (GoK P ops Q S hold i K)) : G n env b ps hp (GoK P ops Q S hold i K) := h_
end
end Go.GX
