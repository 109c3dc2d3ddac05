/- Numbers as bytes, plainly. No program in sight. -/
import Derived.Test.YtnpbadghodkhlaaGBit
namespace Go.NumM
open Go Go.GX

theorem wrap_u64 (i : Int) : IntKind.u64.wrap i = i % 18446744073709551616 := by simp [IntKind.wrap, IntKind.signed, IntKind.bits]
theorem wrap_u8 (i : Int) : IntKind.u8.wrap i = i % 256 := by simp [IntKind.wrap, IntKind.signed, IntKind.bits]
theorem wrap_u64_nat {z : Nat} (h : z < 18446744073709551616) : IntKind.u64.wrap (z : Int) = (z : Int) := by rw [wrap_u64]; omega
/-- A number without a sign. -/
def zig (n : Int) : Nat := if 0 ≤ n then (2 * n).toNat else (-2 * n - 1).toNat
/-- And back. -/
def zag (z : Nat) : Int := if z % 2 = 1 then -((z / 2 : Nat) : Int) - 1 else ((z / 2 : Nat) : Int)
theorem zag_zig (n : Int) : zag (zig n) = n := by unfold zag zig; split <;> split <;> omega
theorem zig_lt {n : Int} (h : -9223372036854775808 ≤ n ∧ n ≤ 9223372036854775807) : zig n < 18446744073709551616 := by unfold zig; split <;> omega
theorem shl1 (n : Int) (h : -9223372036854775808 ≤ n ∧ n ≤ 9223372036854775807) : shlV .u64 (IntKind.u64.wrap n) 1 = if 0 ≤ n then 2 * n else 2 * n + 18446744073709551616 := by
  have e : min (1 : Int).toNat IntKind.u64.bits = 1 := by decide
  unfold shlV
  rw [e, wrap_u64, wrap_u64]
  split <;> omega
theorem cpl_u64 {z : Nat} (h : z < 18446744073709551616) : cplV .u64 (z : Int) = ((18446744073709551615 - z : Nat) : Int) := by
  have e1 : BitVec.ofInt 64 18446744073709551615 = BitVec.allOnes 64 := by decide
  have e2 : BitVec.ofInt 64 (z : Int) = BitVec.ofNat 64 z := by
    apply BitVec.eq_of_toNat_eq
    simp
  have e3 : IntKind.u64.max = 18446744073709551615 := by decide
  have key : cplV .u64 (z : Int) = IntKind.u64.wrap ((BitVec.ofInt 64 18446744073709551615 ^^^ BitVec.ofInt 64 (z : Int)).toNat : Int) := by
    unfold cplV
    simp only [IntKind.signed, e3]
    rfl
  rw [key, e1, e2, BitVec.xor_comm, BitVec.xor_allOnes, BitVec.toNat_not, BitVec.toNat_ofNat, Nat.mod_eq_of_lt (by omega)]
  rw [wrap_u64_nat (by omega)]
theorem zig_eq (n : Int) (h : -9223372036854775808 ≤ n ∧ n ≤ 9223372036854775807) : (if n < 0 then cplV .u64 (shlV .u64 (IntKind.u64.wrap n) 1) else shlV .u64 (IntKind.u64.wrap n) 1) = (zig n : Int) := by
  rw [shl1 n h]
  by_cases hn : n < 0
  · rw [if_pos hn, if_neg (by omega)]
    obtain ⟨z, hz⟩ := Int.eq_ofNat_of_zero_le (show 0 ≤ 2 * n + 18446744073709551616 by omega)
    rw [hz, cpl_u64 (by omega)]
    unfold zig
    rw [if_neg (by omega)]; omega
  · rw [if_neg hn, if_pos (by omega)]
    unfold zig
    rw [if_pos (by omega)]; omega
theorem shr7 {z : Nat} : shrV .u64 (z : Int) 7 = ((z / 128 : Nat) : Int) := by
  have e : min (7 : Int).toNat IntKind.u64.bits = 7 := by decide
  unfold shrV
  rw [e, Int.fdiv_eq_ediv_of_nonneg _ (by decide)]
  omega
theorem shr1 {z : Nat} : shrV .u64 (z : Int) 1 = ((z / 2 : Nat) : Int) := by
  have e : min (1 : Int).toNat IntKind.u64.bits = 1 := by decide
  unfold shrV
  rw [e, Int.fdiv_eq_ediv_of_nonneg _ (by decide)]
  omega
theorem low8 (z : Nat) : IntKind.u8.wrap (z : Int) = ((z % 256 : Nat) : Int) := by rw [wrap_u8]; omega
theorem or_fin : ∀ i : Fin 256, bOr .u8 ((i.val : Nat) : Int) 128 = ((128 + i.val % 128 : Nat) : Int) := by decide +kernel
theorem or8 (z : Nat) : bOr .u8 (IntKind.u8.wrap (z : Int)) 128 = ((128 + z % 128 : Nat) : Int) := by
  rw [low8]
  have := or_fin ⟨z % 256, Nat.mod_lt _ (by omega)⟩
  simp only at this
  rw [this]; omega
/-- The bytes of a number without a sign. -/
def enc (z : Nat) : List Int := if h : z < 128 then [(z : Int)] else ((128 + z % 128 : Nat) : Int) :: enc (z / 128)
  termination_by z
  decreasing_by omega
theorem enc_small {z : Nat} (h : z < 128) : enc z = [(z : Int)] := by rw [enc, dif_pos h]
theorem enc_big {z : Nat} (h : ¬ z < 128) : enc z = ((128 + z % 128 : Nat) : Int) :: enc (z / 128) := by rw [enc, dif_neg h]
/-- The bytes of a number. -/
def num (n : Int) : List Int := enc (zig n)
end Go.NumM
