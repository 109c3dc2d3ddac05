/- The programs that RtOps makes, and when they are right. No program in sight. -/
import Derived.Test.YtfhbainbmipddaaRtMath
namespace Go.RtM
open Go.RiseM Go.ReachM Go.Api

def vs5 : List Int := [-2, -1, 0, 1, 2]
def V5 (a : Nat) : Int := (vs5[a]?).getD 0
theorem v5 {a : Nat} (h : a < 5) : ([-2, -1, 0, 1, 2] : List Int)[a]? = some (V5 a) := by
  have : ∀ a : Nat, a < 5 → ([-2, -1, 0, 1, 2] : List Int)[a]? = some (V5 a) := by decide
  exact this a h
def R3 (c : Nat) : Int := ((([-2, 0, -1] : List Int))[c]?).getD 0
theorem r3 {c : Nat} (h : c < 3) : ([-2, 0, -1] : List Int)[c]? = some (R3 c) := by
  have : ∀ a : Nat, a < 3 → ([-2, 0, -1] : List Int)[a]? = some (R3 a) := by decide
  exact this c h
def opsU (i : Ins) : Unt := ⟨0, vs5, -3, [], [], [i, ⟨18, -1, 0, 0, 0, []⟩]⟩
def opsT (i : Ins) : RTg := ⟨[⟨false, [-2, 0, -1]⟩, ⟨true, [0]⟩, ⟨true, [-2]⟩], [], [opsU i], 0⟩
def Good (i : Ins) : Prop := Bare i ∧ Fits (opsT i) (opsU i) i
instance (i : Ins) : Decidable (Good i) := by unfold Good; infer_instance
theorem opsT_right (i : Ins) : RightP (opsT i) ↔ Good i := by
  constructor
  · intro h
    exact (h.2.2.2.2.2 (opsU i) (by simp [opsT])).2 i (by simp [opsU])
  · intro h
    refine ⟨⟨by show 3 ≤ 60; omega, by show 0 ≤ 8; omega, by show 1 ≠ 0; omega, by show 1 ≤ 16; omega⟩, ⟨rfl, rfl⟩, ?_, ?_, ⟨?_, ?_⟩⟩
    · intro L hL
      have hL : L = ⟨false, [-2, 0, -1]⟩ ∨ L = ⟨true, [0]⟩ ∨ L = ⟨true, [-2]⟩ := by simpa [opsT] using hL
      rcases hL with rfl | rfl | rfl
      · refine ⟨by decide, by decide, fun n hn => ?_⟩
        have hn : n = -2 ∨ n = 0 ∨ n = -1 := by simpa using hn
        rcases hn with rfl | rfl | rfl
        · exact .inr (.inr rfl)
        · exact .inl ⟨by omega, by show (0 : Int) < 3; omega⟩
        · exact .inr (.inl rfl)
      · refine ⟨by decide, by decide, fun n hn => ?_⟩
        obtain rfl : n = 0 := by simpa using hn
        exact .inl ⟨by omega, by show (0 : Int) < 3; omega⟩
      · refine ⟨by decide, by decide, fun n hn => ?_⟩
        obtain rfl : n = -2 := by simpa using hn
        exact .inr (.inr rfl)
    · intro n hn; simp [opsT] at hn
    · show 2 + 0 ≤ 16000; omega
    · intro u hu
      obtain rfl : u = opsU i := by simpa [opsT] using hu
      refine ⟨⟨⟨?_, ?_, ?_, ?_⟩, ?_, .inl rfl, by simp [opsU], ⟨List.Pairwise.nil, ?_⟩, ⟨List.Pairwise.nil, ?_⟩, .inr (.inr rfl)⟩, ?_⟩
      · show (0 : Int) ≤ 0; omega
      · show (0 : Int) ≤ 6; omega
      · show (0 : Int) ≤ 5; omega
      · show 5 ≤ 4000; omega
      · intro n hn
        have hn : n = -2 ∨ n = -1 ∨ n = 0 ∨ n = 1 ∨ n = 2 := by simpa [opsU, vs5] using hn
        rcases hn with rfl | rfl | rfl | rfl | rfl
        · exact .inr (.inr rfl)
        · exact .inr (.inl rfl)
        · exact .inl ⟨by omega, by show (0 : Int) < 3; omega⟩
        · exact .inl ⟨by omega, by show (1 : Int) < 3; omega⟩
        · exact .inl ⟨by omega, by show (2 : Int) < 3; omega⟩
      · intro x hx; simp [opsU] at hx
      · intro x hx; simp [opsU] at hx
      · intro x hx
        have hx : x = i ∨ x = ⟨18, -1, 0, 0, 0, []⟩ := by simpa [opsU] using hx
        rcases hx with rfl | rfl
        · exact h
        · refine ⟨by decide, ?_⟩
          simp [Fits, Goes, opsU]
theorem opsT_small (i : Ins) : Small (opsT i) := by
  refine ⟨by show 3 ≤ _; omega, by simp [flds, opsT], by show 0 ≤ _; omega, by show 1 ≤ _; omega, fun u hu => ?_⟩
  obtain rfl : u = opsU i := by simpa [opsT] using hu
  exact ⟨by show 5 ≤ _; omega, by show 2 ≤ _; omega⟩

/-- An entry goes into another one. -/
def GoesTo (a b : Int) : Prop := if a = -2 ∨ b = -2 then a = b else a = b ∨ b = -1
instance (a b : Int) : Decidable (GoesTo a b) := by unfold GoesTo; infer_instance

def W4 (a b c n : Nat) : Prop := a = 0 ∧ 14 ≤ n ∧ n ≤ 24 ∧ ((n = 21 ∨ n = 22) ∧ (b = 0 ↔ c = 0) ∨ b = 0 ∧ c = 0)
instance (a b c n : Nat) : Decidable (W4 a b c n) := by unfold W4; infer_instance
def W5 (a b n : Nat) : Prop := a = 0 ∧ b = 0 ∧ (n = 12 ∨ n = 13)
instance (a b n : Nat) : Decidable (W5 a b n) := by unfold W5; infer_instance
theorem ok1 : ∀ a : Nat, a < 5 → ∀ n : Nat, n < 31 → (Good ⟨1, a, 0, 0, n, []⟩ ↔ (a : Int) = 0) := by decide +kernel
theorem ok2 : ∀ a : Nat, a < 5 → (Good ⟨2, a, 0, 0, 0, []⟩ ↔ 0 < (a : Int)) := by decide +kernel
theorem ok3 : ∀ a : Nat, a < 5 → ∀ b : Nat, b < 5 → (Good ⟨3, a, b, 0, 0, []⟩ ↔ GoesTo (V5 a) (V5 b)) := by decide +kernel
theorem ok4 : ∀ a : Nat, a < 5 → ∀ b : Nat, b < 5 → ∀ c : Nat, c < 5 → ∀ n : Nat, n < 31 → (Good ⟨4, a, b, c, n, []⟩ ↔ W4 a b c n) := by decide +kernel
theorem ok5 : ∀ a : Nat, a < 5 → ∀ b : Nat, b < 5 → ∀ n : Nat, n < 31 → (Good ⟨5, a, b, 0, n, []⟩ ↔ W5 a b n) := by decide +kernel
def W6 (a b c : Nat) : Prop := b = 1 ∨ b = 2 ∧ c < 3 ∧ GoesTo (V5 a) (R3 c)
instance (a b c : Nat) : Decidable (W6 a b c) := by unfold W6; infer_instance
theorem ok6 : ∀ a : Nat, a < 5 → ∀ b : Nat, b < 5 → ∀ c : Nat, c < 5 → (Good ⟨6, a, b, c, 0, []⟩ ↔ W6 a b c) := by decide +kernel
def W7 (a b c : Nat) : Prop := a = 1 ∨ a = 2 ∧ c < 3 ∧ GoesTo (R3 c) (V5 b)
instance (a b c : Nat) : Decidable (W7 a b c) := by unfold W7; infer_instance
theorem ok7 : ∀ a : Nat, a < 5 → ∀ b : Nat, b < 5 → ∀ c : Nat, c < 5 → (Good ⟨7, a, b, c, 0, []⟩ ↔ W7 a b c) := by decide +kernel
def W8 (a b c : Nat) : Prop := c = 0 ∧ (b = 1 ∨ b = 3 ∧ GoesTo (V5 a) 0 ∨ b = 4 ∧ a = 0)
instance (a b c : Nat) : Decidable (W8 a b c) := by unfold W8; infer_instance
theorem ok8 : ∀ a : Nat, a < 5 → ∀ b : Nat, b < 5 → ∀ c : Nat, c < 5 → (Good ⟨8, a, b, c, 0, []⟩ ↔ W8 a b c) := by decide +kernel
def W9 (a b c : Nat) : Prop := b = 0 ∧ (a = 1 ∨ a = 3 ∧ GoesTo 0 (V5 c) ∨ a = 4 ∧ c = 0)
instance (a b c : Nat) : Decidable (W9 a b c) := by unfold W9; infer_instance
theorem ok9 : ∀ a : Nat, a < 5 → ∀ b : Nat, b < 5 → ∀ c : Nat, c < 5 → (Good ⟨9, a, b, c, 0, []⟩ ↔ W9 a b c) := by decide +kernel
theorem ok10 : ∀ a : Nat, a < 5 → ∀ b : Nat, b < 5 → (Good ⟨10, a, b, 0, 0, []⟩ ↔ a = 0 ∧ (b = 1 ∨ 2 < b)) := by decide +kernel
theorem ok11 : ∀ a : Nat, a < 5 → ∀ n : Nat, n < 31 → (Good ⟨11, a, 0, 0, n, []⟩ ↔ a = 2 ∧ n = 0) := by decide +kernel
def W12 (a b n : Nat) : Prop := b = 0 ∧ (a = 3 ∧ n = 1 ∨ a = 4 ∧ n = 2)
instance (a b n : Nat) : Decidable (W12 a b n) := by unfold W12; infer_instance
theorem ok12 : ∀ a : Nat, a < 5 → ∀ b : Nat, b < 5 → ∀ n : Nat, n < 31 → (Good ⟨12, a, b, 0, n, []⟩ ↔ W12 a b n) := by decide +kernel
end Go.RtM
