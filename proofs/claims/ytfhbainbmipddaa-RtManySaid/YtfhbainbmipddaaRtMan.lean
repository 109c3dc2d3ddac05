/- The programs that RtMany makes, and when they are right. No program in sight. -/
import Derived.Test.YtfhbainbmipddaaRtMath
namespace Go.RtM
open Go.RiseM Go.ReachM Go.Api

def iRet : Ins := ⟨18, -1, 0, 0, 0, []⟩
def iJump : Ins := ⟨16, 0, 0, 0, 0, []⟩
def uRet : Unt := ⟨0, [], -3, [], [], [iRet]⟩
def uMany (n : Nat) : Unt := ⟨n, List.replicate n (-1), -2, [], [], [iJump]⟩
theorem uRet_ok (t : RTg) : UnitOk t uRet := by
  refine ⟨⟨by decide, ?_, .inl rfl, by decide, ⟨List.Pairwise.nil, ?_⟩, ⟨List.Pairwise.nil, ?_⟩, by decide⟩, ?_⟩
  · intro x hx; simp [uRet] at hx
  · intro x hx; simp [uRet] at hx
  · intro x hx; simp [uRet] at hx
  · intro i hi
    obtain rfl : i = iRet := by simpa [uRet] using hi
    refine ⟨by decide, ?_⟩
    simp [Fits, Goes, iRet, uRet]
theorem uMany_ok (t : RTg) (n : Nat) : UnitOk t (uMany n) ↔ n ≤ 6 := by
  constructor
  · intro h
    have h1 := h.1.1.2.1
    have h1 : (n : Int) ≤ 6 := h1
    omega
  · intro h
    refine ⟨⟨⟨?_, ?_, ?_, ?_⟩, ?_, .inr (.inr (.inr rfl)), by simp [uMany], ⟨List.Pairwise.nil, ?_⟩, ⟨List.Pairwise.nil, ?_⟩, .inl rfl⟩, ?_⟩
    · show (0 : Int) ≤ (n : Int); omega
    · show (n : Int) ≤ 6; omega
    · show (n : Int) ≤ ((List.replicate n (-1 : Int)).length : Int); rw [List.length_replicate]; omega
    · show (List.replicate n (-1 : Int)).length ≤ 4000; rw [List.length_replicate]; omega
    · intro x hx
      exact .inr (.inl (List.mem_replicate.1 hx).2)
    · intro x hx; simp [uMany] at hx
    · intro x hx; simp [uMany] at hx
    · intro i hi
      obtain rfl : i = iJump := by simpa [uMany] using hi
      refine ⟨by decide, ?_⟩
      simp [Fits, Goes, iJump, uMany, Place]
def ref1 (i : Nat) : Layout := ⟨false, [(i : Int)]⟩
def many (way n : Nat) : RTg :=
  match way with
  | 0 => ⟨(List.range n).map ref1, [], [uRet], 0⟩
  | 1 => ⟨[], List.replicate n (-1), [uRet], 0⟩
  | 2 => ⟨[], [], List.replicate (n + 1) uRet, 0⟩
  | 3 => ⟨[], [], [uRet, uMany n], 0⟩
  | 4 => ⟨[⟨false, List.replicate n (-1)⟩], [], [uRet], 0⟩
  | _ => ⟨[⟨true, List.replicate n (-1)⟩], [], [uRet], 0⟩
theorem no_entry (t : RTg) : Entries t [] := fun x hx => by simp at hx
theorem insOf_rep (n : Nat) : insOf (List.replicate n uRet) = n := by
  unfold insOf; rw [List.map_replicate, List.sum_replicate_nat]; show n * 1 = n; omega
theorem one_unit {t : RTg} (h : t.units = [uRet]) : UnitsOk t := by
  refine ⟨by rw [h]; decide, fun u hu => ?_⟩
  rw [h] at hu
  obtain rfl : u = uRet := by simpa using hu
  exact uRet_ok t
theorem main_one {t : RTg} {l : List Unt} (h : t.units = uRet :: l) (h2 : t.main = 0) : MainOk t := by
  unfold MainOk; rw [h, h2]; exact ⟨rfl, rfl⟩
theorem many0 (n : Nat) : RightP (many 0 n) ↔ n ≤ 60 := by
  constructor
  · intro h
    have h := h.1.1
    simpa [many] using h
  · intro h
    refine ⟨⟨by simpa [many] using h, by simp [many], by simp [many], by simp [many]⟩, main_one rfl rfl, fun L hL => ?_, no_entry _, one_unit rfl⟩
    obtain ⟨i, hi, rfl⟩ := List.mem_map.1 hL
    refine ⟨by simp [ref1], by simp [ref1], fun x hx => ?_⟩
    obtain rfl : x = (i : Int) := by simpa [ref1] using hx
    refine .inl ⟨by omega, ?_⟩
    show (i : Int) < (((List.range n).map ref1).length : Int)
    rw [List.length_map, List.length_range]
    have := List.mem_range.1 hi; omega
theorem many1 (n : Nat) : RightP (many 1 n) ↔ n ≤ 8 := by
  constructor
  · intro h
    have h := h.1.2.1
    simpa [many] using h
  · intro h
    refine ⟨⟨by simp [many], by simpa [many] using h, by simp [many], by simp [many]⟩, main_one rfl rfl, by simp [many], fun x hx => ?_, one_unit rfl⟩
    exact .inr (.inl (List.mem_replicate.1 hx).2)
theorem many2 (n : Nat) : RightP (many 2 n) ↔ n ≤ 15 := by
  constructor
  · intro h
    have h := h.1.2.2.2
    have h : (List.replicate (n + 1) uRet).length ≤ 16 := h
    rw [List.length_replicate] at h; omega
  · intro h
    refine ⟨⟨by simp [many], by simp [many], by simp [many], ?_⟩, main_one (l := List.replicate n uRet) rfl rfl, by simp [many], no_entry _, ?_, fun u hu => ?_⟩
    · show (List.replicate (n + 1) uRet).length ≤ 16; rw [List.length_replicate]; omega
    · show insOf (List.replicate (n + 1) uRet) ≤ 16000; rw [insOf_rep]; omega
    · obtain rfl := (List.mem_replicate.1 hu).2
      exact uRet_ok _
theorem many3 (n : Nat) : RightP (many 3 n) ↔ n ≤ 6 := by
  constructor
  · intro h
    exact (uMany_ok _ n).1 (h.2.2.2.2.2 (uMany n) (by simp [many]))
  · intro h
    refine ⟨⟨by simp [many], by simp [many], by simp [many], by simp [many]⟩, main_one (l := [uMany n]) rfl rfl, by simp [many], no_entry _, ?_, fun u hu => ?_⟩
    · show 1 + (1 + 0) ≤ 16000; omega
    · have hu : u = uRet ∨ u = uMany n := by simpa [many] using hu
      rcases hu with rfl | rfl
      · exact uRet_ok _
      · exact (uMany_ok _ n).2 h
theorem many4 (n : Nat) : RightP (many 4 n) ↔ n ≤ 8 := by
  constructor
  · intro h
    have h := (h.2.2.1 ⟨false, List.replicate n (-1)⟩ (by simp [many])).1
    simpa using h
  · intro h
    refine ⟨⟨by simp [many], by simp [many], by simp [many], by simp [many]⟩, main_one rfl rfl, fun L hL => ?_, no_entry _, one_unit rfl⟩
    obtain rfl : L = ⟨false, List.replicate n (-1)⟩ := by simpa [many] using hL
    refine ⟨by simpa using h, by simp, fun x hx => ?_⟩
    exact .inr (.inl (List.mem_replicate.1 hx).2)
theorem many5 (n : Nat) : RightP (many 5 n) ↔ n ≤ 1 ∧ n = 1 := by
  constructor
  · intro h
    have h := (h.2.2.1 ⟨true, List.replicate n (-1)⟩ (by simp [many])).2.1 rfl
    have h : n = 1 := by simpa using h
    omega
  · intro h
    refine ⟨⟨by simp [many], by simp [many], by simp [many], by simp [many]⟩, main_one rfl rfl, fun L hL => ?_, no_entry _, one_unit rfl⟩
    obtain rfl : L = ⟨true, List.replicate n (-1)⟩ := by simpa [many] using hL
    refine ⟨by simp; omega, fun _ => by simp; omega, fun x hx => ?_⟩
    exact .inr (.inl (List.mem_replicate.1 hx).2)
theorem uMany_few {n : Nat} (h : n ≤ 70) : (uMany n).vars.length ≤ 536870912 ∧ (uMany n).ins.length ≤ 1073741824 := by
  refine ⟨?_, ?_⟩
  · show (List.replicate n (-1 : Int)).length ≤ _; rw [List.length_replicate]; omega
  · show 1 ≤ _; omega
theorem uRet_few : uRet.vars.length ≤ 536870912 ∧ uRet.ins.length ≤ 1073741824 := by decide
theorem many_small {w n : Nat} (h : n ≤ 70) : Small (many w n) := by
  unfold many
  split
  · refine ⟨by simp; omega, ?_, by simp, by simp, fun u hu => ?_⟩
    · have : ((flds ⟨(List.range n).map ref1, [], [uRet], 0⟩).map List.length) = List.replicate n 1 := by
        apply List.ext_getElem
        · simp [flds]
        · intro i h1 h2; simp [flds, ref1]
      rw [this, List.sum_replicate_nat]; omega
    · obtain rfl : u = uRet := by simpa using hu
      exact uRet_few
  · refine ⟨by simp, by simp [flds], by simp; omega, by simp, fun u hu => ?_⟩
    obtain rfl : u = uRet := by simpa using hu
    exact uRet_few
  · refine ⟨by simp, by simp [flds], by simp, by simp; omega, fun u hu => ?_⟩
    obtain rfl := (List.mem_replicate.1 hu).2
    exact uRet_few
  · refine ⟨by simp, by simp [flds], by simp, by simp, fun u hu => ?_⟩
    have hu : u = uRet ∨ u = uMany n := by simpa using hu
    rcases hu with rfl | rfl
    · exact uRet_few
    · exact uMany_few h
  · refine ⟨by simp, by simp [flds]; omega, by simp, by simp, fun u hu => ?_⟩
    obtain rfl : u = uRet := by simpa using hu
    exact uRet_few
  · refine ⟨by simp, by simp [flds]; omega, by simp, by simp, fun u hu => ?_⟩
    obtain rfl : u = uRet := by simpa using hu
    exact uRet_few
end Go.RtM
