/- The plain mathematics of chapter 26: what the reference's functions say, and that the two agree. No program in sight. -/
import Derived.Test.YtfhbainbmipddaaRtMath
namespace Go.RtM
open Go.RiseM Go.ReachM Go.Api

abbrev REntry (t : RTg) (e : Int) : Prop := -2 ≤ e ∧ e < (t.classes.length : Int)
theorem rentry_iff (t : RTg) (e : Int) : REntry t e ↔ IsEntry t e := by unfold REntry IsEntry IsClass; omega
def RInto (a b : Int) : Prop := if a = -2 ∨ b = -2 then a = b else b = a ∨ b = -1
instance (a b : Int) : Decidable (RInto a b) := by unfold RInto; infer_instance
def rof (u : Unt) (n : Int) : Int := (gt u.vars n).getD (-4)
def rnames (op : Int) : Bool × Bool × Bool × Bool × Bool :=
  if op = 1 ∨ op = 11 ∨ op = 19 ∨ op = 20 then (true, false, false, true, false)
  else if op = 3 ∨ op = 10 then (true, true, false, false, false)
  else if op = 4 then (true, true, true, true, false)
  else if op = 5 ∨ op = 12 then (true, true, false, true, false)
  else if op = 6 ∨ op = 7 ∨ op = 8 ∨ op = 9 then (true, true, true, false, false)
  else if op = 13 then (true, false, true, false, true)
  else if op = 17 then (true, false, true, true, false)
  else if op = 16 then (false, false, false, true, false)
  else if op = 21 ∨ op = 22 then (false, false, false, false, true)
  else (true, false, false, false, false)
def Named (i : Ins) : Prop := Only i (rnames i.op).1 (rnames i.op).2.1 (rnames i.op).2.2.1 (rnames i.op).2.2.2.1 (rnames i.op).2.2.2.2
instance (i : Ins) : Decidable (Named i) := by unfold Named; infer_instance
/-- A field of a record's entry, an array's items: the entry; it is none that is known. -/
def record (t : RTg) (e k : Int) : Int × Bool :=
  if e = -1 ∧ 0 ≤ k ∧ k < 8 then (-4, true)
  else match gt t.classes e with
    | some L => if L.arr = true then (-4, false) else (match gt L.refs k with | some x => (x, false) | none => (-4, false))
    | none => (-4, false)
def array (t : RTg) (e : Int) : Int × Bool :=
  if e = -1 then (-4, true)
  else match gt t.classes e with
    | some L => if L.arr = true then (match gt L.refs 0 with | some x => (x, false) | none => (-4, false)) else (-4, false)
    | none => (-4, false)
theorem record_arr {t : RTg} {e k : Int} {L : Layout} (hn : ¬ (e = -1 ∧ 0 ≤ k ∧ k < 8)) (hL : gt t.classes e = some L) (h3 : L.arr = true) : record t e k = (-4, false) := by unfold record; rw [if_neg hn, hL]; simp only [if_pos h3]
theorem record_out {t : RTg} {e k : Int} {L : Layout} (hn : ¬ (e = -1 ∧ 0 ≤ k ∧ k < 8)) (hL : gt t.classes e = some L) (h3 : ¬ L.arr = true) (h4 : gt L.refs k = none) : record t e k = (-4, false) := by unfold record; rw [if_neg hn, hL]; simp only [if_neg h3, h4]
theorem record_some {t : RTg} {e k x : Int} {L : Layout} (hn : ¬ (e = -1 ∧ 0 ≤ k ∧ k < 8)) (hL : gt t.classes e = some L) (h3 : ¬ L.arr = true) (h4 : gt L.refs k = some x) : record t e k = (x, false) := by unfold record; rw [if_neg hn, hL]; simp only [if_neg h3, h4]
theorem array_some {t : RTg} {e x : Int} {L : Layout} (hn : e ≠ -1) (hL : gt t.classes e = some L) (h3 : L.arr = true) (h4 : gt L.refs 0 = some x) : array t e = (x, false) := by unfold array; rw [if_neg hn, hL]; simp only [if_pos h3, h4]
theorem array_rec {t : RTg} {e : Int} {L : Layout} (hn : e ≠ -1) (hL : gt t.classes e = some L) (h3 : ¬ L.arr = true) : array t e = (-4, false) := by unfold array; rw [if_neg hn, hL]; simp only [if_neg h3]
def RClass (t : RTg) (c : Int) (arr : Bool) : Prop := match gt t.classes c with | some L => L.arr = arr | none => False
instance (t : RTg) (c : Int) (arr : Bool) : Decidable (RClass t c arr) := by unfold RClass; split <;> infer_instance
def RCall (t : RTg) (u : Unt) (i : Ins) : Prop := match gt t.units i.c with
  | some g => (0 ≤ g.params ∧ g.params ≤ (g.vars.length : Int) ∧ (i.args.length : Int) = g.params ∧ (∀ p ∈ i.args.zip g.vars, rof u p.1 ≠ -4 ∧ RInto p.2 (rof u p.1))) ∧ (i.a = -1 ∨ rof u i.a ≠ -4 ∧ g.result ≠ -3 ∧ RInto (rof u i.a) g.result)
  | none => False
instance (t : RTg) (u : Unt) (i : Ins) : Decidable (RCall t u i) := by unfold RCall; split <;> infer_instance
/-- May an entry, or what is known of it, be had? -/
def Has (x : Int × Bool) (P : Int → Prop) : Prop := x.2 = true ∨ x.1 ≠ -4 ∧ P x.1
instance (x : Int × Bool) (P : Int → Prop) [∀ e, Decidable (P e)] : Decidable (Has x P) := by unfold Has; infer_instance
def Step (t : RTg) (u : Unt) (i : Ins) : Prop :=
  Named i ∧
  if i.op = 1 ∨ i.op = 14 ∨ i.op = 15 then rof u i.a = -2
  else if i.op = 2 then -1 ≤ rof u i.a
  else if i.op = 3 then rof u i.a ≠ -4 ∧ rof u i.b ≠ -4 ∧ RInto (rof u i.a) (rof u i.b)
  else if i.op = 4 then (rof u i.a = -2 ∧ 14 ≤ i.n ∧ i.n ≤ 24) ∧ (if i.n = 21 ∨ i.n = 22 then rof u i.b ≠ -4 ∧ rof u i.c ≠ -4 ∧ (rof u i.b = -2 ↔ rof u i.c = -2) else rof u i.b = -2 ∧ rof u i.c = -2)
  else if i.op = 5 then rof u i.a = -2 ∧ rof u i.b = -2 ∧ (i.n = 12 ∨ i.n = 13)
  else if i.op = 6 then rof u i.a ≠ -4 ∧ Has (record t (rof u i.b) i.c) (RInto (rof u i.a))
  else if i.op = 7 then rof u i.b ≠ -4 ∧ Has (record t (rof u i.a) i.c) (fun e => RInto e (rof u i.b))
  else if i.op = 8 then rof u i.a ≠ -4 ∧ rof u i.c = -2 ∧ Has (array t (rof u i.b)) (RInto (rof u i.a))
  else if i.op = 9 then rof u i.c ≠ -4 ∧ rof u i.b = -2 ∧ Has (array t (rof u i.a)) (fun e => RInto e (rof u i.c))
  else if i.op = 10 then rof u i.a = -2 ∧ Has (array t (rof u i.b)) (fun _ => True)
  else if i.op = 11 then RClass t i.n false ∧ rof u i.a = i.n
  else if i.op = 12 then RClass t i.n true ∧ rof u i.a = i.n ∧ rof u i.b = -2
  else if i.op = 13 then RCall t u i
  else if i.op = 16 then Place u i.n
  else if i.op = 17 then rof u i.a = -2 ∧ Place u i.n ∧ Place u i.c
  else if i.op = 18 then (if u.result = -3 then i.a = -1 else rof u i.a ≠ -4 ∧ RInto u.result (rof u i.a))
  else if i.op = 19 then rof u i.a ≠ -4 ∧ InG t i.n (fun g => RInto (rof u i.a) g)
  else if i.op = 20 then rof u i.a ≠ -4 ∧ InG t i.n (fun g => RInto g (rof u i.a))
  else if i.op = 21 ∨ i.op = 22 then i.args ≠ [] ∧ Rise i.args ∧ ∀ n ∈ i.args, n ∈ u.owns
  else False

/-! ### The two agree, where all else is right. -/
section
variable {t : RTg} {u : Unt}
/-- What is known of an entry that may be. -/
abbrev Ent (e : Int) : Prop := -2 ≤ e
theorem of_rof (hv : ∀ n ∈ u.vars, Ent n) (n : Int) : (∃ e, Ent e ∧ of u n = e ∧ rof u n = e) ∨ (of u n = -3 ∧ rof u n = -4) := by
  unfold of rof
  cases h : gt u.vars n with
  | none => exact .inr ⟨rfl, rfl⟩
  | some e => exact .inl ⟨e, hv e (gt_mem h), rfl, rfl⟩
theorem into_iff {a b : Int} (ha : Ent a) (hb : Ent b) : Into a b ↔ RInto a b := by
  unfold Into RInto Ent at *
  split <;> split <;> omega
theorem into_none {a : Int} : ¬ Into a (-3) := by unfold Into; split <;> omega
theorem none_into {b : Int} : ¬ Into (-3) b := by unfold Into; split <;> omega
theorem named_iff {i : Ins} (h : i.op ∈ ([1, 2, 3, 4, 5, 6, 7, 8, 9, 10, 11, 12, 13, 14, 15, 16, 17, 18, 19, 20, 21, 22] : List Int)) : Bare i ↔ Named i := by
  obtain ⟨op, a, b, c, n, args⟩ := i
  dsimp only at h
  simp only [List.mem_cons, List.not_mem_nil, or_false] at h
  rcases h with rfl | rfl | rfl | rfl | rfl | rfl | rfl | rfl | rfl | rfl | rfl | rfl | rfl | rfl | rfl | rfl | rfl | rfl | rfl | rfl | rfl | rfl <;> exact Iff.rfl
theorem bare_op {i : Ins} (h : Bare i) : i.op ∈ ([1, 2, 3, 4, 5, 6, 7, 8, 9, 10, 11, 12, 13, 14, 15, 16, 17, 18, 19, 20, 21, 22] : List Int) := by
  unfold Bare at h
  split at h
  · rename_i a b c n g hn
    unfold names at hn
    simp only [List.mem_cons, List.not_mem_nil, or_false]
    repeat' split at hn
    all_goals first | omega | simp at hn
  · exact h.elim
theorem step_op {i : Ins} (h : Step t u i) : i.op ∈ ([1, 2, 3, 4, 5, 6, 7, 8, 9, 10, 11, 12, 13, 14, 15, 16, 17, 18, 19, 20, 21, 22] : List Int) := by
  obtain ⟨_, h⟩ := h
  simp only [List.mem_cons, List.not_mem_nil, or_false]
  by_cases h1 : i.op = 1 ∨ i.op = 2 ∨ i.op = 3 ∨ i.op = 4 ∨ i.op = 5 ∨ i.op = 6 ∨ i.op = 7 ∨ i.op = 8 ∨ i.op = 9 ∨ i.op = 10 ∨ i.op = 11 ∨ i.op = 12 ∨ i.op = 13 ∨ i.op = 14 ∨ i.op = 15 ∨ i.op = 16 ∨ i.op = 17 ∨ i.op = 18 ∨ i.op = 19 ∨ i.op = 20 ∨ i.op = 21 ∨ i.op = 22
  · exact h1
  · simp only [not_or] at h1
    obtain ⟨g1, g2, g3, g4, g5, g6, g7, g8, g9, g10, g11, g12, g13, g14, g15, g16, g17, g18, g19, g20, g21, g22⟩ := h1
    simp only [g1, g2, g3, g4, g5, g6, g7, g8, g9, g10, g11, g12, g13, g14, g15, g16, g17, g18, g19, g20, g21, g22, or_false, if_false] at h
end
end Go.RtM
