/- The plain mathematics of chapter 26: what the program's functions say. No program in sight. -/
import Derived.Test.YtfhbainbmipddaaReachMath
import Derived.Test.YtfhbainbmipddaaApi
namespace Go.RtM
open Go.RiseM Go.ReachM Go.Api

/-- The n-th, if there is one. -/
def gt {α : Type} (l : List α) (n : Int) : Option α := if 0 ≤ n then l[n.toNat]? else none
theorem gt_nat {α : Type} (l : List α) (n : Nat) : gt l (n : Int) = l[n]? := by unfold gt; rw [if_pos (by omega), Int.toNat_natCast]
theorem gt_out {α : Type} {l : List α} {n : Int} (h : n < 0 ∨ (l.length : Int) ≤ n) : gt l n = none := by
  unfold gt
  split
  · exact List.getElem?_eq_none (by omega)
  · rfl
theorem gt_some {α : Type} {l : List α} {n : Int} {x : α} (h : gt l n = some x) : ∃ k : Nat, n = k ∧ k < l.length ∧ l[k]? = some x := by
  unfold gt at h
  split at h
  · exact ⟨n.toNat, by omega, (List.getElem?_eq_some_iff.1 h).1, h⟩
  · cases h
theorem gt_mem {α : Type} {l : List α} {n : Int} {x : α} (h : gt l n = some x) : x ∈ l := by
  obtain ⟨k, _, _, h⟩ := gt_some h; exact List.mem_of_getElem? h
theorem gt_in {α : Type} {l : List α} {n : Int} (h : 0 ≤ n ∧ n < l.length) : ∃ x, gt l n = some x ∧ ∃ k : Nat, n = k ∧ k < l.length ∧ l[k]? = some x := by
  refine ⟨l[n.toNat]'(by omega), ?_, n.toNat, by omega, by omega, List.getElem?_eq_getElem (by omega)⟩
  unfold gt; rw [if_pos h.1, List.getElem?_eq_getElem (by omega)]

def flds (t : RTg) : List (List Int) := t.classes.map (·.refs)
theorem flds_len (t : RTg) : (flds t).length = t.classes.length := by simp [flds]
noncomputable def glob (t : RTg) : List Int := fromL (flds t) t.globals
/-- How many of a unit's variables are its parameters. -/
def pars (x : Unt) : Nat := (min (max x.params 0) (x.vars.length : Int)).toNat
def roots (x : Unt) : List Int := x.vars.take (pars x) ++ [x.result]
noncomputable def outOf (t : RTg) (x : Unt) : List Int := (fromL (flds t) (roots x)).filter fun c => decide (c ∉ glob t)
noncomputable def out (t : RTg) (u : Int) : List Int := match gt t.units u with | some x => outOf t x | none => []

abbrev IsClass (t : RTg) (n : Int) : Prop := 0 ≤ n ∧ n < (t.classes.length : Int)
abbrev IsEntry (t : RTg) (n : Int) : Prop := IsClass t n ∨ n = -1 ∨ n = -2
abbrev Entries (t : RTg) (l : List Int) : Prop := ∀ n ∈ l, IsEntry t n
abbrev IsRef (e : Int) : Prop := -1 ≤ e
def Into (a b : Int) : Prop := if -1 ≤ a then -1 ≤ b ∧ (b = a ∨ b = -1) else a = -2 ∧ b = -2
instance (a b : Int) : Decidable (Into a b) := by unfold Into; infer_instance
/-- A variable's entry. -/
def of (u : Unt) (n : Int) : Int := (gt u.vars n).getD (-3)
abbrev Plain (u : Unt) (l : List Int) : Prop := ∀ n ∈ l, of u n = -2
abbrev Refs (u : Unt) (l : List Int) : Prop := ∀ n ∈ l, IsRef (of u n)
abbrev Place (u : Unt) (n : Int) : Prop := 0 ≤ n ∧ n < (u.ins.length : Int)
/-- A cell of a variable's thing: its entry; the thing is none; there is such a cell. -/
def cell (t : RTg) (u : Unt) (n : Int) (arr : Bool) (c : Int) : Int × Bool × Bool :=
  if of u n = -1 then (0, true, decide (0 ≤ c ∧ c < 8))
  else match gt t.classes (of u n) with
    | some L => if L.arr = arr then (match gt L.refs c with | some x => (x, false, true) | none => (0, false, false)) else (0, false, false)
    | none => (0, false, false)
theorem cell_null {t : RTg} {u : Unt} {n : Int} {arr : Bool} {c : Int} (h : of u n = -1) : cell t u n arr c = (0, true, decide (0 ≤ c ∧ c < 8)) := by unfold cell; rw [if_pos h]
theorem cell_none {t : RTg} {u : Unt} {n : Int} {arr : Bool} {c : Int} (h : of u n ≠ -1) (h2 : gt t.classes (of u n) = none) : cell t u n arr c = (0, false, false) := by unfold cell; rw [if_neg h, h2]
theorem cell_arr {t : RTg} {u : Unt} {n : Int} {arr : Bool} {c : Int} {L : Layout} (h : of u n ≠ -1) (h2 : gt t.classes (of u n) = some L) (h3 : L.arr ≠ arr) : cell t u n arr c = (0, false, false) := by unfold cell; rw [if_neg h, h2]; simp only [if_neg h3]
theorem cell_out {t : RTg} {u : Unt} {n : Int} {arr : Bool} {c : Int} {L : Layout} (h : of u n ≠ -1) (h2 : gt t.classes (of u n) = some L) (h3 : L.arr = arr) (h4 : gt L.refs c = none) : cell t u n arr c = (0, false, false) := by unfold cell; rw [if_neg h, h2]; simp only [if_pos h3, h4]
theorem cell_some {t : RTg} {u : Unt} {n : Int} {arr : Bool} {c : Int} {L : Layout} {x : Int} (h : of u n ≠ -1) (h2 : gt t.classes (of u n) = some L) (h3 : L.arr = arr) (h4 : gt L.refs c = some x) : cell t u n arr c = (x, false, true) := by unfold cell; rw [if_neg h, h2]; simp only [if_pos h3, h4]
def Loads (t : RTg) (u : Unt) (a from_ : Int) (arr : Bool) (c : Int) : Prop :=
  (cell t u from_ arr c).2.2 = true ∧ (if (cell t u from_ arr c).2.1 = true then of u a ≠ -3 else Into (of u a) (cell t u from_ arr c).1)
instance (t : RTg) (u : Unt) (a f : Int) (arr : Bool) (c : Int) : Decidable (Loads t u a f arr c) := by unfold Loads; infer_instance
def Lays (t : RTg) (u : Unt) (to : Int) (arr : Bool) (c b : Int) : Prop :=
  (cell t u to arr c).2.2 = true ∧ (if (cell t u to arr c).2.1 = true then of u b ≠ -3 else Into (cell t u to arr c).1 (of u b))
instance (t : RTg) (u : Unt) (to : Int) (arr : Bool) (c b : Int) : Decidable (Lays t u to arr c b) := by unfold Lays; infer_instance
def Only (i : Ins) (a b c n args : Bool) : Prop := (a = true ∨ i.a = 0) ∧ (b = true ∨ i.b = 0) ∧ (c = true ∨ i.c = 0) ∧ (n = true ∨ i.n = 0) ∧ (args = true ∨ i.args = [])
instance (i : Ins) (a b c n args : Bool) : Decidable (Only i a b c n args) := by unfold Only; infer_instance
/-- What an operation names: of a, b, c, n and args; none: there is no such operation. -/
def names (op : Int) : Option (Bool × Bool × Bool × Bool × Bool) :=
  if op = 1 ∨ op = 11 ∨ op = 19 ∨ op = 20 then some (true, false, false, true, false)
  else if op = 2 ∨ op = 14 ∨ op = 15 ∨ op = 18 then some (true, false, false, false, false)
  else if op = 3 ∨ op = 10 then some (true, true, false, false, false)
  else if op = 5 ∨ op = 12 then some (true, true, false, true, false)
  else if op = 6 ∨ op = 7 ∨ op = 8 ∨ op = 9 then some (true, true, true, false, false)
  else if op = 4 then some (true, true, true, true, false)
  else if op = 13 then some (true, false, true, false, true)
  else if op = 16 then some (false, false, false, true, false)
  else if op = 17 then some (true, false, true, true, false)
  else if op = 21 ∨ op = 22 then some (false, false, false, false, true)
  else none
def Bare (i : Ins) : Prop := match names i.op with | some (a, b, c, n, g) => Only i a b c n g | none => False
instance (i : Ins) : Decidable (Bare i) := by unfold Bare; split <;> infer_instance
def Two (u : Unt) (i : Ins) : Prop := (14 ≤ i.n ∧ i.n ≤ 24) ∧ of u i.a = -2 ∧ ((of u i.b = -2 ∧ of u i.c = -2) ∨ (i.n = 21 ∨ i.n = 22) ∧ IsRef (of u i.b) ∧ IsRef (of u i.c))
instance (u : Unt) (i : Ins) : Decidable (Two u i) := by unfold Two; infer_instance
def CallOk (t : RTg) (u : Unt) (i : Ins) : Prop := match gt t.units i.c with
  | some g => ((i.args.length : Int) = g.params ∧ g.params ≤ (g.vars.length : Int) ∧ (∀ p ∈ i.args.zip g.vars, Into p.2 (of u p.1))) ∧ (i.a = -1 ∨ Into (of u i.a) g.result)
  | none => False
instance (t : RTg) (u : Unt) (i : Ins) : Decidable (CallOk t u i) := by unfold CallOk; split <;> infer_instance
def Fresh (t : RTg) (u : Unt) (i : Ins) (arr : Bool) : Prop := match gt t.classes i.n with | some L => L.arr = arr ∧ of u i.a = i.n | none => False
instance (t : RTg) (u : Unt) (i : Ins) (arr : Bool) : Decidable (Fresh t u i arr) := by unfold Fresh; split <;> infer_instance
/-- Rising, and each among others. -/
abbrev Steps (l of_ : List Int) : Prop := Rise l ∧ ∀ n ∈ l, n ∈ of_
def InG (t : RTg) (n : Int) (P : Int → Prop) : Prop := match gt t.globals n with | some g => P g | none => False
instance (t : RTg) (n : Int) (P : Int → Prop) [∀ g, Decidable (P g)] : Decidable (InG t n P) := by unfold InG; split <;> infer_instance
def Goes (t : RTg) (u : Unt) (i : Ins) : Prop :=
  if i.op = 13 then CallOk t u i
  else if i.op = 16 then Place u i.n
  else if i.op = 17 then of u i.a = -2 ∧ Place u i.n ∧ Place u i.c
  else if i.op = 18 then (u.result = -3 ∧ i.a = -1 ∨ u.result ≠ -3 ∧ Into u.result (of u i.a))
  else if i.op = 19 then InG t i.n (fun g => Into (of u i.a) g)
  else if i.op = 20 then InG t i.n (fun g => Into g (of u i.a))
  else i.args ≠ [] ∧ Rise i.args ∧ ∀ n ∈ i.args, n ∈ u.owns
instance (t : RTg) (u : Unt) (i : Ins) : Decidable (Goes t u i) := by unfold Goes; infer_instance
def Fits (t : RTg) (u : Unt) (i : Ins) : Prop :=
  if i.op = 1 ∨ i.op = 14 ∨ i.op = 15 then of u i.a = -2
  else if i.op = 2 then IsRef (of u i.a)
  else if i.op = 3 then Into (of u i.a) (of u i.b)
  else if i.op = 4 then Two u i
  else if i.op = 5 then (i.n = 12 ∨ i.n = 13) ∧ of u i.a = -2 ∧ of u i.b = -2
  else if i.op = 6 then Loads t u i.a i.b false i.c
  else if i.op = 7 then Lays t u i.a false i.c i.b
  else if i.op = 8 then of u i.c = -2 ∧ Loads t u i.a i.b true 0
  else if i.op = 9 then of u i.b = -2 ∧ Lays t u i.a true 0 i.c
  else if i.op = 10 then (cell t u i.b true 0).2.2 = true ∧ of u i.a = -2
  else if i.op = 11 then Fresh t u i false
  else if i.op = 12 then Fresh t u i true ∧ of u i.b = -2
  else Goes t u i
instance (t : RTg) (u : Unt) (i : Ins) : Decidable (Fits t u i) := by unfold Fits; infer_instance

/-- Not too great. -/
structure Small (t : RTg) : Prop where
  classes : t.classes.length ≤ 1073741824
  refs : ((flds t).map List.length).sum ≤ 1073741824
  globals : t.globals.length ≤ 1073741824
  units : t.units.length ≤ 1073741824
  unit : ∀ u ∈ t.units, u.vars.length ≤ 536870912 ∧ u.ins.length ≤ 1073741824
theorem le_sum {l : List Nat} {x : Nat} (h : x ∈ l) : x ≤ l.sum := by
  induction l with
  | nil => simp at h
  | cons y l ih =>
    rw [List.sum_cons]
    rcases List.mem_cons.1 h with rfl | h
    · omega
    · have := ih h; omega
theorem Small.ref {t : RTg} (h : Small t) {L : Layout} (hL : L ∈ t.classes) : L.refs.length ≤ 1073741824 :=
  Nat.le_trans (le_sum (List.mem_map.2 ⟨L.refs, List.mem_map.2 ⟨L, hL, rfl⟩, rfl⟩)) h.refs
theorem out_some {t : RTg} {k : Nat} {u : Unt} (h : t.units[k]? = some u) : out t k = outOf t u := by unfold out; rw [gt_nat, h]
theorem out_none {t : RTg} {k : Int} (h : k < 0 ∨ (t.units.length : Int) ≤ k) : out t k = [] := by unfold out; rw [gt_out h]
theorem pars_le (u : Unt) : pars u ≤ u.vars.length := by unfold pars; omega
theorem roots_len (u : Unt) : (roots u).length ≤ u.vars.length + 1 := by unfold roots; rw [List.length_append, List.length_take, List.length_singleton]; omega

def LayoutOk (t : RTg) (L : Layout) : Prop := L.refs.length ≤ 8 ∧ (L.arr = true → L.refs.length = 1) ∧ Entries t L.refs
instance (t : RTg) (L : Layout) : Decidable (LayoutOk t L) := by unfold LayoutOk; infer_instance
/-- The operation of a unit's last instruction. -/
def lastOp (u : Unt) : Int := match u.ins[u.ins.length - 1]? with | some i => i.op | none => 0
def UnitHd (t : RTg) (u : Unt) : Prop :=
  (0 ≤ u.params ∧ u.params ≤ 6 ∧ u.params ≤ (u.vars.length : Int) ∧ u.vars.length ≤ 4000) ∧ Entries t u.vars ∧ (u.result = -3 ∨ IsEntry t u.result) ∧ u.ins ≠ [] ∧
  (Rise u.takes ∧ ∀ c ∈ u.takes, c ∈ outOf t u) ∧ (Rise u.owns ∧ ∀ c ∈ u.owns, IsClass t c ∧ c ∉ outOf t u ∧ c ∉ glob t) ∧ (lastOp u = 16 ∨ lastOp u = 17 ∨ lastOp u = 18)
noncomputable instance (t : RTg) (u : Unt) : Decidable (UnitHd t u) := by unfold UnitHd; infer_instance
abbrev InsOk (t : RTg) (u : Unt) : Prop := ∀ i ∈ u.ins, Bare i ∧ Fits t u i
def UnitOk (t : RTg) (u : Unt) : Prop := UnitHd t u ∧ InsOk t u
noncomputable instance (t : RTg) (u : Unt) : Decidable (UnitOk t u) := by unfold UnitOk; infer_instance
def insOf (l : List Unt) : Nat := (l.map fun u => u.ins.length).sum
def MainOk (t : RTg) : Prop := match gt t.units t.main with | some u => u.params = 0 ∧ u.result = -3 | none => False
instance (t : RTg) : Decidable (MainOk t) := by unfold MainOk; split <;> infer_instance
abbrev UnitsOk (t : RTg) : Prop := insOf t.units ≤ 16000 ∧ ∀ u ∈ t.units, UnitOk t u
def RightP (t : RTg) : Prop := (t.classes.length ≤ 60 ∧ t.globals.length ≤ 8 ∧ t.units.length ≠ 0 ∧ t.units.length ≤ 16) ∧ MainOk t ∧ (∀ L ∈ t.classes, LayoutOk t L) ∧ Entries t t.globals ∧ UnitsOk t
noncomputable instance (t : RTg) : Decidable (RightP t) := by unfold RightP; infer_instance
theorem insOf_snoc (l : List Unt) (u : Unt) : insOf (l ++ [u]) = insOf l + u.ins.length := by simp [insOf]
theorem insOf_take (l : List Unt) (i : Nat) : insOf (l.take i) ≤ insOf l := by
  have := List.take_append_drop i l
  conv => rhs; rw [← this]
  unfold insOf; rw [List.map_append, List.sum_append]; omega
end Go.RtM
