import Derived.Test.YtomadjefdghliaaV1
import Derived.Test.YtomadjefdghliaaV9
/- The plain mathematics of chapter 26: what the program's functions say. No program in sight. -/
namespace Go.RtM
open Go.RiseM Go.ReachM Go.Api

/-- The n-th, if there is one. -/
def gt {α : Type} (l : List α) (n : Int) : Option α := if 0 ≤ n then l[n.toNat]? else none
theorem gt_nat {α : Type} (l : List α) (n : Nat) : gt l (n : Int) = l[n]? := by unfold gt; rw [if_pos (by omega), Int.toNat_natCast]
theorem gt_out {α : Type} {l : List α} {n : Int} (h : n < 0 ∨ (l.length : Int) ≤ n) : gt l n = none := by
  unfold gt
  split
  · exact List.getElem?_eq_none (by omega)
  · rfl
theorem gt_some {α : Type} {l : List α} {n : Int} {x : α} (h : gt l n = some x) : ∃ k : Nat, n = k ∧ k < l.length ∧ l[k]? = some x := by
  unfold gt at h
  split at h
  · exact ⟨n.toNat, by omega, (List.getElem?_eq_some_iff.1 h).1, h⟩
  · cases h
theorem gt_mem {α : Type} {l : List α} {n : Int} {x : α} (h : gt l n = some x) : x ∈ l := by
  obtain ⟨k, _, _, h⟩ := gt_some h; exact List.mem_of_getElem? h
theorem gt_in {α : Type} {l : List α} {n : Int} (h : 0 ≤ n ∧ n < l.length) : ∃ x, gt l n = some x ∧ ∃ k : Nat, n = k ∧ k < l.length ∧ l[k]? = some x := by
  refine ⟨l[n.toNat]'(by omega), ?_, n.toNat, by omega, by omega, List.getElem?_eq_getElem (by omega)⟩
  unfold gt; rw [if_pos h.1, List.getElem?_eq_getElem (by omega)]

def flds (t : RTg) : List (List Int) := t.classes.map (·.refs)
theorem flds_len (t : RTg) : (flds t).length = t.classes.length := by simp [flds]
noncomputable def glob (t : RTg) : List Int := fromL (flds t) t.globals
/-- How many of a unit's variables are its parameters. -/
def pars (x : Unt) : Nat := (min (max x.params 0) (x.vars.length : Int)).toNat
def roots (x : Unt) : List Int := x.vars.take (pars x) ++ [x.result]
noncomputable def outOf (t : RTg) (x : Unt) : List Int := (fromL (flds t) (roots x)).filter fun c => decide (c ∉ glob t)
noncomputable def out (t : RTg) (u : Int) : List Int := match gt t.units u with | some x => outOf t x | none => []

abbrev IsClass (t : RTg) (n : Int) : Prop := 0 ≤ n ∧ n < (t.classes.length : Int)
abbrev IsEntry (t : RTg) (n : Int) : Prop := IsClass t n ∨ n = -1 ∨ n = -2
abbrev Entries (t : RTg) (l : List Int) : Prop := ∀ n ∈ l, IsEntry t n
abbrev IsRef (e : Int) : Prop := -1 ≤ e
def Into (a b : Int) : Prop := if -1 ≤ a then -1 ≤ b ∧ (b = a ∨ b = -1) else a = -2 ∧ b = -2
instance (a b : Int) : Decidable (Into a b) := by unfold Into; infer_instance
/-- A variable's entry. -/
def of (u : Unt) (n : Int) : Int := (gt u.vars n).getD (-3)
abbrev Plain (u : Unt) (l : List Int) : Prop := ∀ n ∈ l, of u n = -2
abbrev Refs (u : Unt) (l : List Int) : Prop := ∀ n ∈ l, IsRef (of u n)
abbrev Place (u : Unt) (n : Int) : Prop := 0 ≤ n ∧ n < (u.ins.length : Int)
/-- A cell of a variable's thing: its entry; the thing is none; there is such a cell. -/
def cell (t : RTg) (u : Unt) (n : Int) (arr : Bool) (c : Int) : Int × Bool × Bool :=
  if of u n = -1 then (0, true, decide (0 ≤ c ∧ c < 8))
  else match gt t.classes (of u n) with
    | some L => if L.arr = arr then (match gt L.refs c with | some x => (x, false, true) | none => (0, false, false)) else (0, false, false)
    | none => (0, false, false)
theorem cell_null {t : RTg} {u : Unt} {n : Int} {arr : Bool} {c : Int} (h : of u n = -1) : cell t u n arr c = (0, true, decide (0 ≤ c ∧ c < 8)) := by unfold cell; rw [if_pos h]
theorem cell_none {t : RTg} {u : Unt} {n : Int} {arr : Bool} {c : Int} (h : of u n ≠ -1) (h2 : gt t.classes (of u n) = none) : cell t u n arr c = (0, false, false) := by unfold cell; rw [if_neg h, h2]
theorem cell_arr {t : RTg} {u : Unt} {n : Int} {arr : Bool} {c : Int} {L : Layout} (h : of u n ≠ -1) (h2 : gt t.classes (of u n) = some L) (h3 : L.arr ≠ arr) : cell t u n arr c = (0, false, false) := by unfold cell; rw [if_neg h, h2]; simp only [if_neg h3]
theorem cell_out {t : RTg} {u : Unt} {n : Int} {arr : Bool} {c : Int} {L : Layout} (h : of u n ≠ -1) (h2 : gt t.classes (of u n) = some L) (h3 : L.arr = arr) (h4 : gt L.refs c = none) : cell t u n arr c = (0, false, false) := by unfold cell; rw [if_neg h, h2]; simp only [if_pos h3, h4]
theorem cell_some {t : RTg} {u : Unt} {n : Int} {arr : Bool} {c : Int} {L : Layout} {x : Int} (h : of u n ≠ -1) (h2 : gt t.classes (of u n) = some L) (h3 : L.arr = arr) (h4 : gt L.refs c = some x) : cell t u n arr c = (x, false, true) := by unfold cell; rw [if_neg h, h2]; simp only [if_pos h3, h4]
def Loads (t : RTg) (u : Unt) (a from_ : Int) (arr : Bool) (c : Int) : Prop :=
  (cell t u from_ arr c).2.2 = true ∧ (if (cell t u from_ arr c).2.1 = true then of u a ≠ -3 else Into (of u a) (cell t u from_ arr c).1)
instance (t : RTg) (u : Unt) (a f : Int) (arr : Bool) (c : Int) : Decidable (Loads t u a f arr c) := by unfold Loads; infer_instance
def Lays (t : RTg) (u : Unt) (to : Int) (arr : Bool) (c b : Int) : Prop :=
  (cell t u to arr c).2.2 = true ∧ (if (cell t u to arr c).2.1 = true then of u b ≠ -3 else Into (cell t u to arr c).1 (of u b))
instance (t : RTg) (u : Unt) (to : Int) (arr : Bool) (c b : Int) : Decidable (Lays t u to arr c b) := by unfold Lays; infer_instance
def Only (i : Ins) (a b c n args : Bool) : Prop := (a = true ∨ i.a = 0) ∧ (b = true ∨ i.b = 0) ∧ (c = true ∨ i.c = 0) ∧ (n = true ∨ i.n = 0) ∧ (args = true ∨ i.args = [])
instance (i : Ins) (a b c n args : Bool) : Decidable (Only i a b c n args) := by unfold Only; infer_instance
/-- What an operation names: of a, b, c, n and args; none: there is no such operation. -/
def names (op : Int) : Option (Bool × Bool × Bool × Bool × Bool) :=
  if op = 1 ∨ op = 11 ∨ op = 19 ∨ op = 20 then some (true, false, false, true, false)
  else if op = 2 ∨ op = 14 ∨ op = 15 ∨ op = 18 then some (true, false, false, false, false)
  else if op = 3 ∨ op = 10 then some (true, true, false, false, false)
  else if op = 5 ∨ op = 12 then some (true, true, false, true, false)
  else if op = 6 ∨ op = 7 ∨ op = 8 ∨ op = 9 then some (true, true, true, false, false)
  else if op = 4 then some (true, true, true, true, false)
  else if op = 13 then some (true, false, true, false, true)
  else if op = 16 then some (false, false, false, true, false)
  else if op = 17 then some (true, false, true, true, false)
  else if op = 21 ∨ op = 22 then some (false, false, false, false, true)
  else none
def Bare (i : Ins) : Prop := match names i.op with | some (a, b, c, n, g) => Only i a b c n g | none => False
instance (i : Ins) : Decidable (Bare i) := by unfold Bare; split <;> infer_instance
def Two (u : Unt) (i : Ins) : Prop := (14 ≤ i.n ∧ i.n ≤ 24) ∧ of u i.a = -2 ∧ ((of u i.b = -2 ∧ of u i.c = -2) ∨ (i.n = 21 ∨ i.n = 22) ∧ IsRef (of u i.b) ∧ IsRef (of u i.c))
instance (u : Unt) (i : Ins) : Decidable (Two u i) := by unfold Two; infer_instance
def CallOk (t : RTg) (u : Unt) (i : Ins) : Prop := match gt t.units i.c with
  | some g => ((i.args.length : Int) = g.params ∧ g.params ≤ (g.vars.length : Int) ∧ (∀ p ∈ i.args.zip g.vars, Into p.2 (of u p.1))) ∧ (i.a = -1 ∨ Into (of u i.a) g.result)
  | none => False
instance (t : RTg) (u : Unt) (i : Ins) : Decidable (CallOk t u i) := by unfold CallOk; split <;> infer_instance
def Fresh (t : RTg) (u : Unt) (i : Ins) (arr : Bool) : Prop := match gt t.classes i.n with | some L => L.arr = arr ∧ of u i.a = i.n | none => False
instance (t : RTg) (u : Unt) (i : Ins) (arr : Bool) : Decidable (Fresh t u i arr) := by unfold Fresh; split <;> infer_instance
/-- Rising, and each among others. -/
abbrev Steps (l of_ : List Int) : Prop := Rise l ∧ ∀ n ∈ l, n ∈ of_
def InG (t : RTg) (n : Int) (P : Int → Prop) : Prop := match gt t.globals n with | some g => P g | none => False
instance (t : RTg) (n : Int) (P : Int → Prop) [∀ g, Decidable (P g)] : Decidable (InG t n P) := by unfold InG; split <;> infer_instance
def Goes (t : RTg) (u : Unt) (i : Ins) : Prop :=
  if i.op = 13 then CallOk t u i
  else if i.op = 16 then Place u i.n
  else if i.op = 17 then of u i.a = -2 ∧ Place u i.n ∧ Place u i.c
  else if i.op = 18 then (u.result = -3 ∧ i.a = -1 ∨ u.result ≠ -3 ∧ Into u.result (of u i.a))
  else if i.op = 19 then InG t i.n (fun g => Into (of u i.a) g)
  else if i.op = 20 then InG t i.n (fun g => Into g (of u i.a))
  else i.args ≠ [] ∧ Rise i.args ∧ ∀ n ∈ i.args, n ∈ u.owns
instance (t : RTg) (u : Unt) (i : Ins) : Decidable (Goes t u i) := by unfold Goes; infer_instance
def Fits (t : RTg) (u : Unt) (i : Ins) : Prop :=
  if i.op = 1 ∨ i.op = 14 ∨ i.op = 15 then of u i.a = -2
  else if i.op = 2 then IsRef (of u i.a)
  else if i.op = 3 then Into (of u i.a) (of u i.b)
  else if i.op = 4 then Two u i
  else if i.op = 5 then (i.n = 12 ∨ i.n = 13) ∧ of u i.a = -2 ∧ of u i.b = -2
  else if i.op = 6 then Loads t u i.a i.b false i.c
  else if i.op = 7 then Lays t u i.a false i.c i.b
  else if i.op = 8 then of u i.c = -2 ∧ Loads t u i.a i.b true 0
  else if i.op = 9 then of u i.b = -2 ∧ Lays t u i.a true 0 i.c
  else if i.op = 10 then (cell t u i.b true 0).2.2 = true ∧ of u i.a = -2
  else if i.op = 11 then Fresh t u i false
  else if i.op = 12 then Fresh t u i true ∧ of u i.b = -2
  else Goes t u i
instance (t : RTg) (u : Unt) (i : Ins) : Decidable (Fits t u i) := by unfold Fits; infer_instance

/-- Not too great. -/
structure Small (t : RTg) : Prop where
  classes : t.classes.length ≤ 1073741824
  refs : ((flds t).map List.length).sum ≤ 1073741824
  globals : t.globals.length ≤ 1073741824
  units : t.units.length ≤ 1073741824
  unit : ∀ u ∈ t.units, u.vars.length ≤ 536870912 ∧ u.ins.length ≤ 1073741824
theorem le_sum {l : List Nat} {x : Nat} (h : x ∈ l) : x ≤ l.sum := by
  induction l with
  | nil => simp at h
  | cons y l ih =>
    rw [List.sum_cons]
    rcases List.mem_cons.1 h with rfl | h
    · omega
    · have := ih h; omega
theorem Small.ref {t : RTg} (h : Small t) {L : Layout} (hL : L ∈ t.classes) : L.refs.length ≤ 1073741824 :=
  Nat.le_trans (le_sum (List.mem_map.2 ⟨L.refs, List.mem_map.2 ⟨L, hL, rfl⟩, rfl⟩)) h.refs
theorem out_some {t : RTg} {k : Nat} {u : Unt} (h : t.units[k]? = some u) : out t k = outOf t u := by unfold out; rw [gt_nat, h]
theorem out_none {t : RTg} {k : Int} (h : k < 0 ∨ (t.units.length : Int) ≤ k) : out t k = [] := by unfold out; rw [gt_out h]
theorem pars_le (u : Unt) : pars u ≤ u.vars.length := by unfold pars; omega
theorem roots_len (u : Unt) : (roots u).length ≤ u.vars.length + 1 := by unfold roots; rw [List.length_append, List.length_take, List.length_singleton]; omega

def LayoutOk (t : RTg) (L : Layout) : Prop := L.refs.length ≤ 8 ∧ (L.arr = true → L.refs.length = 1) ∧ Entries t L.refs
instance (t : RTg) (L : Layout) : Decidable (LayoutOk t L) := by unfold LayoutOk; infer_instance
/-- The operation of a unit's last instruction. -/
def lastOp (u : Unt) : Int := match u.ins[u.ins.length - 1]? with | some i => i.op | none => 0
def UnitHd (t : RTg) (u : Unt) : Prop :=
  (0 ≤ u.params ∧ u.params ≤ 6 ∧ u.params ≤ (u.vars.length : Int) ∧ u.vars.length ≤ 4000) ∧ Entries t u.vars ∧ (u.result = -3 ∨ IsEntry t u.result) ∧ u.ins ≠ [] ∧
  (Rise u.takes ∧ ∀ c ∈ u.takes, c ∈ outOf t u) ∧ (Rise u.owns ∧ ∀ c ∈ u.owns, IsClass t c ∧ c ∉ outOf t u ∧ c ∉ glob t) ∧ (lastOp u = 16 ∨ lastOp u = 17 ∨ lastOp u = 18)
noncomputable instance (t : RTg) (u : Unt) : Decidable (UnitHd t u) := by unfold UnitHd; infer_instance
abbrev InsOk (t : RTg) (u : Unt) : Prop := ∀ i ∈ u.ins, Bare i ∧ Fits t u i
def UnitOk (t : RTg) (u : Unt) : Prop := UnitHd t u ∧ InsOk t u
noncomputable instance (t : RTg) (u : Unt) : Decidable (UnitOk t u) := by unfold UnitOk; infer_instance
def insOf (l : List Unt) : Nat := (l.map fun u => u.ins.length).sum
def MainOk (t : RTg) : Prop := match gt t.units t.main with | some u => u.params = 0 ∧ u.result = -3 | none => False
instance (t : RTg) : Decidable (MainOk t) := by unfold MainOk; split <;> infer_instance
abbrev UnitsOk (t : RTg) : Prop := insOf t.units ≤ 16000 ∧ ∀ u ∈ t.units, UnitOk t u
def RightP (t : RTg) : Prop := (t.classes.length ≤ 60 ∧ t.globals.length ≤ 8 ∧ t.units.length ≠ 0 ∧ t.units.length ≤ 16) ∧ MainOk t ∧ (∀ L ∈ t.classes, LayoutOk t L) ∧ Entries t t.globals ∧ UnitsOk t
noncomputable instance (t : RTg) : Decidable (RightP t) := by unfold RightP; infer_instance
theorem insOf_snoc (l : List Unt) (u : Unt) : insOf (l ++ [u]) = insOf l + u.ins.length := by simp [insOf]
theorem insOf_take (l : List Unt) (i : Nat) : insOf (l.take i) ≤ insOf l := by
  have := List.take_append_drop i l
  conv => rhs; rw [← this]
  unfold insOf; rw [List.map_append, List.sum_append]; omega
end Go.RtM

/- The plain mathematics of chapter 15: what comes next. No program in sight. -/
namespace Go.FlowM
open Go.RiseM Go.Api

/-- Where an instruction may go on, whether there or not. -/
def targets (x : Ins) (i : Int) : List Int := if x.op = 18 then [] else if x.op = 16 then [x.n] else if x.op = 17 then [x.n, x.c] else [i + 1]
/-- A number that is below n. -/
abbrev In (n : Nat) (x : Int) : Prop := 0 ≤ x ∧ x < (n : Int)
/-- What is next to an instruction that there is. -/
def nextOf (x : Ins) (n : Nat) (i : Int) : List Int := puts ((targets x i).filter fun y => decide (In n y))
def next (ins : List Ins) (i : Int) : List Int := match (if 0 ≤ i then ins[i.toNat]? else none) with
  | some x => nextOf x ins.length i
  | none => []
end Go.FlowM

/- The plain mathematics of chapter 16: which variables are live. No program in sight. -/
namespace Go.LivM
open Go.RiseM Go.Api Go.FlowM

/-- The numbers that an instruction asks. -/
def asks (x : Ins) : List Int :=
  if x.op = 3 ∨ x.op = 5 ∨ x.op = 6 ∨ x.op = 10 ∨ x.op = 12 then [x.b]
  else if x.op = 4 ∨ x.op = 8 then [x.b, x.c]
  else if x.op = 7 then [x.a, x.b]
  else if x.op = 9 then [x.a, x.b, x.c]
  else if x.op = 13 then x.args
  else if x.op = 15 ∨ x.op = 17 ∨ x.op = 18 ∨ x.op = 20 then [x.a]
  else []
def uses (x : Ins) : List Int := puts ((asks x).filter fun y => decide (In 4000 y))
abbrev Sets (op : Int) : Prop := op = 1 ∨ op = 2 ∨ op = 3 ∨ op = 4 ∨ op = 5 ∨ op = 6 ∨ op = 8 ∨ op = 10 ∨ op = 11 ∨ op = 12 ∨ op = 13 ∨ op = 14 ∨ op = 19
def def_ (x : Ins) : Int := if Sets x.op ∧ In 4000 x.a then x.a else -1
theorem uses_in {x : Ins} {v : Int} : v ∈ uses x ↔ v ∈ asks x ∧ In 4000 v := by
  unfold uses
  rw [(puts_spec _).2, List.mem_filter, decide_eq_true_iff]
/-- A variable is live ahead of an instruction. -/
inductive Live (ins : List Ins) : Nat → Int → Prop where
  | use {i : Nat} {x : Ins} {v : Int} (h : ins[i]? = some x) (hv : v ∈ uses x) : Live ins i v
  | pass {i j : Nat} {x : Ins} {v : Int} (h : ins[i]? = some x) (hd : def_ x ≠ v) (hj : (j : Int) ∈ next ins i) (hl : Live ins j v) : Live ins i v
theorem Live.var {ins : List Ins} {i : Nat} {v : Int} (h : Live ins i v) : In 4000 v := by
  induction h with
  | use _ hv => exact (uses_in.1 hv).2
  | pass _ _ _ _ ih => exact ih
theorem Live.lt {ins : List Ins} {i : Nat} {v : Int} (h : Live ins i v) : i < ins.length := by
  cases h with
  | use h _ => exact (List.getElem?_eq_some_iff.1 h).1
  | pass h _ _ _ => exact (List.getElem?_eq_some_iff.1 h).1
/-- One step back. -/
def Step (ins : List Ins) (H : Nat → Int → Prop) (i : Nat) (v : Int) : Prop := ∃ x, ins[i]? = some x ∧ (v ∈ uses x ∨ def_ x ≠ v ∧ ∃ j : Nat, (j : Int) ∈ next ins i ∧ H j v)
/-- What holds on the way: nothing but what is live, and nothing without a reason. -/
structure Inv (ins : List Ins) (H : Nat → Int → Prop) : Prop where
  live : ∀ i v, H i v → Live ins i v
  step : ∀ i v, H i v → Step ins H i v
/-! ### How much there is -/
def vars : List Int := (List.range 4000).map fun k => ((k : Nat) : Int)
open Classical in
noncomputable def size (n : Nat) (H : Nat → Int → Prop) : Nat := ((List.range n).map fun i => vars.countP fun v => decide (H i v)).sum
/-! ### The answer -/
open Classical in
noncomputable def lives (ins : List Ins) (i : Nat) : List Int := vars.filter fun v => decide (Live ins i v)
open Classical in
noncomputable def befores (ins : List Ins) : List (List Int) := (List.range ins.length).map (lives ins)
end Go.LivM

/- The plain mathematics of chapter 28: what stands ahead of a unit's instructions. No program in sight. -/
namespace Go.GuaM
open Go.RiseM Go.Api Go.FlowM Go.LivM Go.ReachM Go.RtM

/-- The numbers of two lists, rising. -/
def both (a b : List Int) : List Int := puts (a ++ b)
theorem both_mem {a b : List Int} {x : Int} : x ∈ both a b ↔ x ∈ a ∨ x ∈ b := by unfold both; rw [(puts_spec _).2, List.mem_append]
theorem both_rise (a b : List Int) : Rise (both a b) := (puts_spec _).1
def minus (a b : List Int) : List Int := a.filter fun x => decide (x ∉ b)
theorem minus_mem {a b : List Int} {x : Int} : x ∈ minus a b ↔ x ∈ a ∧ x ∉ b := by unfold minus; rw [List.mem_filter, decide_eq_true_iff]
theorem minus_rise {a : List Int} (h : Rise a) (b : List Int) : Rise (minus a b) := h.filter _
/-- What is live behind an instruction. -/
def alive (x : Ins) (L : List Int) : List Int := if x.op = 21 then both L x.args else if x.op = 22 then minus L x.args else L
theorem alive_rise (x : Ins) {L : List Int} (h : Rise L) : Rise (alive x L) := by
  unfold alive
  split
  · exact both_rise _ _
  · split
    · exact minus_rise h _
    · exact h
/-- A class that is in sight. -/
def Seen (t : RTg) (k : Int) (L : List Int) (c : Int) : Prop := c ∈ glob t ∨ c ∈ out t k ∨ c ∈ L
def Closed (t : RTg) (k : Int) (L : List Int) : Prop := ∀ c ∈ fromL (flds t) L, Seen t k L c
def CallC (t : RTg) (k : Int) (u : Unt) (x : Ins) (L : List Int) : Prop := (∀ c ∈ out t x.c, Seen t k L c) ∧ ∀ g, gt t.units x.c = some g → ∀ c ∈ g.takes, c ∈ L ∨ c ∈ u.takes
/-- An instruction is not refused for what is live. -/
def CondL (t : RTg) (k : Int) (u : Unt) (x : Ins) (L : List Int) : Prop :=
  if x.op = 21 then (∀ c ∈ x.args, c ∉ L) ∧ Closed t k (both L x.args)
  else if x.op = 22 then (∀ c ∈ x.args, c ∈ L) ∧ Closed t k (minus L x.args)
  else if x.op = 11 ∨ x.op = 12 then x.n ∈ glob t ∨ x.n ∈ L ∨ x.n ∈ u.takes
  else if x.op = 13 then CallC t k u x L
  else if x.op = 18 then L = [] else True
/-- A variable whose region an instruction removes. -/
def Gone (u : Unt) (x : Ins) (v : Int) : Prop := x.op = 22 ∧ 0 ≤ v ∧ ∃ c, u.vars[v.toNat]? = some c ∧ c ∈ x.args
inductive At (u : Unt) : Nat → List Int → Prop where
  | zero : At u 0 []
  | step {i j : Nat} {L : List Int} {x : Ins} (h : At u i L) (hx : u.ins[i]? = some x) (hj : (j : Int) ∈ next u.ins i) : At u j (alive x L)
inductive St (u : Unt) : Nat → Int → Prop where
  | gone {i j : Nat} {L : List Int} {x : Ins} {v : Int} (h : At u i L) (hx : u.ins[i]? = some x) (hg : Gone u x v) (hd : def_ x ≠ v) (hj : (j : Int) ∈ next u.ins i) : St u j v
  | pass {i j : Nat} {x : Ins} {v : Int} (h : St u i v) (hx : u.ins[i]? = some x) (hd : def_ x ≠ v) (hj : (j : Int) ∈ next u.ins i) : St u j v
theorem At.rise {u : Unt} {i : Nat} {L : List Int} (h : At u i L) : Rise L := by
  induction h with
  | zero => exact List.Pairwise.nil
  | step _ _ _ ih => exact alive_rise _ ih
theorem St.var {u : Unt} {i : Nat} {v : Int} (h : St u i v) : In u.vars.length v := by
  induction h with
  | gone _ _ hg _ _ =>
    obtain ⟨_, h0, c, hc, _⟩ := hg
    have := (List.getElem?_eq_some_iff.1 hc).1
    exact ⟨h0, by omega⟩
  | pass _ _ _ _ ih => exact ih
/-- A unit is accepted. -/
def AccU (t : RTg) (k : Int) (u : Unt) : Prop :=
  (∀ i L x, At u i L → u.ins[i]? = some x → CondL t k u x L ∧ ∀ v ∈ uses x, ¬ St u i v) ∧ ∀ i L L', At u i L → At u i L' → L = L'
def goneL (u : Unt) (x : Ins) : List Int := if x.op = 22 then ((List.range u.vars.length).filter fun v => decide (u.vars.getD v (-3) ∈ x.args)).map fun v => ((v : Nat) : Int) else []
theorem goneL_mem {u : Unt} {x : Ins} {v : Int} : v ∈ goneL u x ↔ Gone u x v := by
  unfold goneL Gone
  split
  · rename_i h
    simp only [List.mem_map, List.mem_filter, List.mem_range, decide_eq_true_eq]
    constructor
    · rintro ⟨n, ⟨h1, h2⟩, rfl⟩
      refine ⟨h, by omega, u.vars[n], by rw [Int.toNat_natCast]; exact List.getElem?_eq_getElem h1, ?_⟩
      rwa [List.getD_eq_getElem?_getD, List.getElem?_eq_getElem h1] at h2
    · rintro ⟨_, h0, c, hc, h2⟩
      have h1 := (List.getElem?_eq_some_iff.1 hc).1
      exact ⟨v.toNat, ⟨h1, by rw [List.getD_eq_getElem?_getD, hc]; exact h2⟩, by omega⟩
  · rename_i h
    simp [h]
/-- The variables that are stale behind an instruction. -/
def staleOut (u : Unt) (x : Ins) (st : List Int) : List Int := minus (both st (goneL u x)) [def_ x]
theorem staleOut_mem {u : Unt} {x : Ins} {st : List Int} {v : Int} : v ∈ staleOut u x st ↔ (v ∈ st ∨ Gone u x v) ∧ v ≠ def_ x := by
  unfold staleOut
  rw [minus_mem, both_mem, goneL_mem, List.mem_singleton]
/-! ### States -/
/-- What is told of the states: nothing but what comes about. -/
structure Snd (u : Unt) (S : List Api.State) : Prop where
  len : S.length = u.ins.length
  met : ∀ (i : Nat) s, S[i]? = some s → s.met = true → At u i s.live ∧ ∀ v ∈ s.stale, St u i v
  un : ∀ (i : Nat) s, S[i]? = some s → s.met = false → s.live = [] ∧ s.stale = []
  rl : ∀ (i : Nat) s, S[i]? = some s → Rise s.live ∧ Rise s.stale
def Cov (S : List Api.State) (j : Nat) (L st : List Int) : Prop := ∃ s, S[j]? = some s ∧ s.met = true ∧ s.live = L ∧ ∀ v ∈ st, v ∈ s.stale
def Passes (t : RTg) (k : Int) (u : Unt) (x : Ins) (s : Api.State) : Prop := CondL t k u x s.live ∧ ∀ v ∈ uses x, v ∉ s.stale
def Done (t : RTg) (k : Int) (u : Unt) (S : List Api.State) (i : Nat) : Prop := ∀ s x, S[i]? = some s → s.met = true → u.ins[i]? = some x → Passes t k u x s ∧ ∀ j : Nat, (j : Int) ∈ next u.ins i → Cov S j (alive x s.live) (staleOut u x s.stale)
theorem acc_of_done {t : RTg} {k : Int} {u : Unt} {S : List Api.State} (h0 : Cov S 0 [] []) (hd : ∀ i, Done t k u S i) : AccU t k u := by
  have k1 : ∀ i L, At u i L → ∃ s, S[i]? = some s ∧ s.met = true ∧ s.live = L := by
    intro i L h
    induction h with
    | zero =>
      obtain ⟨s, h1, h2, h3, _⟩ := h0
      exact ⟨s, h1, h2, h3⟩
    | step _ hx hj ih =>
      obtain ⟨s, h1, h2, h3⟩ := ih
      obtain ⟨s2, h4, h5, h6, _⟩ := (hd _ s _ h1 h2 hx).2 _ hj
      exact ⟨s2, h4, h5, by rw [h6, h3]⟩
  have k2 : ∀ i v, St u i v → ∃ s, S[i]? = some s ∧ s.met = true ∧ v ∈ s.stale := by
    intro i v h
    induction h with
    | gone ha hx hg hdf hj =>
      obtain ⟨s, h1, h2, _⟩ := k1 _ _ ha
      obtain ⟨s2, h4, h5, _, h7⟩ := (hd _ s _ h1 h2 hx).2 _ hj
      exact ⟨s2, h4, h5, h7 _ (staleOut_mem.2 ⟨.inr hg, fun e => hdf e.symm⟩)⟩
    | pass _ hx hdf hj ih =>
      obtain ⟨s, h1, h2, h3⟩ := ih
      obtain ⟨s2, h4, h5, _, h7⟩ := (hd _ s _ h1 h2 hx).2 _ hj
      exact ⟨s2, h4, h5, h7 _ (staleOut_mem.2 ⟨.inl h3, fun e => hdf e.symm⟩)⟩
  refine ⟨fun i L x ha hx => ?_, fun i L L' h1 h2 => ?_⟩
  · obtain ⟨s, h1, h2, h3⟩ := k1 i L ha
    obtain ⟨h4, h5⟩ := (hd i s x h1 h2 hx).1
    refine ⟨by rw [← h3]; exact h4, fun v hv hs => ?_⟩
    obtain ⟨s2, h6, _, h7⟩ := k2 i v hs
    rw [h1] at h6
    cases h6
    exact h5 v hv h7
  · obtain ⟨s, e1, _, e2⟩ := k1 i L h1
    obtain ⟨s2, e3, _, e4⟩ := k1 i L' h2
    rw [e1] at e3
    cases e3
    rw [← e2, e4]
/-- A state that is laid. -/
def lay (L st : List Int) (o : Api.State) : Api.State := ⟨true, L, both st o.stale⟩
theorem snd_lay {u : Unt} {S : List Api.State} (h : Snd u S) {j : Nat} {o : Api.State} {L st : List Int} (ho : S[j]? = some o) (hL : At u j L) (hst : ∀ v ∈ st, St u j v) : Snd u (S.set j (lay L st o)) := by
  have hj := (List.getElem?_eq_some_iff.1 ho).1
  have hget : ∀ (i : Nat) s, (S.set j (lay L st o))[i]? = some s → i = j ∧ s = lay L st o ∨ i ≠ j ∧ S[i]? = some s := fun i s hs => by
    by_cases e : j = i
    · subst e
      rw [List.getElem?_set_self hj] at hs
      cases hs
      exact .inl ⟨rfl, rfl⟩
    · rw [List.getElem?_set_ne e] at hs
      exact .inr ⟨fun e2 => e e2.symm, hs⟩
  refine ⟨by rw [List.length_set]; exact h.len, fun i s hs hm => ?_, fun i s hs hm => ?_, fun i s hs => ?_⟩
  · rcases hget i s hs with ⟨rfl, rfl⟩ | ⟨_, hs⟩
    · refine ⟨hL, fun v hv => ?_⟩
      rcases both_mem.1 hv with hv | hv
      · exact hst v hv
      · by_cases hom : o.met = true
        · exact (h.met i o ho hom).2 v hv
        · rw [(h.un i o ho (by simpa using hom)).2] at hv; simp at hv
    · exact h.met i s hs hm
  · rcases hget i s hs with ⟨rfl, rfl⟩ | ⟨_, hs⟩
    · cases hm
    · exact h.un i s hs hm
  · rcases hget i s hs with ⟨rfl, rfl⟩ | ⟨_, hs⟩
    · exact ⟨hL.rise, both_rise _ _⟩
    · exact h.rl i s hs
theorem cov_lay {S : List Api.State} {j : Nat} {o : Api.State} {L st : List Int} (ho : S[j]? = some o) (hok : o.met = true → o.live = L) {i : Nat} {L2 st2 : List Int} (hc : Cov S i L2 st2) : Cov (S.set j (lay L st o)) i L2 st2 := by
  have hj := (List.getElem?_eq_some_iff.1 ho).1
  obtain ⟨s, h1, h2, h3, h4⟩ := hc
  by_cases e : j = i
  · subst e
    rw [ho] at h1
    cases h1
    exact ⟨lay L st o, List.getElem?_set_self hj, rfl, by rw [← h3]; exact (hok h2).symm, fun v hv => both_mem.2 (.inr (h4 v hv))⟩
  · exact ⟨s, by rw [List.getElem?_set_ne e]; exact h1, h2, h3, h4⟩
theorem cov_self {S : List Api.State} {j : Nat} {o : Api.State} {L st : List Int} (ho : S[j]? = some o) : Cov (S.set j (lay L st o)) j L st :=
  ⟨lay L st o, List.getElem?_set_self (List.getElem?_eq_some_iff.1 ho).1, rfl, rfl, fun v hv => both_mem.2 (.inl hv)⟩
theorem done_lay {t : RTg} {k : Int} {u : Unt} {S : List Api.State} {j : Nat} {o : Api.State} {L st : List Int} (ho : S[j]? = some o) (hok : o.met = true → o.live = L) {i : Nat} (hi : i ≠ j) (h : Done t k u S i) : Done t k u (S.set j (lay L st o)) i := fun s x hs hm hx => by
  rw [List.getElem?_set_ne (Ne.symm hi)] at hs
  obtain ⟨h1, h2⟩ := h s x hs hm hx
  exact ⟨h1, fun m hm2 => cov_lay ho hok (h2 m hm2)⟩
theorem done_un {t : RTg} {k : Int} {u : Unt} {S : List Api.State} {i : Nat} (h : ∀ s, S[i]? = some s → s.met = false) : Done t k u S i := fun s x hs hm _ => by rw [h s hs] at hm; cases hm

/-! ### How much there is -/
def wgt (s : Api.State) : Nat := (if s.met = true then 1 else 0) + s.stale.length
def wsum (S : List Api.State) : Nat := (S.map wgt).sum
theorem wsum_set {S : List Api.State} {j : Nat} {o s : Api.State} (ho : S[j]? = some o) : wsum (S.set j s) + wgt o = wsum S + wgt s := by
  unfold wsum
  induction S generalizing j with
  | nil => simp at ho
  | cons a S ih =>
    cases j with
    | zero => simp at ho; subst ho; simp only [List.set_cons_zero, List.map_cons, List.sum_cons]; omega
    | succ j =>
      have := ih (j := j) (by simpa using ho)
      simp only [List.set_cons_succ, List.map_cons, List.sum_cons]; omega
theorem rise_subset : ∀ (m l : List Int), Rise l → Rise m → (∀ x ∈ l, x ∈ m) → l.length ≤ m.length ∧ (l.length = m.length → l = m)
  | [], l, _, _, h => by
    have : l = [] := List.eq_nil_iff_forall_not_mem.2 fun x hx => by simpa using h x hx
    subst this; exact ⟨Nat.le_refl _, fun _ => rfl⟩
  | y :: m, [], _, _, _ => ⟨Nat.zero_le _, fun h => by simp at h⟩
  | y :: m, x :: l, hl, hm, h => by
    obtain ⟨l1, l2⟩ := List.pairwise_cons.1 hl
    obtain ⟨m1, m2⟩ := List.pairwise_cons.1 hm
    by_cases e : x = y
    · subst e
      obtain ⟨h1, h2⟩ := rise_subset m l l2 m2 fun z hz => by
        rcases List.mem_cons.1 (h z (by simp [hz])) with rfl | h3
        · exact absurd (l1 _ hz) (by omega)
        · exact h3
      simp only [List.length_cons]
      exact ⟨by omega, fun h3 => by rw [h2 (by omega)]⟩
    · have hx : x ∈ m := by
        rcases List.mem_cons.1 (h x (by simp)) with h3 | h3
        · exact absurd h3 e
        · exact h3
      have hyx := m1 x hx
      obtain ⟨h1, _⟩ := rise_subset m (x :: l) hl m2 fun z hz => by
        rcases List.mem_cons.1 (h z hz) with rfl | h3
        · rcases List.mem_cons.1 hz with h4 | h4
          · exact absurd h4.symm e
          · exact absurd (l1 _ h4) (by omega)
        · exact h3
      simp only [List.length_cons] at h1 ⊢
      exact ⟨by omega, fun h3 => by omega⟩
/-- Nothing new: it was there. -/
theorem both_same {st o : List Int} (ho : Rise o) (h : (both st o).length = o.length) : ∀ v ∈ st, v ∈ o := fun v hv => by
  have := (rise_subset (both st o) o ho (both_rise _ _) fun x hx => both_mem.2 (.inr hx)).2 h.symm
  rw [this]; exact both_mem.2 (.inl hv)
/-- Something new: there is more. -/
theorem wgt_lay {L st : List Int} {o : Api.State} (ho : Rise o.stale) (h : ¬ (o.met = true ∧ (both st o.stale).length = o.stale.length)) : wgt o < wgt (lay L st o) := by
  have := (rise_subset (both st o.stale) o.stale ho (both_rise _ _) fun x hx => both_mem.2 (.inr hx)).1
  unfold wgt lay
  dsimp only
  by_cases hm : o.met = true
  · have : ¬ (both st o.stale).length = o.stale.length := fun e => h ⟨hm, e⟩
    rw [if_pos hm, if_pos rfl]; omega
  · rw [if_neg hm, if_pos rfl]; omega
end Go.GuaM

/- The plain mathematics of chapter 28: what a guard turns, step by step. No program in sight. -/
namespace Go.GuaM
open Go.RiseM Go.Api Go.FlowM Go.LivM Go.ReachM Go.RtM

theorem nodup_fits {α : Type} [BEq α] [LawfulBEq α] : ∀ {l m : List α}, l.Nodup → (∀ x ∈ l, x ∈ m) → l.length ≤ m.length
  | [], _, _, _ => Nat.zero_le _
  | x :: l, m, h, hm => by
    obtain ⟨h1, h2⟩ := List.nodup_cons.1 h
    have hx := hm x (by simp)
    have h3 := nodup_fits (l := l) (m := m.erase x) h2 fun y hy => (List.mem_erase_of_ne (fun e => h1 (by rw [← e]; exact hy))).2 (hm y (by simp [hy]))
    rw [List.length_erase_of_mem hx] at h3
    have := List.length_pos_of_mem hx
    rw [List.length_cons]; omega
structure Inv (u : Unt) (S : List Api.State) (W : List Bool) (xs : List Int) : Prop where
  snd : Snd u S
  wl : W.length = u.ins.length
  que : ∀ y ∈ xs, ∃ i : Nat, y = (i : Int) ∧ W[i]? = some true
  nd : xs.Nodup
  inq : ∀ i : Nat, W[i]? = some true → (i : Int) ∈ xs
  met : ∀ i : Nat, W[i]? = some true → ∃ s, S[i]? = some s ∧ s.met = true
theorem Inv.len {u : Unt} {S : List Api.State} {W : List Bool} {xs : List Int} (h : Inv u S W xs) : xs.length ≤ u.ins.length := by
  have := nodup_fits (m := (List.range u.ins.length).map fun i => ((i : Nat) : Int)) h.nd fun y hy => by
    obtain ⟨i, rfl, h2⟩ := h.que y hy
    have := (List.getElem?_eq_some_iff.1 h2).1
    rw [h.wl] at this
    exact List.mem_map.2 ⟨i, List.mem_range.2 this, rfl⟩
  simpa using this
theorem set_true {W : List Bool} {i j : Nat} (h : (W.set i true)[j]? = some true) : j = i ∨ W[j]? = some true := by
  by_cases e : i = j
  · exact .inl e.symm
  · rw [List.getElem?_set_ne e] at h; exact .inr h
theorem Inv.lay {u : Unt} {S : List Api.State} {W : List Bool} {xs xs' : List Int} {j : Nat} {o : Api.State} {wj : Bool} {L st : List Int} (h : Inv u S W xs) (ho : S[j]? = some o) (hw : W[j]? = some wj) (hL : At u j L) (hst : ∀ v ∈ st, St u j v)
    (hx : wj = true ∧ xs' = xs ∨ wj = false ∧ xs'.Perm (xs ++ [(j : Int)])) : Inv u (S.set j (GuaM.lay L st o)) (W.set j true) xs' := by
  have hjW := (List.getElem?_eq_some_iff.1 hw).1
  have hjS := (List.getElem?_eq_some_iff.1 ho).1
  have hmem : ∀ y, y ∈ xs' ↔ y ∈ xs ∨ y = (j : Int) := by
    intro y
    rcases hx with ⟨h1, rfl⟩ | ⟨_, h2⟩
    · refine ⟨.inl, fun h3 => h3.elim id fun h3 => ?_⟩
      subst h3
      exact h.inq j (by rw [hw, h1])
    · rw [h2.mem_iff, List.mem_append, List.mem_singleton]
  refine ⟨snd_lay h.snd ho hL hst, by rw [List.length_set]; exact h.wl, fun y hy => ?_, ?_, fun i hi => ?_, fun i hi => ?_⟩
  · rcases (hmem y).1 hy with h1 | rfl
    · obtain ⟨i, rfl, h2⟩ := h.que y h1
      refine ⟨i, rfl, ?_⟩
      by_cases e : j = i
      · subst e; rw [List.getElem?_set_self hjW]
      · rw [List.getElem?_set_ne e]; exact h2
    · exact ⟨j, rfl, by rw [List.getElem?_set_self hjW]⟩
  · rcases hx with ⟨_, rfl⟩ | ⟨h1, h2⟩
    · exact h.nd
    · refine h2.nodup_iff.2 (List.nodup_append.2 ⟨h.nd, by simp, fun a ha c hc e => ?_⟩)
      rw [List.mem_singleton] at hc
      subst hc; subst e
      obtain ⟨i, e, h3⟩ := h.que _ ha
      have : i = j := by omega
      subst this
      rw [hw, h1] at h3; cases h3
  · rcases set_true hi with rfl | h1
    · exact (hmem _).2 (.inr rfl)
    · exact (hmem _).2 (.inl (h.inq i h1))
  · by_cases e : j = i
    · subst e; exact ⟨_, List.getElem?_set_self hjS, rfl⟩
    · rw [List.getElem?_set_ne e] at hi ⊢
      exact h.met i hi
/-- How much there is left to do. -/
def left (u : Unt) (S : List Api.State) (xs : List Int) : Nat := 2 * (u.ins.length * (1 + u.vars.length) - wsum S) + xs.length
structure Out (t : RTg) (k : Int) (u : Unt) (S : List Api.State) (W : List Bool) (xs : List Int) : Prop where
  inv : Inv u S W xs
  done : ∀ i : Nat, W[i]? = some false → Done t k u S i
  cov : Cov S 0 [] []
theorem Out.all {t : RTg} {k : Int} {u : Unt} {S : List Api.State} {W : List Bool} (h : Out t k u S W []) : ∀ i, Done t k u S i := fun i => by
  by_cases hi : i < u.ins.length
  · refine h.done i ?_
    have hl : i < W.length := by rw [h.inv.wl]; exact hi
    rw [List.getElem?_eq_getElem hl]
    cases hw : W[i] with
    | false => rfl
    | true => exact absurd (h.inv.inq i (by rw [List.getElem?_eq_getElem hl, hw])) (by simp)
  · intro s x hs _ _
    have := (List.getElem?_eq_some_iff.1 hs).1
    rw [h.inv.snd.len] at this; exact absurd this hi
/-- In the midst of an instruction's round. -/
structure Mid (t : RTg) (k : Int) (u : Unt) (i : Nat) (s : Api.State) (x : Ins) (m : Nat) (S : List Api.State) (W : List Bool) (xs : List Int) : Prop where
  inv : Inv u S W xs
  done : ∀ i' : Nat, i' ≠ i → W[i']? = some false → Done t k u S i'
  here : W[i]? = some true ∨ S[i]? = some s
  cov : Cov S 0 [] []
  covs : ∀ j : Nat, (j : Int) ∈ (next u.ins i).take m → Cov S j (alive x s.live) (staleOut u x s.stale)
theorem Mid.same {t : RTg} {k : Int} {u : Unt} {i j m : Nat} {s o : Api.State} {x : Ins} {S : List Api.State} {W : List Bool} {xs : List Int} (h : Mid t k u i s x m S W xs) (hj : (next u.ins i)[m]? = some (j : Int)) (ho : S[j]? = some o) (hm : o.met = true) (hl : o.live = alive x s.live) (he : (both (staleOut u x s.stale) o.stale).length = o.stale.length) : Mid t k u i s x (m + 1) S W xs :=
  ⟨h.inv, h.done, h.here, h.cov, fun j' hj' => by
    rw [List.take_add_one, hj, List.mem_append] at hj'
    rcases hj' with hj' | hj'
    · exact h.covs j' hj'
    · have : j' = j := by simp at hj'; omega
      subst this
      exact ⟨o, ho, hm, hl, both_same (h.inv.snd.rl j' o ho).2 he⟩⟩
theorem Mid.lay {t : RTg} {k : Int} {u : Unt} {i j m : Nat} {s o : Api.State} {x : Ins} {S : List Api.State} {W : List Bool} {xs xs' : List Int} {wj : Bool} (h : Mid t k u i s x m S W xs) (hj : (next u.ins i)[m]? = some (j : Int)) (ho : S[j]? = some o) (hw : W[j]? = some wj) (hl : o.met = true → o.live = alive x s.live) (hA : At u j (alive x s.live)) (hst : ∀ v ∈ staleOut u x s.stale, St u j v)
    (hx : wj = true ∧ xs' = xs ∨ wj = false ∧ xs'.Perm (xs ++ [(j : Int)])) : Mid t k u i s x (m + 1) (S.set j (GuaM.lay (alive x s.live) (staleOut u x s.stale) o)) (W.set j true) xs' := by
  have hjW := (List.getElem?_eq_some_iff.1 hw).1
  refine ⟨h.inv.lay ho hw hA hst hx, fun i' hne hwi => ?_, ?_, cov_lay ho hl h.cov, fun j' hj' => ?_⟩
  · by_cases e : j = i'
    · subst e; rw [List.getElem?_set_self hjW] at hwi; cases hwi
    · rw [List.getElem?_set_ne e] at hwi
      exact done_lay ho hl (Ne.symm e) (h.done i' hne hwi)
  · by_cases e : j = i
    · subst e; exact .inl (by rw [List.getElem?_set_self hjW])
    · rw [List.getElem?_set_ne e, List.getElem?_set_ne e]; exact h.here
  · rw [List.take_add_one, hj, List.mem_append] at hj'
    rcases hj' with hj' | hj'
    · exact cov_lay ho hl (h.covs j' hj')
    · have : j' = j := by simp at hj'; omega
      subst this
      exact cov_self ho
theorem Mid.out {t : RTg} {k : Int} {u : Unt} {i m : Nat} {s : Api.State} {x : Ins} {S : List Api.State} {W : List Bool} {xs : List Int} (h : Mid t k u i s x m S W xs) (hm : (next u.ins i).length ≤ m) (hx : u.ins[i]? = some x) (hp : Passes t k u x s) : Out t k u S W xs := by
  refine ⟨h.inv, fun i' hw => ?_, h.cov⟩
  by_cases e : i' = i
  · subst e
    have hs : S[i']? = some s := h.here.elim (fun h2 => by rw [hw] at h2; cases h2) id
    intro s' x' hs' _ hx'
    rw [hs] at hs'; cases hs'
    rw [hx] at hx'; cases hx'
    refine ⟨hp, fun j hj => h.covs j ?_⟩
    rw [List.take_of_length_le hm]; exact hj
  · exact h.done i' e hw
end Go.GuaM

/- Whether a unit that is written down is accepted, by going through it; the reference's rounds. No program in sight. -/
namespace Go.GuaM
open Go.RiseM Go.Api Go.FlowM Go.LivM Go.ReachM Go.RtM

/-! ### Rounds -/
/-- In the midst of a round: at an instruction. -/
structure Rnd (t : RTg) (k : Int) (u : Unt) (w0 : Nat) (more : Bool) (S : List Api.State) (i : Nat) : Prop where
  snd : Snd u S
  cov : Cov S 0 [] []
  done : more = false → ∀ j, j < i → Done t k u S j
  less : if more = true then w0 < wsum S else wsum S = w0
/-- In the midst of an instruction's: at one that is next. -/
structure RndN (t : RTg) (k : Int) (u : Unt) (w0 : Nat) (s : Api.State) (x : Ins) (more : Bool) (S : List Api.State) (i m : Nat) : Prop where
  rnd : Rnd t k u w0 more S i
  here : more = false → S[i]? = some s
  covs : more = false → ∀ j : Nat, (j : Int) ∈ (next u.ins i).take m → Cov S j (alive x s.live) (staleOut u x s.stale)
theorem Rnd.begin {t : RTg} {k : Int} {u : Unt} {S : List Api.State} (h1 : Snd u S) (h2 : Cov S 0 [] []) : Rnd t k u (wsum S) false S 0 := ⟨h1, h2, fun _ j hj => absurd hj (Nat.not_lt_zero _), by simp⟩
theorem Rnd.pass {t : RTg} {k : Int} {u : Unt} {w0 : Nat} {more : Bool} {S : List Api.State} {i : Nat} {s : Api.State} (h : Rnd t k u w0 more S i) (hs : S[i]? = some s) (hm : s.met = false) : Rnd t k u w0 more S (i + 1) :=
  ⟨h.snd, h.cov, fun e j hj => by
    rcases Nat.lt_succ_iff_lt_or_eq.1 hj with h1 | rfl
    · exact h.done e j h1
    · exact done_un fun s' hs' => by rw [hs] at hs'; cases hs'; exact hm, h.less⟩
theorem Rnd.go {t : RTg} {k : Int} {u : Unt} {w0 : Nat} {more : Bool} {S : List Api.State} {i : Nat} {s : Api.State} (x : Ins) (h : Rnd t k u w0 more S i) (hs : S[i]? = some s) : RndN t k u w0 s x more S i 0 := ⟨h, fun _ => hs, fun _ j hj => by simp at hj⟩
theorem RndN.fin {t : RTg} {k : Int} {u : Unt} {w0 : Nat} {s : Api.State} {x : Ins} {more : Bool} {S : List Api.State} {i m : Nat} (h : RndN t k u w0 s x more S i m) (hm : (next u.ins i).length ≤ m) (hx : u.ins[i]? = some x) (hp : Passes t k u x s) : Rnd t k u w0 more S (i + 1) :=
  ⟨h.rnd.snd, h.rnd.cov, fun e j hj => by
    rcases Nat.lt_succ_iff_lt_or_eq.1 hj with h1 | rfl
    · exact h.rnd.done e j h1
    · intro s' x' hs' _ hx'
      rw [h.here e] at hs'; cases hs'
      rw [hx] at hx'; cases hx'
      refine ⟨hp, fun j' hj' => h.covs e j' ?_⟩
      rw [List.take_of_length_le hm]; exact hj', h.rnd.less⟩
theorem RndN.same {t : RTg} {k : Int} {u : Unt} {w0 : Nat} {s : Api.State} {x : Ins} {more : Bool} {S : List Api.State} {i m j : Nat} {o : Api.State} (h : RndN t k u w0 s x more S i m) (hj : (next u.ins i)[m]? = some (j : Int)) (ho : S[j]? = some o) (hm : o.met = true) (hl : o.live = alive x s.live) (he : (both (staleOut u x s.stale) o.stale).length = o.stale.length) : RndN t k u w0 s x more S i (m + 1) :=
  ⟨h.rnd, h.here, fun e j' hj' => by
    rw [List.take_add_one, hj, List.mem_append] at hj'
    rcases hj' with hj' | hj'
    · exact h.covs e j' hj'
    · have : j' = j := by simp at hj'; omega
      subst this
      exact ⟨o, ho, hm, hl, both_same (h.rnd.snd.rl j' o ho).2 he⟩⟩
theorem RndN.lay {t : RTg} {k : Int} {u : Unt} {w0 : Nat} {s : Api.State} {x : Ins} {more : Bool} {S : List Api.State} {i m j : Nat} {o : Api.State} (h : RndN t k u w0 s x more S i m) (ho : S[j]? = some o) (hl : o.met = true → o.live = alive x s.live) (hA : At u j (alive x s.live)) (hst : ∀ v ∈ staleOut u x s.stale, St u j v)
    (hn : ¬ (o.met = true ∧ (both (staleOut u x s.stale) o.stale).length = o.stale.length)) : RndN t k u w0 s x true (S.set j (GuaM.lay (alive x s.live) (staleOut u x s.stale) o)) i (m + 1) := by
  refine ⟨⟨snd_lay h.rnd.snd ho hA hst, cov_lay ho hl h.rnd.cov, fun e => (by cases e), ?_⟩, fun e => (by cases e), fun e => (by cases e)⟩
  rw [if_pos rfl]
  have h1 := wgt_lay (L := alive x s.live) (h.rnd.snd.rl j o ho).2 hn
  have h2 := wsum_set (s := GuaM.lay (alive x s.live) (staleOut u x s.stale) o) ho
  have h3 := h.rnd.less
  split at h3 <;> omega
theorem Rnd.acc {t : RTg} {k : Int} {u : Unt} {w0 : Nat} {S : List Api.State} (h : Rnd t k u w0 false S u.ins.length) : AccU t k u := by
  refine acc_of_done h.cov fun i => ?_
  by_cases hi : i < u.ins.length
  · exact h.done rfl i hi
  · intro s x hs _ _
    have := (List.getElem?_eq_some_iff.1 hs).1
    rw [h.snd.len] at this; exact absurd this hi
/-- The states at first. -/
def first (u : Unt) : List Api.State := (List.replicate u.ins.length (⟨false, [], []⟩ : Api.State)).set 0 ⟨true, [], []⟩
/-! ### Going through a unit that is written down -/
section
variable (cB : Ins → List Int → Bool) (u : Unt)
def layB (S : List Api.State) (L st : List Int) (j : Nat) : Option (List Api.State) :=
  match S[j]? with
  | none => some S
  | some o => if o.met = true ∧ o.live ≠ L then none else some (S.set j (lay L st o))
def laysB (L st : List Int) : List Nat → List Api.State → Option (List Api.State)
  | [], S => some S
  | j :: l, S => (layB S L st j).bind (laysB L st l)
def passB (x : Ins) (s : Api.State) : Bool := cB x s.live && decide (∀ v ∈ uses x, v ∉ s.stale)
def oneB (S : List Api.State) (i : Nat) : Option (List Api.State) :=
  match S[i]?, u.ins[i]? with
  | some s, some x => if s.met = true then (if passB cB x s = true then laysB (alive x s.live) (staleOut u x s.stale) ((next u.ins i).map Int.toNat) S else none) else some S
  | _, _ => some S
def roundB : List Nat → List Api.State → Option (List Api.State)
  | [], S => some S
  | i :: l, S => (oneB cB u S i).bind (roundB l)
def covB (S : List Api.State) (L st : List Int) (j : Nat) : Bool := match S[j]? with | none => false | some o => o.met && decide (o.live = L) && decide (∀ v ∈ st, v ∈ o.stale)
def chkB (S : List Api.State) : Bool := covB S [] [] 0 && (List.range u.ins.length).all fun i => match S[i]?, u.ins[i]? with
  | some s, some x => !s.met || passB cB x s && ((next u.ins i).map Int.toNat).all (covB S (alive x s.live) (staleOut u x s.stale))
  | _, _ => true
/-- Some: it is known. -/
def simB : Nat → List Api.State → Option (Bool × List Api.State)
  | 0, S => if chkB cB u S = true then some (true, S) else none
  | n + 1, S => match roundB cB u (List.range u.ins.length) S with
    | none => some (false, [])
    | some S => simB n S
end
section
variable {cB : Ins → List Int → Bool} {u : Unt} {t : RTg} {k : Int}
end
end Go.GuaM

/- Programs of one unit as chapter 28's laws have them, plainly. No program in sight. -/
namespace Go.OneM
open Go.Api Go.RtM Go.ReachM Go.RiseM Go.GuaM Go.LivM Go.FlowM
def oneU (ins : List Ins) : Unt := ⟨0, [0, 1, -2], -3, [], [0, 1], ins⟩
def oneT (ins : List Ins) : RTg := ⟨[⟨false, [-2]⟩, ⟨false, [0]⟩], [], [oneU ins], 0⟩
theorem one_glob (ins : List Ins) : glob (oneT ins) = [] := fromL_nil (by simp [oneT])
theorem one_outOf (ins : List Ins) : outOf (oneT ins) (oneU ins) = [] := by
  have e : roots (oneU ins) = [-3] := rfl
  unfold outOf
  rw [e, fromL_nil (by simp)]
  rfl
def oneC (x : Ins) (L : List Int) : Bool :=
  if x.op = 21 then decide (∀ c ∈ x.args, c ∉ L) && decide (1 ∈ both L x.args → 0 ∈ both L x.args)
  else if x.op = 22 then decide (∀ c ∈ x.args, c ∈ L) && decide (1 ∈ minus L x.args → 0 ∈ minus L x.args)
  else if x.op = 11 ∨ x.op = 12 then decide (x.n ∈ L)
  else if x.op = 18 then decide (L = []) else true
def oneSim (ins : List Ins) : Option (Bool × List Api.State) := simB oneC (oneU ins) 8 (first (oneU ins))
/-- What a unit's instructions are asked. -/
def OneOk (ins : List Ins) : Prop := ins ≠ [] ∧ ins.length ≤ 16000 ∧ (lastOp (oneU ins) = 16 ∨ lastOp (oneU ins) = 17 ∨ lastOp (oneU ins) = 18) ∧ ∀ i ∈ ins, Bare i ∧ Fits (oneT ins) (oneU ins) i
instance (ins : List Ins) : Decidable (OneOk ins) := by unfold OneOk; infer_instance
theorem one_right {ins : List Ins} : RightP (oneT ins) ↔ OneOk ins := by
  constructor
  · rintro ⟨_, _, _, _, h1, h2⟩
    obtain ⟨⟨_, _, _, h3, _, _, h4⟩, h5⟩ := h2 (oneU ins) (by simp [oneT])
    refine ⟨h3, ?_, h4, h5⟩
    have : insOf (oneT ins).units = ins.length := by simp [insOf, oneT, oneU]
    omega
  · rintro ⟨h3, h6, h4, h5⟩
    have hl : insOf (oneT ins).units = ins.length := by simp [insOf, oneT, oneU]
    have hc0 : IsClass (oneT ins) 0 := ⟨by omega, by show (0 : Int) < 2; omega⟩
    have hc1 : IsClass (oneT ins) 1 := ⟨by omega, by show (1 : Int) < 2; omega⟩
    refine ⟨by show (2 ≤ 60 ∧ 0 ≤ 8 ∧ 1 ≠ 0 ∧ 1 ≤ 16); decide, ⟨rfl, rfl⟩, fun L hL => ?_, fun x hx => by simp [oneT] at hx, by rw [hl]; exact h6, fun u hu => ?_⟩
    · have hL : L = ⟨false, [-2]⟩ ∨ L = ⟨false, [0]⟩ := by simpa [oneT] using hL
      rcases hL with rfl | rfl
      · exact ⟨by show 1 ≤ 8; decide, fun h => (by cases h), fun n hn => .inr (.inr (by simpa using hn))⟩
      · refine ⟨by show 1 ≤ 8; decide, fun h => (by cases h), fun n hn => ?_⟩
        obtain rfl : n = 0 := by simpa using hn
        exact .inl hc0
    · obtain rfl : u = oneU ins := by simpa [oneT] using hu
      refine ⟨⟨⟨by show (0 : Int) ≤ 0; omega, by show (0 : Int) ≤ 6; omega, by show (0 : Int) ≤ 3; omega, by show 3 ≤ 4000; omega⟩, fun n hn => ?_, .inl rfl, h3, ⟨by show Rise []; exact List.Pairwise.nil, fun c hc => by simp [oneU] at hc⟩, ⟨by show Rise [0, 1]; decide, fun c hc => ?_⟩, h4⟩, h5⟩
      · have hn : n = 0 ∨ n = 1 ∨ n = -2 := by simpa [oneU] using hn
        rcases hn with rfl | rfl | rfl
        · exact .inl hc0
        · exact .inl hc1
        · exact .inr (.inr rfl)
      · have hc : c = 0 ∨ c = 1 := by simpa [oneU] using hc
        rw [one_glob, one_outOf]
        rcases hc with rfl | rfl
        · exact ⟨hc0, by simp, by simp⟩
        · exact ⟨hc1, by simp, by simp⟩
/-- Small enough. -/
def OneFew (ins : List Ins) : Prop := ins.length ≤ 400 ∧ ∀ i ∈ ins, i.args.length ≤ 80
instance (ins : List Ins) : Decidable (OneFew ins) := by unfold OneFew; infer_instance
end Go.OneM
