import Derived.Test.YtdkhfjcbhpfkoaaM10
import Derived.Test.YtdkhfjcbhpfkoaaM14
import Derived.Test.YtdkhfjcbhpfkoaaM16
/- The plain mathematics of chapter 26: what the program's functions say. No program in sight. -/
namespace Go.RtM
open Go.RiseM Go.ReachM Go.Api

/-- The n-th, if there is one. -/
def gt {α : Type} (l : List α) (n : Int) : Option α := if 0 ≤ n then l[n.toNat]? else none
theorem gt_nat {α : Type} (l : List α) (n : Nat) : gt l (n : Int) = l[n]? := by unfold gt; rw [if_pos (by omega), Int.toNat_natCast]
theorem gt_out {α : Type} {l : List α} {n : Int} (h : n < 0 ∨ (l.length : Int) ≤ n) : gt l n = none := by
  unfold gt
  split
  · exact List.getElem?_eq_none (by omega)
  · rfl
theorem gt_some {α : Type} {l : List α} {n : Int} {x : α} (h : gt l n = some x) : ∃ k : Nat, n = k ∧ k < l.length ∧ l[k]? = some x := by
  unfold gt at h
  split at h
  · exact ⟨n.toNat, by omega, (List.getElem?_eq_some_iff.1 h).1, h⟩
  · cases h
theorem gt_mem {α : Type} {l : List α} {n : Int} {x : α} (h : gt l n = some x) : x ∈ l := by
  obtain ⟨k, _, _, h⟩ := gt_some h; exact List.mem_of_getElem? h
theorem gt_in {α : Type} {l : List α} {n : Int} (h : 0 ≤ n ∧ n < l.length) : ∃ x, gt l n = some x ∧ ∃ k : Nat, n = k ∧ k < l.length ∧ l[k]? = some x := by
  refine ⟨l[n.toNat]'(by omega), ?_, n.toNat, by omega, by omega, List.getElem?_eq_getElem (by omega)⟩
  unfold gt; rw [if_pos h.1, List.getElem?_eq_getElem (by omega)]

def flds (t : RTg) : List (List Int) := t.classes.map (·.refs)
theorem flds_len (t : RTg) : (flds t).length = t.classes.length := by simp [flds]
noncomputable def glob (t : RTg) : List Int := fromL (flds t) t.globals
/-- How many of a unit's variables are its parameters. -/
def pars (x : Unt) : Nat := (min (max x.params 0) (x.vars.length : Int)).toNat
def roots (x : Unt) : List Int := x.vars.take (pars x) ++ [x.result]
noncomputable def outOf (t : RTg) (x : Unt) : List Int := (fromL (flds t) (roots x)).filter fun c => decide (c ∉ glob t)
noncomputable def out (t : RTg) (u : Int) : List Int := match gt t.units u with | some x => outOf t x | none => []

abbrev IsClass (t : RTg) (n : Int) : Prop := 0 ≤ n ∧ n < (t.classes.length : Int)
abbrev IsEntry (t : RTg) (n : Int) : Prop := IsClass t n ∨ n = -1 ∨ n = -2
abbrev Entries (t : RTg) (l : List Int) : Prop := ∀ n ∈ l, IsEntry t n
abbrev IsRef (e : Int) : Prop := -1 ≤ e
def Into (a b : Int) : Prop := if -1 ≤ a then -1 ≤ b ∧ (b = a ∨ b = -1) else a = -2 ∧ b = -2
instance (a b : Int) : Decidable (Into a b) := by unfold Into; infer_instance
/-- A variable's entry. -/
def of (u : Unt) (n : Int) : Int := (gt u.vars n).getD (-3)
abbrev Plain (u : Unt) (l : List Int) : Prop := ∀ n ∈ l, of u n = -2
abbrev Refs (u : Unt) (l : List Int) : Prop := ∀ n ∈ l, IsRef (of u n)
abbrev Place (u : Unt) (n : Int) : Prop := 0 ≤ n ∧ n < (u.ins.length : Int)
/-- A cell of a variable's thing: its entry; the thing is none; there is such a cell. -/
def cell (t : RTg) (u : Unt) (n : Int) (arr : Bool) (c : Int) : Int × Bool × Bool :=
  if of u n = -1 then (0, true, decide (0 ≤ c ∧ c < 8))
  else match gt t.classes (of u n) with
    | some L => if L.arr = arr then (match gt L.refs c with | some x => (x, false, true) | none => (0, false, false)) else (0, false, false)
    | none => (0, false, false)
theorem cell_null {t : RTg} {u : Unt} {n : Int} {arr : Bool} {c : Int} (h : of u n = -1) : cell t u n arr c = (0, true, decide (0 ≤ c ∧ c < 8)) := by unfold cell; rw [if_pos h]
theorem cell_none {t : RTg} {u : Unt} {n : Int} {arr : Bool} {c : Int} (h : of u n ≠ -1) (h2 : gt t.classes (of u n) = none) : cell t u n arr c = (0, false, false) := by unfold cell; rw [if_neg h, h2]
theorem cell_arr {t : RTg} {u : Unt} {n : Int} {arr : Bool} {c : Int} {L : Layout} (h : of u n ≠ -1) (h2 : gt t.classes (of u n) = some L) (h3 : L.arr ≠ arr) : cell t u n arr c = (0, false, false) := by unfold cell; rw [if_neg h, h2]; simp only [if_neg h3]
theorem cell_out {t : RTg} {u : Unt} {n : Int} {arr : Bool} {c : Int} {L : Layout} (h : of u n ≠ -1) (h2 : gt t.classes (of u n) = some L) (h3 : L.arr = arr) (h4 : gt L.refs c = none) : cell t u n arr c = (0, false, false) := by unfold cell; rw [if_neg h, h2]; simp only [if_pos h3, h4]
theorem cell_some {t : RTg} {u : Unt} {n : Int} {arr : Bool} {c : Int} {L : Layout} {x : Int} (h : of u n ≠ -1) (h2 : gt t.classes (of u n) = some L) (h3 : L.arr = arr) (h4 : gt L.refs c = some x) : cell t u n arr c = (x, false, true) := by unfold cell; rw [if_neg h, h2]; simp only [if_pos h3, h4]
def Loads (t : RTg) (u : Unt) (a from_ : Int) (arr : Bool) (c : Int) : Prop :=
  (cell t u from_ arr c).2.2 = true ∧ (if (cell t u from_ arr c).2.1 = true then of u a ≠ -3 else Into (of u a) (cell t u from_ arr c).1)
instance (t : RTg) (u : Unt) (a f : Int) (arr : Bool) (c : Int) : Decidable (Loads t u a f arr c) := by unfold Loads; infer_instance
def Lays (t : RTg) (u : Unt) (to : Int) (arr : Bool) (c b : Int) : Prop :=
  (cell t u to arr c).2.2 = true ∧ (if (cell t u to arr c).2.1 = true then of u b ≠ -3 else Into (cell t u to arr c).1 (of u b))
instance (t : RTg) (u : Unt) (to : Int) (arr : Bool) (c b : Int) : Decidable (Lays t u to arr c b) := by unfold Lays; infer_instance
def Only (i : Ins) (a b c n args : Bool) : Prop := (a = true ∨ i.a = 0) ∧ (b = true ∨ i.b = 0) ∧ (c = true ∨ i.c = 0) ∧ (n = true ∨ i.n = 0) ∧ (args = true ∨ i.args = [])
instance (i : Ins) (a b c n args : Bool) : Decidable (Only i a b c n args) := by unfold Only; infer_instance
/-- What an operation names: of a, b, c, n and args; none: there is no such operation. -/
def names (op : Int) : Option (Bool × Bool × Bool × Bool × Bool) :=
  if op = 1 ∨ op = 11 ∨ op = 19 ∨ op = 20 then some (true, false, false, true, false)
  else if op = 2 ∨ op = 14 ∨ op = 15 ∨ op = 18 then some (true, false, false, false, false)
  else if op = 3 ∨ op = 10 then some (true, true, false, false, false)
  else if op = 5 ∨ op = 12 then some (true, true, false, true, false)
  else if op = 6 ∨ op = 7 ∨ op = 8 ∨ op = 9 then some (true, true, true, false, false)
  else if op = 4 then some (true, true, true, true, false)
  else if op = 13 then some (true, false, true, false, true)
  else if op = 16 then some (false, false, false, true, false)
  else if op = 17 then some (true, false, true, true, false)
  else if op = 21 ∨ op = 22 then some (false, false, false, false, true)
  else none
def Bare (i : Ins) : Prop := match names i.op with | some (a, b, c, n, g) => Only i a b c n g | none => False
instance (i : Ins) : Decidable (Bare i) := by unfold Bare; split <;> infer_instance
def Two (u : Unt) (i : Ins) : Prop := (14 ≤ i.n ∧ i.n ≤ 24) ∧ of u i.a = -2 ∧ ((of u i.b = -2 ∧ of u i.c = -2) ∨ (i.n = 21 ∨ i.n = 22) ∧ IsRef (of u i.b) ∧ IsRef (of u i.c))
instance (u : Unt) (i : Ins) : Decidable (Two u i) := by unfold Two; infer_instance
def CallOk (t : RTg) (u : Unt) (i : Ins) : Prop := match gt t.units i.c with
  | some g => ((i.args.length : Int) = g.params ∧ g.params ≤ (g.vars.length : Int) ∧ (∀ p ∈ i.args.zip g.vars, Into p.2 (of u p.1))) ∧ (i.a = -1 ∨ Into (of u i.a) g.result)
  | none => False
instance (t : RTg) (u : Unt) (i : Ins) : Decidable (CallOk t u i) := by unfold CallOk; split <;> infer_instance
def Fresh (t : RTg) (u : Unt) (i : Ins) (arr : Bool) : Prop := match gt t.classes i.n with | some L => L.arr = arr ∧ of u i.a = i.n | none => False
instance (t : RTg) (u : Unt) (i : Ins) (arr : Bool) : Decidable (Fresh t u i arr) := by unfold Fresh; split <;> infer_instance
/-- Rising, and each among others. -/
abbrev Steps (l of_ : List Int) : Prop := Rise l ∧ ∀ n ∈ l, n ∈ of_
def InG (t : RTg) (n : Int) (P : Int → Prop) : Prop := match gt t.globals n with | some g => P g | none => False
instance (t : RTg) (n : Int) (P : Int → Prop) [∀ g, Decidable (P g)] : Decidable (InG t n P) := by unfold InG; split <;> infer_instance
def Goes (t : RTg) (u : Unt) (i : Ins) : Prop :=
  if i.op = 13 then CallOk t u i
  else if i.op = 16 then Place u i.n
  else if i.op = 17 then of u i.a = -2 ∧ Place u i.n ∧ Place u i.c
  else if i.op = 18 then (u.result = -3 ∧ i.a = -1 ∨ u.result ≠ -3 ∧ Into u.result (of u i.a))
  else if i.op = 19 then InG t i.n (fun g => Into (of u i.a) g)
  else if i.op = 20 then InG t i.n (fun g => Into g (of u i.a))
  else i.args ≠ [] ∧ Rise i.args ∧ ∀ n ∈ i.args, n ∈ u.owns
instance (t : RTg) (u : Unt) (i : Ins) : Decidable (Goes t u i) := by unfold Goes; infer_instance
def Fits (t : RTg) (u : Unt) (i : Ins) : Prop :=
  if i.op = 1 ∨ i.op = 14 ∨ i.op = 15 then of u i.a = -2
  else if i.op = 2 then IsRef (of u i.a)
  else if i.op = 3 then Into (of u i.a) (of u i.b)
  else if i.op = 4 then Two u i
  else if i.op = 5 then (i.n = 12 ∨ i.n = 13) ∧ of u i.a = -2 ∧ of u i.b = -2
  else if i.op = 6 then Loads t u i.a i.b false i.c
  else if i.op = 7 then Lays t u i.a false i.c i.b
  else if i.op = 8 then of u i.c = -2 ∧ Loads t u i.a i.b true 0
  else if i.op = 9 then of u i.b = -2 ∧ Lays t u i.a true 0 i.c
  else if i.op = 10 then (cell t u i.b true 0).2.2 = true ∧ of u i.a = -2
  else if i.op = 11 then Fresh t u i false
  else if i.op = 12 then Fresh t u i true ∧ of u i.b = -2
  else Goes t u i
instance (t : RTg) (u : Unt) (i : Ins) : Decidable (Fits t u i) := by unfold Fits; infer_instance

/-- Not too great. -/
structure Small (t : RTg) : Prop where
  classes : t.classes.length ≤ 1073741824
  refs : ((flds t).map List.length).sum ≤ 1073741824
  globals : t.globals.length ≤ 1073741824
  units : t.units.length ≤ 1073741824
  unit : ∀ u ∈ t.units, u.vars.length ≤ 536870912 ∧ u.ins.length ≤ 1073741824
theorem le_sum {l : List Nat} {x : Nat} (h : x ∈ l) : x ≤ l.sum := by
  induction l with
  | nil => simp at h
  | cons y l ih =>
    rw [List.sum_cons]
    rcases List.mem_cons.1 h with rfl | h
    · omega
    · have := ih h; omega
theorem Small.ref {t : RTg} (h : Small t) {L : Layout} (hL : L ∈ t.classes) : L.refs.length ≤ 1073741824 :=
  Nat.le_trans (le_sum (List.mem_map.2 ⟨L.refs, List.mem_map.2 ⟨L, hL, rfl⟩, rfl⟩)) h.refs
theorem out_some {t : RTg} {k : Nat} {u : Unt} (h : t.units[k]? = some u) : out t k = outOf t u := by unfold out; rw [gt_nat, h]
theorem out_none {t : RTg} {k : Int} (h : k < 0 ∨ (t.units.length : Int) ≤ k) : out t k = [] := by unfold out; rw [gt_out h]
theorem pars_le (u : Unt) : pars u ≤ u.vars.length := by unfold pars; omega
theorem roots_len (u : Unt) : (roots u).length ≤ u.vars.length + 1 := by unfold roots; rw [List.length_append, List.length_take, List.length_singleton]; omega

def LayoutOk (t : RTg) (L : Layout) : Prop := L.refs.length ≤ 8 ∧ (L.arr = true → L.refs.length = 1) ∧ Entries t L.refs
instance (t : RTg) (L : Layout) : Decidable (LayoutOk t L) := by unfold LayoutOk; infer_instance
/-- The operation of a unit's last instruction. -/
def lastOp (u : Unt) : Int := match u.ins[u.ins.length - 1]? with | some i => i.op | none => 0
def UnitHd (t : RTg) (u : Unt) : Prop :=
  (0 ≤ u.params ∧ u.params ≤ 6 ∧ u.params ≤ (u.vars.length : Int) ∧ u.vars.length ≤ 4000) ∧ Entries t u.vars ∧ (u.result = -3 ∨ IsEntry t u.result) ∧ u.ins ≠ [] ∧
  (Rise u.takes ∧ ∀ c ∈ u.takes, c ∈ outOf t u) ∧ (Rise u.owns ∧ ∀ c ∈ u.owns, IsClass t c ∧ c ∉ outOf t u ∧ c ∉ glob t) ∧ (lastOp u = 16 ∨ lastOp u = 17 ∨ lastOp u = 18)
noncomputable instance (t : RTg) (u : Unt) : Decidable (UnitHd t u) := by unfold UnitHd; infer_instance
abbrev InsOk (t : RTg) (u : Unt) : Prop := ∀ i ∈ u.ins, Bare i ∧ Fits t u i
def UnitOk (t : RTg) (u : Unt) : Prop := UnitHd t u ∧ InsOk t u
noncomputable instance (t : RTg) (u : Unt) : Decidable (UnitOk t u) := by unfold UnitOk; infer_instance
def insOf (l : List Unt) : Nat := (l.map fun u => u.ins.length).sum
def MainOk (t : RTg) : Prop := match gt t.units t.main with | some u => u.params = 0 ∧ u.result = -3 | none => False
instance (t : RTg) : Decidable (MainOk t) := by unfold MainOk; split <;> infer_instance
abbrev UnitsOk (t : RTg) : Prop := insOf t.units ≤ 16000 ∧ ∀ u ∈ t.units, UnitOk t u
def RightP (t : RTg) : Prop := (t.classes.length ≤ 60 ∧ t.globals.length ≤ 8 ∧ t.units.length ≠ 0 ∧ t.units.length ≤ 16) ∧ MainOk t ∧ (∀ L ∈ t.classes, LayoutOk t L) ∧ Entries t t.globals ∧ UnitsOk t
noncomputable instance (t : RTg) : Decidable (RightP t) := by unfold RightP; infer_instance
theorem insOf_snoc (l : List Unt) (u : Unt) : insOf (l ++ [u]) = insOf l + u.ins.length := by simp [insOf]
theorem insOf_take (l : List Unt) (i : Nat) : insOf (l.take i) ≤ insOf l := by
  have := List.take_append_drop i l
  conv => rhs; rw [← this]
  unfold insOf; rw [List.map_append, List.sum_append]; omega
end Go.RtM

/- The walks over the small functions of package rt. -/
namespace Go.Proofs.Ytdkhfjcbhpfkoaa
open Go Go.RR Go.RX Go.GX Go.Api Go.RiseM Go.ReachM Go.RtM
attribute [local irreducible] wpList Code.wp wpPlan Exit.then Exit.inBlock bodyPost NoPanic Went GX.Post GX.Again GX.Meet GX.RowR GX.Own GX.Owns GX.Box GX.Sl GX.Pt GX.Ag GX.MapR GX.Kept GX.Pin wpT GoK AtEnd Both

theorem vY {P : Prop} [Decidable P] (h : P) : Value.bool (decide P) = .bool true := by rw [decide_eq_true h]
theorem vN {P : Prop} [Decidable P] (h : ¬ P) : Value.bool (decide P) = .bool false := by rw [decide_eq_false h]
theorem vI {P Q : Prop} [Decidable P] [Decidable Q] (h : P ↔ Q) : Value.bool (decide P) = .bool (decide Q) := by rw [decide_eq_decide.2 h]
theorem any_dec {P : Int → Prop} [DecidablePred P] (l : List Int) : (l.any fun x => decide (¬ P x)) = decide (¬ ∀ n ∈ l, P n) := by
  rw [Bool.eq_iff_iff, List.any_eq_true, decide_eq_true_eq]
  simp only [decide_eq_true_eq, Classical.not_forall, exists_prop]

theorem isClass_spec (cs : List Value) (t : RTg) (n : Int) : Does Try.prog 67 [.agg cs.toArray, .int .i64 n] [Ag tyRTg cs t] [] (fun _ : Unit => .bool (decide (IsClass t n))) (fun _ => []) (fun _ => []) := by
  refine enter Try.func67 rfl Try.ntmps67 rfl fun b => ?_
  by_cases h : 0 ≤ n
  · refine GX.wR ?_; intros
    exact rt1 () (vI ⟨fun h => h.2, fun h2 => ⟨h, h2⟩⟩)
  · refine GX.wR ?_; intros
    exact rt1 () (vN fun h2 => h h2.1)
theorem isEntry_spec (cs : List Value) (t : RTg) (n : Int) : Does Try.prog 59 [.agg cs.toArray, .int .i64 n] [Ag tyRTg cs t] [] (fun _ : Unit => .bool (decide (IsEntry t n))) (fun _ => []) (fun _ => []) := by
  refine enter Try.func59 rfl Try.ntmps59 rfl fun b => ?_
  refine GX.wR ?_; intros
  refine GX.o (cl (isClass_spec _ t n) fun _ => ?_)
  by_cases h : IsClass t n
  · refine GX.wR ?_; intros
    exact rt1 () (vY (.inl h))
  · by_cases h2 : n = -1
    · refine GX.wR ?_; intros
      exact rt1 () (vY (.inr (.inl h2)))
    · refine GX.wR ?_; intros
      exact rt1 () (vI ⟨fun h3 => h3.elim (fun h3 => absurd h3 h) fun h3 => h3.elim (fun h3 => absurd h3 h2) id, fun h3 => .inr (.inr h3)⟩)
theorem entries1_spec (bl : Nat) (t : RTg) (n : Int) : Does Try.prog 58 [.int .i64 n, .pointer (some ⟨bl, 0, none⟩)] [Pt tyRTg bl 0 t] [] (fun _ : Unit => .bool (decide (¬ IsEntry t n))) (fun _ => []) (fun _ => []) := by
  refine enter Try.func58 rfl Try.ntmps58 rfl fun b => ?_
  refine GX.wR ?_; intros
  refine GX.o (cl (isEntry_spec _ t n) fun _ => ?_)
  refine GX.wR ?_; intros
  exact rt1 () rfl
theorem entries_spec (cs : List Value) (t : RTg) (ao : Option Addr) (cap : Nat) (l : List Int) : Does Try.prog 38 [.agg cs.toArray, .slice ao l.length cap] [Sl Ty.int ao cap l, Ag tyRTg cs t] [] (fun _ : Unit => .bool (decide (Entries t l))) (fun _ => []) (fun _ => []) := by
  refine enter Try.func38 rfl Try.ntmps38 rfl fun b => ?_
  refine GX.wR ?_; intros
  refine GX.nmP 2 ?_; rintro b2 rfl
  refine GX.o (cl (containsFunc_spec ao cap l 58 [.pointer (some ⟨b2, 0, none⟩)] [Pt tyRTg b2 0 t] [] (fun n => decide (¬ IsEntry t n)) (fun n _ => entries1_spec b2 t n)) fun _ => ?_)
  rw [any_dec]
  refine GX.wR ?_; intros
  exact rt1 () (vI Classical.not_not.symm)
theorem isRef_spec (e : Int) : Does Try.prog 98 [.int .i64 e] [] [] (fun _ : Unit => .bool (decide (IsRef e))) (fun _ => []) (fun _ => []) := by
  refine enter Try.func98 rfl Try.ntmps98 rfl fun b => ?_
  refine GX.wR ?_; intros
  exact rt1 () rfl
theorem into_spec (a c : Int) : Does Try.prog 87 [.int .i64 a, .int .i64 c] [] [] (fun _ : Unit => .bool (decide (Into a c))) (fun _ => []) (fun _ => []) := by
  refine enter Try.func87 rfl Try.ntmps87 rfl fun b => ?_
  refine GX.wR ?_; intros
  refine GX.o (cl (isRef_spec a) fun _ => ?_)
  have e : Into a c ↔ if -1 ≤ a then -1 ≤ c ∧ (c = a ∨ c = -1) else a = -2 ∧ c = -2 := Iff.rfl
  by_cases h : IsRef a
  · rw [if_pos h] at e
    refine GX.wR ?_; intros
    refine GX.o (cl (isRef_spec c) fun _ => ?_)
    by_cases h2 : IsRef c
    · by_cases h3 : c = a
      · refine GX.wR ?_; intros
        exact rt1 () (vY (e.2 ⟨h2, .inl h3⟩))
      · refine GX.wR ?_; intros
        exact rt1 () (vI (e.trans ⟨fun h4 => h4.2.elim (fun h5 => absurd h5 h3) id, fun h4 => ⟨h2, .inr h4⟩⟩))
    · refine GX.wR ?_; intros
      exact rt1 () (vN fun h4 => h2 (e.1 h4).1)
  · rw [if_neg h] at e
    by_cases h2 : a = -2
    · refine GX.wR ?_; intros
      exact rt1 () (vI (e.trans ⟨fun h3 => h3.2, fun h3 => ⟨h2, h3⟩⟩))
    · refine GX.wR ?_; intros
      exact rt1 () (vN fun h4 => h2 (e.1 h4).1)
theorem of_spec (cs : List Value) (v : RtView) (n : Int) : Does Try.prog 88 [.agg cs.toArray, .int .i64 n] [Ag tyRtView cs v] [] (fun _ : Unit => .int .i64 (RtM.of v.u n)) (fun _ => []) (fun _ => []) := by
  refine enter Try.func88 rfl Try.ntmps88 rfl fun b => ?_
  by_cases h : n < 0
  · have e : RtM.of v.u n = -3 := by unfold RtM.of; rw [gt_out (.inl h)]; rfl
    rw [e]
    refine GX.wR ?_; intros
    exact rt1 () rfl
  · by_cases h2 : (v.u.vars.length : Int) ≤ n
    · have e : RtM.of v.u n = -3 := by unfold RtM.of; rw [gt_out (.inr h2)]; rfl
      rw [e]
      refine GX.wR ?_; intros
      exact rt1 () rfl
    · obtain ⟨x, hx, k, rfl, hk, hx2⟩ := gt_in (l := v.u.vars) (n := n) ⟨by omega, by omega⟩
      have e : RtM.of v.u k = x := by unfold RtM.of; rw [hx]; rfl
      rw [e]
      refine GX.wR ?_; intros
      exact rt1 () rfl
theorem plain1_spec (bl : Nat) (v : RtView) (n : Int) : Does Try.prog 96 [.int .i64 n, .pointer (some ⟨bl, 0, none⟩)] [Pt tyRtView bl 0 v] [] (fun _ : Unit => .bool (decide (¬ RtM.of v.u n = -2))) (fun _ => []) (fun _ => []) := by
  refine enter Try.func96 rfl Try.ntmps96 rfl fun b => ?_
  refine GX.wR ?_; intros
  refine GX.o (cl (of_spec _ v n) fun _ => ?_)
  refine GX.wR ?_; intros
  exact rt1 () rfl
theorem refs1_spec (bl : Nat) (v : RtView) (n : Int) : Does Try.prog 97 [.int .i64 n, .pointer (some ⟨bl, 0, none⟩)] [Pt tyRtView bl 0 v] [] (fun _ : Unit => .bool (decide (¬ IsRef (RtM.of v.u n)))) (fun _ => []) (fun _ => []) := by
  refine enter Try.func97 rfl Try.ntmps97 rfl fun b => ?_
  refine GX.wR ?_; intros
  refine GX.o (cl (of_spec _ v n) fun _ => ?_)
  refine GX.wR ?_; intros
  refine GX.o (cl (isRef_spec _) fun _ => ?_)
  refine GX.wR ?_; intros
  exact rt1 () rfl
theorem plain_spec (cs : List Value) (v : RtView) (ao : Option Addr) (cap m : Nat) (l : List Int) (hm : m = l.length) : Does Try.prog 85 [.agg cs.toArray, .slice ao m cap] [Sl Ty.int ao cap l, Ag tyRtView cs v] [] (fun _ : Unit => .bool (decide (Plain v.u l))) (fun _ => []) (fun _ => []) := by
  subst hm
  refine enter Try.func85 rfl Try.ntmps85 rfl fun b => ?_
  refine GX.wR ?_; intros
  refine GX.nmP 2 ?_; rintro b2 rfl
  refine GX.o (cl (containsFunc_spec ao cap l 96 [.pointer (some ⟨b2, 0, none⟩)] [Pt tyRtView b2 0 v] [] (fun n => decide (¬ RtM.of v.u n = -2)) (fun n _ => plain1_spec b2 v n)) fun _ => ?_)
  rw [any_dec]
  refine GX.wR ?_; intros
  exact rt1 () (vI Classical.not_not.symm)
theorem refs_spec (cs : List Value) (v : RtView) (ao : Option Addr) (cap m : Nat) (l : List Int) (hm : m = l.length) : Does Try.prog 86 [.agg cs.toArray, .slice ao m cap] [Sl Ty.int ao cap l, Ag tyRtView cs v] [] (fun _ : Unit => .bool (decide (Refs v.u l))) (fun _ => []) (fun _ => []) := by
  subst hm
  refine enter Try.func86 rfl Try.ntmps86 rfl fun b => ?_
  refine GX.wR ?_; intros
  refine GX.nmP 2 ?_; rintro b2 rfl
  refine GX.o (cl (containsFunc_spec ao cap l 97 [.pointer (some ⟨b2, 0, none⟩)] [Pt tyRtView b2 0 v] [] (fun n => decide (¬ IsRef (RtM.of v.u n))) (fun n _ => refs1_spec b2 v n)) fun _ => ?_)
  rw [any_dec]
  refine GX.wR ?_; intros
  exact rt1 () (vI Classical.not_not.symm)
theorem place_spec (cs : List Value) (v : RtView) (n : Int) : Does Try.prog 101 [.agg cs.toArray, .int .i64 n] [Ag tyRtView cs v] [] (fun _ : Unit => .bool (decide (RtM.Place v.u n))) (fun _ => []) (fun _ => []) := by
  refine enter Try.func101 rfl Try.ntmps101 rfl fun b => ?_
  by_cases h : 0 ≤ n
  · refine GX.wR ?_; intros
    exact rt1 () (vI ⟨fun h => h.2, fun h2 => ⟨h, h2⟩⟩)
  · refine GX.wR ?_; intros
    exact rt1 () (vN fun h2 => h h2.1)
end Go.Proofs.Ytdkhfjcbhpfkoaa

/- The walks over package rt: rising, cell, loads, lays, only, bare, two, length, fresh. -/
namespace Go.Proofs.Ytdkhfjcbhpfkoaa
open Go Go.RR Go.RX Go.GX Go.Api Go.RiseM Go.ReachM Go.RtM
attribute [local irreducible] wpList Code.wp wpPlan Exit.then Exit.inBlock bodyPost NoPanic Went GX.Post GX.Again GX.Meet GX.RowR GX.Own GX.Owns GX.Box GX.Sl GX.Pt GX.Ag GX.MapR GX.Kept GX.Pin wpT GoK AtEnd Both

/-- Rising, and each is such. -/
abbrev UpP (p : Int → Bool) (l : List Int) : Prop := Rise l ∧ ∀ n ∈ l, p n = true
theorem upP_snoc {p : Int → Bool} {l : List Int} {i : Nat} {x : Int} (hx : l[i]? = some x) : UpP p (l.take (i + 1)) ↔ UpP p (l.take i) ∧ (∀ k y, i = k + 1 → l[k]? = some y → y < x) ∧ p x = true := by
  have e : l.take (i + 1) = l.take i ++ [x] := by rw [List.take_add_one, hx]; rfl
  rw [e]
  unfold UpP Rise
  rw [List.pairwise_append]
  constructor
  · rintro ⟨⟨h1, _, h2⟩, h3⟩
    refine ⟨⟨h1, fun n hn => h3 n (by simp [hn])⟩, fun k y hk hy => h2 y ?_ x (by simp), h3 x (by simp)⟩
    exact List.mem_take_iff_getElem.2 ⟨k, by have := (List.getElem?_eq_some_iff.1 hy).1; omega, (List.getElem?_eq_some_iff.1 hy).2⟩
  · rintro ⟨⟨h1, h2⟩, h3, h4⟩
    refine ⟨⟨h1, by simp, fun a ha c hc => ?_⟩, fun n hn => ?_⟩
    · obtain rfl : c = x := by simpa using hc
      obtain ⟨j, hj, rfl⟩ := List.mem_take_iff_getElem.1 ha
      cases i with
      | zero => omega
      | succ k =>
        have hkl : k < l.length := by have := (List.getElem?_eq_some_iff.1 hx).1; omega
        have h5 := h3 k l[k] rfl (List.getElem?_eq_getElem hkl)
        by_cases e : j = k
        · subst e; exact h5
        · have h6 := List.pairwise_iff_getElem.1 h1 j k (by rw [List.length_take]; omega) (by rw [List.length_take]; omega) (by omega)
          rw [List.getElem_take, List.getElem_take] at h6
          omega
    · rw [List.mem_append, List.mem_singleton] at hn
      rcases hn with hn | hn
      · exact h2 n hn
      · subst hn; exact h4
theorem upP_take {p : Int → Bool} {l : List Int} (i : Nat) (h : UpP p l) : UpP p (l.take i) := ⟨h.1.sublist (List.take_sublist _ _), fun n hn => h.2 n (List.mem_of_mem_take hn)⟩

theorem last2 {l : List Int} {k k2 : Nat} {y z x : Int} (e : k = k2) (hy : l[k]? = some y) (hz : l[k2]? = some z) (h : y < x) : z < x := by subst e; rw [hy] at hz; cases hz; exact h
theorem rising_spec (ao : Option Addr) (cap : Nat) (l : List Int) (fid : Nat) (caps : List Value) (psC : List Pf) (hpC : List Res) (p : Int → Bool) [UFunc Try.prog fid]
    (hf : ∀ x ∈ l, Does Try.prog fid (.int .i64 x :: caps) psC hpC (fun _ : Unit => .bool (p x)) (fun _ => []) (fun _ => hpC)) :
    Does Try.prog 70 [.slice ao l.length cap, .func (.func fid) #[] caps.toArray] (Sl Ty.int ao cap l :: psC) hpC (fun _ : Unit => .bool (decide (UpP p l))) (fun _ => []) (fun _ => hpC) := by
  refine enter Try.func70 rfl Try.ntmps70 rfl fun b => ?_
  refine sln ao fun hl1 hl2 _ => ?_
  refine GX.wR ?_; intros
  refine GX.loop (σ := Nat) (fun i => [(0, .slice ao l.length cap), (1, .func (.func fid) #[] caps.toArray), (7, .slice ao l.length cap), (8, .int .i64 (l.length : Int)), (9, .int .i64 (i : Int))]) (fun _ => []) (fun _ => hpC)
    (fun i => i ≤ l.length ∧ UpP p (l.take i)) (fun i => l.length - i) 0 ⟨rfl, rfl, rfl, rfl, rfl, trivial⟩ ⟨by omega, by simp [UpP, Rise]⟩ (fun i hi => ?_) (h2 := SelR.all _)
  obtain ⟨hi, hU⟩ := hi
  by_cases hlt : i < l.length
  · obtain ⟨x, hx⟩ := get_lt hlt
    have hs := upP_snoc (p := p) hx
    have no : ¬ UpP p (l.take (i + 1)) → ¬ UpP p l := fun h h2 => h (upP_take _ h2)
    by_cases h0 : i = 0
    · subst h0
      refine GX.wR ?_; intros
      refine GX.o (clvA (fs := []) (vs := [.int .i64 x]) (cs := caps) (hf x (List.mem_of_getElem? hx)) fun _ => ?_)
      cases hp : p x with
      | true =>
        refine GX.wR ?_; intros
        exact again 1 ⟨rfl, rfl, rfl, rfl, rfl, trivial⟩ ⟨by omega, hs.2 ⟨hU, fun k y hk => by omega, hp⟩⟩ (by omega) (h2 := SelR.all _)
      | false =>
        refine GX.wR ?_; intros
        exact rt1 () (vN (no fun h => by rw [(hs.1 h).2.2] at hp; cases hp)) (h2 := SelR.all _)
    · obtain ⟨k, rfl⟩ : ∃ k, i = k + 1 := ⟨i - 1, by omega⟩
      obtain ⟨y, hy⟩ := get_lt (show k < l.length by omega)
      by_cases hxy : x ≤ y
      · refine GX.wR ?_; intros
        exact rt1 () (vN (no fun h => by have := (hs.1 h).2.1 k y rfl hy; omega)) (h2 := SelR.all _)
      · refine GX.wR ?_; intros
        refine GX.o (clvA (fs := []) (vs := [.int .i64 x]) (cs := caps) (hf x (List.mem_of_getElem? hx)) fun _ => ?_)
        cases hp : p x with
        | true =>
          refine GX.wR ?_; intros
          exact again (k + 2) ⟨rfl, rfl, rfl, rfl, rfl, trivial⟩ ⟨by omega, hs.2 ⟨hU, fun k2 z hk hz => last2 (show k = k2 by omega) hy hz (by omega), hp⟩⟩ (by omega) (h2 := SelR.all _)
        | false =>
          refine GX.wR ?_; intros
          exact rt1 () (vN (no fun h => by rw [(hs.1 h).2.2] at hp; cases hp)) (h2 := SelR.all _)
  · have hil : i = l.length := by omega
    subst hil
    rw [List.take_length] at hU
    refine GX.wR ?_; intros
    exact rt1 () (vY hU) (h2 := SelR.all _)

theorem cell_spec (cs : List Value) (v : RtView) (n : Int) (arr : Bool) (c : Int) : Does Try.prog 99 [.agg cs.toArray, .int .i64 n, .bool arr, .int .i64 c] [Ag tyRtView cs v] []
    (fun _ : Unit => .tuple #[.int .i64 (cell v.t v.u n arr c).1, .bool (cell v.t v.u n arr c).2.1, .bool (cell v.t v.u n arr c).2.2]) (fun _ => []) (fun _ => []) := by
  refine enter Try.func99 rfl Try.ntmps99 rfl fun b => ?_
  refine GX.wR ?_; intros
  refine GX.o (cl (of_spec _ v n) fun _ => ?_)
  by_cases h1 : RtM.of v.u n = -1
  · rw [cell_null h1]
    by_cases h2 : 0 ≤ c
    · have e2 : decide (0 ≤ c ∧ c < 8) = decide (c < 8) := decide_eq_decide.2 ⟨fun h => h.2, fun h => ⟨h2, h⟩⟩
      rw [e2]
      refine GX.wR ?_; intros
      exact rt3 () rfl
    · have e2 : decide (0 ≤ c ∧ c < 8) = false := decide_eq_false fun h => h2 h.1
      rw [e2]
      refine GX.wR ?_; intros
      exact rt3 () rfl
  · by_cases h2 : IsClass v.t (RtM.of v.u n)
    · obtain ⟨L, hL, k, hk, hkl, hL2⟩ := gt_in h2
      by_cases h3 : L.arr = arr
      · have hb : (L.arr != arr) = false := by rw [h3]; simp
        by_cases h4 : c < 0
        · rw [cell_out h1 hL h3 (gt_out (.inl h4)), hk]
          rw [hk] at h1 h2
          have h2' := Classical.not_not.2 h2
          refine GX.wR ?_; intros
          refine GX.o (cl (isClass_spec _ v.t k) fun _ => ?_)
          refine GX.wR ?_; intros
          exact rt3 () rfl
        · by_cases h5 : (L.refs.length : Int) ≤ c
          · rw [cell_out h1 hL h3 (gt_out (.inr h5)), hk]
            rw [hk] at h1 h2
            have h2' := Classical.not_not.2 h2
            refine GX.wR ?_; intros
            refine GX.o (cl (isClass_spec _ v.t k) fun _ => ?_)
            refine GX.wR ?_; intros
            exact rt3 () rfl
          · obtain ⟨x, hx, j, rfl, hj, hxj⟩ := gt_in (l := L.refs) (n := c) ⟨by omega, by omega⟩
            rw [cell_some h1 hL h3 hx, hk]
            rw [hk] at h1 h2
            have h2' := Classical.not_not.2 h2
            refine GX.wR ?_; intros
            refine GX.o (cl (isClass_spec _ v.t k) fun _ => ?_)
            refine GX.wR ?_; intros
            exact rt3 () rfl
      · have hb : (L.arr != arr) = true := by simpa using h3
        rw [cell_arr h1 hL h3, hk]
        rw [hk] at h1 h2
        have h2' := Classical.not_not.2 h2
        refine GX.wR ?_; intros
        refine GX.o (cl (isClass_spec _ v.t k) fun _ => ?_)
        refine GX.wR ?_; intros
        exact rt3 () rfl
    · have e2 : gt v.t.classes (RtM.of v.u n) = none := gt_out (by unfold IsClass at h2; omega)
      rw [cell_none h1 e2]
      refine GX.wR ?_; intros
      refine GX.o (cl (isClass_spec _ v.t _) fun _ => ?_)
      refine GX.wR ?_; intros
      exact rt3 () rfl
end Go.Proofs.Ytdkhfjcbhpfkoaa

/- The walks over package rt: loads, lays, only, bare, two, length, fresh. -/
namespace Go.Proofs.Ytdkhfjcbhpfkoaa
open Go Go.RR Go.RX Go.GX Go.Api Go.RiseM Go.ReachM Go.RtM
attribute [local irreducible] wpList Code.wp wpPlan Exit.then Exit.inBlock bodyPost NoPanic Went GX.Post GX.Again GX.Meet GX.RowR GX.Own GX.Owns GX.Box GX.Sl GX.Pt GX.Ag GX.MapR GX.Kept GX.Pin wpT GoK AtEnd Both

theorem loads_spec (cs : List Value) (v : RtView) (a f : Int) (arr : Bool) (c : Int) : Does Try.prog 90 [.agg cs.toArray, .int .i64 a, .int .i64 f, .bool arr, .int .i64 c] [Ag tyRtView cs v] []
    (fun _ : Unit => .bool (decide (Loads v.t v.u a f arr c))) (fun _ => []) (fun _ => []) := by
  refine enter Try.func90 rfl Try.ntmps90 rfl fun b => ?_
  refine GX.wR ?_; intros
  refine GX.o (cl (cell_spec _ v f arr c) fun _ => ?_)
  have hL : Loads v.t v.u a f arr c ↔ (cell v.t v.u f arr c).2.2 = true ∧ (if (cell v.t v.u f arr c).2.1 = true then RtM.of v.u a ≠ -3 else Into (RtM.of v.u a) (cell v.t v.u f arr c).1) := Iff.rfl
  generalize cell v.t v.u f arr c = x at *
  obtain ⟨e, any, ok⟩ := x
  dsimp only at *
  cases ok with
  | false =>
    refine GX.wR ?_; intros
    exact rt1 () (vN fun h => by simp at hL; exact hL h)
  | true =>
    cases any with
    | true =>
      rw [if_pos rfl] at hL
      refine GX.wR ?_; intros
      refine GX.o (cl (of_spec _ v a) fun _ => ?_)
      by_cases h : RtM.of v.u a = -3
      · refine GX.wR ?_; intros
        exact rt1 () (vN fun h2 => (hL.1 h2).2 h)
      · refine GX.wR ?_; intros
        exact rt1 () (vY (hL.2 ⟨rfl, h⟩))
    | false =>
      rw [if_neg (by simp)] at hL
      refine GX.wR ?_; intros
      refine GX.o (cl (of_spec _ v a) fun _ => ?_)
      refine GX.wR ?_; intros
      refine GX.o (cl (into_spec _ e) fun _ => ?_)
      refine GX.wR ?_; intros
      exact rt1 () (vI (hL.trans ⟨fun h => h.2, fun h => ⟨rfl, h⟩⟩))
theorem lays_spec (cs : List Value) (v : RtView) (to : Int) (arr : Bool) (c d : Int) : Does Try.prog 91 [.agg cs.toArray, .int .i64 to, .bool arr, .int .i64 c, .int .i64 d] [Ag tyRtView cs v] []
    (fun _ : Unit => .bool (decide (Lays v.t v.u to arr c d))) (fun _ => []) (fun _ => []) := by
  refine enter Try.func91 rfl Try.ntmps91 rfl fun b => ?_
  refine GX.wR ?_; intros
  refine GX.o (cl (cell_spec _ v to arr c) fun _ => ?_)
  have hL : Lays v.t v.u to arr c d ↔ (cell v.t v.u to arr c).2.2 = true ∧ (if (cell v.t v.u to arr c).2.1 = true then RtM.of v.u d ≠ -3 else Into (cell v.t v.u to arr c).1 (RtM.of v.u d)) := Iff.rfl
  generalize cell v.t v.u to arr c = x at *
  obtain ⟨e, any, ok⟩ := x
  dsimp only at *
  cases ok with
  | false =>
    refine GX.wR ?_; intros
    exact rt1 () (vN fun h => by simp at hL; exact hL h)
  | true =>
    cases any with
    | true =>
      rw [if_pos rfl] at hL
      refine GX.wR ?_; intros
      refine GX.o (cl (of_spec _ v d) fun _ => ?_)
      by_cases h : RtM.of v.u d = -3
      · refine GX.wR ?_; intros
        exact rt1 () (vN fun h2 => (hL.1 h2).2 h)
      · refine GX.wR ?_; intros
        exact rt1 () (vY (hL.2 ⟨rfl, h⟩))
    | false =>
      rw [if_neg (by simp)] at hL
      refine GX.wR ?_; intros
      refine GX.o (cl (of_spec _ v d) fun _ => ?_)
      refine GX.wR ?_; intros
      refine GX.o (cl (into_spec e _) fun _ => ?_)
      refine GX.wR ?_; intros
      exact rt1 () (vI (hL.trans ⟨fun h => h.2, fun h => ⟨rfl, h⟩⟩))
theorem length_spec (cs : List Value) (v : RtView) : Does Try.prog 92 [.agg cs.toArray] [Ag tyRtView cs v] []
    (fun _ : Unit => .bool (decide ((cell v.t v.u v.i.b true 0).2.2 = true ∧ RtM.of v.u v.i.a = -2))) (fun _ => []) (fun _ => []) := by
  refine enter Try.func92 rfl Try.ntmps92 rfl fun b => ?_
  refine GX.wR ?_; intros
  refine GX.o (cl (cell_spec _ v v.i.b true 0) fun _ => ?_)
  generalize cell v.t v.u v.i.b true 0 = x at *
  obtain ⟨e, any, ok⟩ := x
  dsimp only at *
  cases ok with
  | false =>
    refine GX.wR ?_; intros
    exact rt1 () (vN fun h => by simp at h)
  | true =>
    refine GX.wR ?_; intros
    refine GX.o (cl (plain_spec _ v _ _ _ [v.i.a] rfl) fun _ => ?_)
    refine GX.wR ?_; intros
    have e2 : Plain v.u [v.i.a] ↔ RtM.of v.u v.i.a = -2 := by simp [Plain]
    exact rt1 () (vI ⟨fun h => e2.2 h.2, fun h => ⟨rfl, e2.1 h⟩⟩)
set_option maxHeartbeats 1000000 in
theorem fresh_spec (cs : List Value) (v : RtView) (arr : Bool) : Does Try.prog 93 [.agg cs.toArray, .bool arr] [Ag tyRtView cs v] []
    (fun _ : Unit => .bool (decide (Fresh v.t v.u v.i arr))) (fun _ => []) (fun _ => []) := by
  refine enter Try.func93 rfl Try.ntmps93 rfl fun b => ?_
  refine GX.wR ?_; intros
  refine GX.nmP 5 ?_; rintro b5 rfl
  refine frzB b5 ?_
  by_cases h : IsClass v.t v.i.n
  · obtain ⟨L, hL, k, hk, hkl, hL2⟩ := gt_in h
    have hF : Fresh v.t v.u v.i arr ↔ L.arr = arr ∧ RtM.of v.u v.i.a = v.i.n := by unfold Fresh; rw [hL]
    by_cases h3 : L.arr = arr
    · have hb : (L.arr == arr) = true := by rw [h3]; simp
      refine GX.drawn0  (fun j => !(List.contains [4] j)) [(0, true), (1, true), (2, true), (3, true), (4, false), (5, true), (6, true), (7, true), (8, true), (9, true), (10, true), (11, true), (12, true), (13, true), (14, true), (15, true), (16, true), (17, true), (18, true), (19, true), (20, true), (22, true), (23, true), (21, false), (24, true), (25, true), (26, true)] rfl (by kernel_rfl) (by kernel_rfl) (by first | ((repeat (first | apply Go.GX.SelR.nil | apply Go.GX.SelR.cons | (with_reducible apply Go.GX.TakeR.head) | apply Go.GX.TakeR.tail)); done) | (repeat (first | apply Go.GX.SelR.nil | apply Go.GX.SelR.cons | apply Go.GX.TakeR.head | apply Go.GX.TakeR.tail))) ?_; intro wd F hW hR
      refine GX.wT ?_; intros
      refine GX.gow ?_
      refine (cl (isClass_spec _ v.t v.i.n) fun _ => ?_)
      refine GX.wT ?_; intros
      refine GX.gow ?_
      refine (cl (of_spec _ v v.i.a) fun _ => ?_)
      refine GX.wT ?_; intros
      refine GX.wR ?_; intros
      exact rt1 () (vI (hF.trans ⟨fun h => h.2, fun h => ⟨h3, h⟩⟩))
    · have hb : (L.arr == arr) = false := by simpa using h3
      refine GX.drawn0  (fun j => !(List.contains [4] j)) [(0, true), (1, true), (2, true), (3, true), (4, false), (5, true), (6, true), (7, true), (8, true), (9, true), (10, true), (11, true), (12, true), (13, true), (14, true), (15, true), (16, true), (17, true), (18, true), (19, true), (20, true), (22, true), (23, true), (21, false), (24, true), (25, true), (26, true)] rfl (by kernel_rfl) (by kernel_rfl) (by first | ((repeat (first | apply Go.GX.SelR.nil | apply Go.GX.SelR.cons | (with_reducible apply Go.GX.TakeR.head) | apply Go.GX.TakeR.tail)); done) | (repeat (first | apply Go.GX.SelR.nil | apply Go.GX.SelR.cons | apply Go.GX.TakeR.head | apply Go.GX.TakeR.tail))) ?_; intro wd F hW hR
      refine GX.wT ?_; intros
      refine GX.gow ?_
      refine (cl (isClass_spec _ v.t v.i.n) fun _ => ?_)
      refine GX.wT ?_; intros
      refine GX.wR ?_; intros
      exact rt1 () (vN fun h4 => h3 (hF.1 h4).1)
  · have hF : ¬ Fresh v.t v.u v.i arr := by unfold Fresh; rw [gt_out (by unfold IsClass at h; omega)]; exact id
    refine GX.drawn0  (fun j => !(List.contains [4] j)) [(0, true), (1, true), (2, true), (3, true), (4, false), (5, true), (6, true), (7, true), (8, true), (9, true), (10, true), (11, true), (12, true), (13, true), (14, true), (15, true), (16, true), (17, true), (18, true), (19, true), (20, true), (22, true), (23, true), (21, false), (24, true), (25, true), (26, true)] rfl (by kernel_rfl) (by kernel_rfl) (by first | ((repeat (first | apply Go.GX.SelR.nil | apply Go.GX.SelR.cons | (with_reducible apply Go.GX.TakeR.head) | apply Go.GX.TakeR.tail)); done) | (repeat (first | apply Go.GX.SelR.nil | apply Go.GX.SelR.cons | apply Go.GX.TakeR.head | apply Go.GX.TakeR.tail))) ?_; intro wd F hW hR
    refine GX.wT ?_; intros
    refine GX.gow ?_
    refine (cl (isClass_spec _ v.t v.i.n) fun _ => ?_)
    refine GX.wT ?_; intros
    refine GX.wR ?_; intros
    exact rt1 () (vN hF)
set_option maxHeartbeats 1000000 in
theorem two_spec (cs : List Value) (v : RtView) : Does Try.prog 89 [.agg cs.toArray] [Ag tyRtView cs v] []
    (fun _ : Unit => .bool (decide (Two v.u v.i))) (fun _ => []) (fun _ => []) := by
  refine enter Try.func89 rfl Try.ntmps89 rfl fun b => ?_
  by_cases h1 : v.i.n < 14
  · refine GX.wR ?_; intros
    exact rt1 () (vN fun h => by have := h.1; omega)
  by_cases h2 : 24 < v.i.n
  · refine GX.wR ?_; intros
    exact rt1 () (vN fun h => by have := h.1; omega)
  refine GX.wR ?_; intros
  refine GX.o (cl (plain_spec _ v _ _ _ [v.i.a] rfl) fun _ => ?_)
  by_cases h3 : Plain v.u [v.i.a]
  · have h3' := Classical.not_not.2 h3
    have h4 : RtM.of v.u v.i.a = -2 := h3 _ (by simp)
    refine GX.wR ?_; intros
    refine GX.o (cl (plain_spec _ v _ _ _ [v.i.b, v.i.c] rfl) fun _ => ?_)
    have e5 : Plain v.u [v.i.b, v.i.c] ↔ RtM.of v.u v.i.b = -2 ∧ RtM.of v.u v.i.c = -2 := by simp [Plain]
    by_cases h5 : Plain v.u [v.i.b, v.i.c]
    · refine GX.wR ?_; intros
      exact rt1 () (vY ⟨by omega, h4, .inl (e5.1 h5)⟩)
    · have e6 : Refs v.u [v.i.b, v.i.c] ↔ IsRef (RtM.of v.u v.i.b) ∧ IsRef (RtM.of v.u v.i.c) := by simp [Refs]
      by_cases h6 : v.i.n = 21
      · refine GX.wR ?_; intros
        refine GX.o (cl (refs_spec _ v _ _ _ [v.i.b, v.i.c] rfl) fun _ => ?_)
        refine GX.wR ?_; intros
        exact rt1 () (vI ⟨fun h => h.2.2.elim (fun h7 => absurd (e5.2 h7) h5) (fun h7 => e6.2 h7.2), fun h => ⟨by omega, h4, .inr ⟨.inl h6, e6.1 h⟩⟩⟩)
      · by_cases h7 : v.i.n = 22
        · refine GX.wR ?_; intros
          refine GX.o (cl (refs_spec _ v _ _ _ [v.i.b, v.i.c] rfl) fun _ => ?_)
          refine GX.wR ?_; intros
          exact rt1 () (vI ⟨fun h => h.2.2.elim (fun h7 => absurd (e5.2 h7) h5) (fun h7 => e6.2 h7.2), fun h => ⟨by omega, h4, .inr ⟨.inr h7, e6.1 h⟩⟩⟩)
        · refine GX.wR ?_; intros
          exact rt1 () (vN fun h => h.2.2.elim (fun h8 => h5 (e5.2 h8)) (fun h8 => h8.1.elim h6 h7))
  · refine GX.wR ?_; intros
    exact rt1 () (vN fun h => h3 fun n hn => by rw [List.mem_singleton.1 hn]; exact h.2.1)
set_option maxHeartbeats 1000000 in
theorem only_spec (cs : List Value) (i : Ins) (a c d n g : Bool) : Does Try.prog 84 [.agg cs.toArray, .bool a, .bool c, .bool d, .bool n, .bool g] [Ag tyIns cs i] []
    (fun _ : Unit => .bool (decide (Only i a c d n g))) (fun _ => []) (fun _ => []) := by
  refine enter Try.func84 rfl Try.ntmps84 rfl fun b => ?_
  have eg : (i.args.length : Int) = 0 ↔ i.args = [] := by rw [← List.length_eq_zero_iff]; omega
  repeat' (first | (apply GX.s_list; first | apply GX.nil | (refine GX.o ?_; first | (apply GX.k_load; first | refine GX.lr ?_ | refine GX.lrA ?_ | refine GX.ln ?_ | refine GX.lb ?_ | refine GX.lh ?_ | (refine GX.ls ?_; intro ao cap _ _) | (refine GX.lA ?_; intro cs) | (refine GX.l0 ?_; intro cs) | refine GX.o1n ?_ | refine GX.o1b ?_ | refine GX.o1h ?_ | (refine GX.o1s ?_; intro ao cap _ _) | refine GX.omn ?_ | refine GX.omb ?_ | refine GX.omh ?_ | (refine GX.oms ?_; intro ao cap _ _) | refine GX.ofn ?_ | refine GX.ofb ?_ | refine GX.ofh ?_ | (refine GX.ofs ?_; intro ao cap _ _) | (refine GX.oA ?_; intro cs)) | (apply GX.k_move; refine GX.m ?_) | (apply GX.k_assign; refine GX.a ?_) | (apply GX.k_fieldAddr; first | refine GX.f0 ?_ | refine GX.fh ?_ | refine GX.fa ?_) | (apply GX.k_call; refine GX.c_len ?_) | (apply GX.k_pick; first | refine GX.pt ?_ | refine GX.pf ?_ | refine GX.pk ?_) | (apply GX.k_box; first | (refine GX.bxF ?_; intro _) | (refine GX.bxR ?_; intro _)) | (apply GX.k_binOp_eql; first | refine GX.b_eql ?_ | refine GX.b_pn ?_ | refine GX.b_nn ?_ | refine GX.b_snn ?_ | refine GX.b_sns ?_ | refine GX.b_eqls ?_ | refine GX.b_eqltf ?_ | refine GX.b_eqlft ?_ | refine GX.b_eqlb ?_)) | refine GX.gt ?_ | refine GX.gf ?_ | refine GX.gbt ?_ | refine GX.gbf ?_ | refine GX.un ?_ | refine GX.un0 ?_ | (refine GX.gs ?_ ?_ <;> intro _) | (refine GX.gsb ?_ ?_ <;> intro _)) | apply GX.then_normal | apply GX.seq | apply GX.region | (apply GX.s_cond; first | refine GX.ct ?_ | refine GX.cf ?_ | refine GX.cdf ?_ | refine GX.cdt ?_ | refine GX.cbt ?_ | refine GX.cbf ?_ | (refine GX.cs ?_ ?_ <;> intro _) | (refine GX.csb ?_ ?_ <;> intro _)) | apply GX.skip | apply GX.block | apply GX.inBlock_normal | apply GX.exit | apply GX.then_exit | apply GX.inBlock_exit | refine GX.ibo ?_ | apply GX.ret | apply GX.then_ret | apply GX.inBlock_ret)
  all_goals first
    | exact rt1 () (vI (Q := ((i.args.length : Int) = 0)) (by unfold Only; simp_all))
    | exact rt1 () (vY (by unfold Only; simp_all))
    | exact rt1 () (vN (by unfold Only; simp_all))
end Go.Proofs.Ytdkhfjcbhpfkoaa
