import Derived.Test.YtomadjefdghliaaGreatU9
import Derived.Test.YtomadjefdghliaaGreatU10
import Derived.Test.YtomadjefdghliaaGreatU11
import Derived.Laws.BytesArg
import Derived.Laws.Strings
namespace Go.Proofs.YtomadjefdghliaaGreat
open Go Go.RR Go.RX Go.GX Go.Api
attribute [local irreducible] wpList Code.wp wpPlan Exit.then Exit.inBlock bodyPost NoPanic Went GX.Post GX.Again GX.Meet GX.RowR GX.Own GX.Owns GX.Box GX.Sl GX.Pt GX.Ag GX.MapR GX.Kept GX.Pin wpT GoK AtEnd Both
def hasB (B : List Bool) (r : Int) : Bool := decide (1 ≤ r) && (B[(r - 1).toNat]?).getD false
theorem has_B (R : List Region) (r : Int) : has R r = hasB (R.map (·.live)) r := by
 unfold has hasB
 rw [List.getElem?_map]
 cases R[(r - 1).toNat]? <;> rfl
abbrev Cell := Int × List Int
def row (q : Th) : Cell := (q.1, q.2.2.2)
def at_ (l : List Cell) (ref : Int) : Option Cell := if ref < 1 then none else l[(ref - 1).toNat]?
def lenP (B : List Bool) (l : List Cell) (ref : Int) : Int × Int := match at_ l ref with
 | none => (0, 1)
 | some q => if hasB B q.1 = true then ((q.2.length : Int), 0) else (0, -1)
def loadP (B : List Bool) (l : List Cell) (ref i : Int) : Int × Int := match at_ l ref with
 | none => (0, 1)
 | some q => if hasB B q.1 = true then (if i < 0 then (0, 2) else match q.2[i.toNat]? with | none => (0, 2) | some v => (v, 0)) else (0, -1)
def putL (l : List Cell) (k i : Nat) (v : Int) : List Cell := l.modify k fun q => (q.1, q.2.set i v)
def putP (B : List Bool) (l : List Cell) (ref i v : Int) : Int × List Cell := ((loadP B l ref i).2, if (loadP B l ref i).2 = 0 then putL l (ref - 1).toNat i.toNat v else l)
theorem at_none {l : List Cell} {ref : Int} (h : ref < 1 ∨ (l.length : Int) < ref) : at_ l ref = none := by
 unfold at_
 split
 ·rfl
 ·rw [List.getElem?_eq_none]; omega
theorem at_some {l : List Cell} {k : Nat} {q : Cell} (h : l[k]? = some q) : at_ l ((k : Int) + 1) = some q := by
 unfold at_
 rw [if_neg (by omega), show ((k : Int) + 1 - 1).toNat = k by omega, h]
theorem ref_cases (L : List Th) (ref : Int) : (ref < 1 ∨ (L.length : Int) < ref) ∨ ∃ (k : Nat) (q : Th), ref = (k : Int) + 1 ∧ L[k]? = some q := by
 by_cases h : ref < 1 ∨ (L.length : Int) < ref
 ·exact .inl h
 ·exact .inr ⟨(ref - 1).toNat, L[(ref - 1).toNat]'(by omega), by omega, List.getElem?_eq_getElem (by omega)⟩
theorem len_spec (p : Nat) (c : TabC) (ref : Int) (hl : c.L.length ≤ 1000000000) : Does Tryz.prog 108 [.pointer (some ⟨p, 0, none⟩), .int .i64 ref] [] [RowR p 86 [.slice c.aR c.R.length c.cR, .slice c.aL c.L.length c.cL, .int .i64 c.gone, .int .i64 c.peak, .int .i64 c.many, .int .i64 c.most], GX.Own 90 tyRegion c.aR c.cR c.R, GX.Own 148 tyThing c.aL c.cL (c.L.map thg), Owns 3 Ty.int (c.L.map (fun x : Th => x.2))]
  (fun _ : Unit => .tuple #[.int .i64 (lenP (c.R.map (·.live)) (c.L.map row) ref).1, .int .i64 (lenP (c.R.map (·.live)) (c.L.map row) ref).2]) (fun _ => []) (fun _ => [RowR p 86 [.slice c.aR c.R.length c.cR, .slice c.aL c.L.length c.cL, .int .i64 c.gone, .int .i64 c.peak, .int .i64 c.many, .int .i64 c.most], GX.Own 90 tyRegion c.aR c.cR c.R, GX.Own 148 tyThing c.aL c.cL (c.L.map thg), Owns 3 Ty.int (c.L.map (fun x : Th => x.2))]) := by
 refine enter Tryz.func108 rfl Tryz.ntmps108 rfl fun b => ?_
 rcases ref_cases c.L ref with h | ⟨k, q, rfl, hq⟩
 ·have hp : lenP (c.R.map (·.live)) (c.L.map row) ref = (0, 1) := by unfold lenP; rw [at_none (by simpa using h)]
  rw [hp]
  refine GX.wR ?_; intros
  refine GX.o (cl (cells_null p c ref h) fun _ => ?_)
  refine GX.wR ?_; intros
  exact rt2 () rfl
 ·have hq2 : (c.L.map row)[k]? = some (row q) := by rw [List.getElem?_map, hq]; rfl
  cases hh : has c.R q.1 with
  | false =>
   have hp : lenP (c.R.map (·.live)) (c.L.map row) ((k : Int) + 1) = (0, -1) := by unfold lenP; rw [at_some hq2]; simp [row, ← has_B, hh]
   rw [hp]
   refine GX.wR ?_; intros
   refine GX.o (cl (cells_gone p c k q hq hh hl) fun _ => ?_)
   refine GX.wR ?_; intros
   exact rt2 () rfl
  | true =>
   have hp : lenP (c.R.map (·.live)) (c.L.map row) ((k : Int) + 1) = ((q.2.2.2.length : Int), 0) := by unfold lenP; rw [at_some hq2]; simp [row, ← has_B, hh]
   rw [hp]
   refine GX.wR ?_; intros
   refine GX.o (cl (cells_there p c k q hq hh hl) fun _ => ?_)
   refine GX.wR ?_; intros
   exact rt2 () rfl
theorem tcell_null (p : Nat) (c : TabC) (ref i : Int) (h : ref < 1 ∨ (c.L.length : Int) < ref) : Does Tryz.prog 137 [.pointer (some ⟨p, 0, none⟩), .int .i64 ref, .int .i64 i] [] [RowR p 86 [.slice c.aR c.R.length c.cR, .slice c.aL c.L.length c.cL, .int .i64 c.gone, .int .i64 c.peak, .int .i64 c.many, .int .i64 c.most], GX.Own 90 tyRegion c.aR c.cR c.R, GX.Own 148 tyThing c.aL c.cL (c.L.map thg), Owns 3 Ty.int (c.L.map (fun x : Th => x.2))] (fun _ : Unit => .tuple #[.pointer none, .int .i64 1]) (fun _ => []) (fun _ => [RowR p 86 [.slice c.aR c.R.length c.cR, .slice c.aL c.L.length c.cL, .int .i64 c.gone, .int .i64 c.peak, .int .i64 c.many, .int .i64 c.most], GX.Own 90 tyRegion c.aR c.cR c.R, GX.Own 148 tyThing c.aL c.cL (c.L.map thg), Owns 3 Ty.int (c.L.map (fun x : Th => x.2))]) := by
 refine enter Tryz.func137 rfl Tryz.ntmps137 rfl fun b => ?_
 refine GX.wR ?_; intros
 refine GX.o (cl (cells_null p c ref h) fun _ => ?_)
 refine GX.wR ?_; intros
 exact rt2 () rfl
theorem tcell_gone (p : Nat) (c : TabC) (k : Nat) (q : Th) (i : Int) (hk : c.L[k]? = some q) (h : has c.R q.1 = false) (hl : c.L.length ≤ 1000000000) : Does Tryz.prog 137 [.pointer (some ⟨p, 0, none⟩), .int .i64 ((k : Int) + 1), .int .i64 i] [] [RowR p 86 [.slice c.aR c.R.length c.cR, .slice c.aL c.L.length c.cL, .int .i64 c.gone, .int .i64 c.peak, .int .i64 c.many, .int .i64 c.most], GX.Own 90 tyRegion c.aR c.cR c.R, GX.Own 148 tyThing c.aL c.cL (c.L.map thg), Owns 3 Ty.int (c.L.map (fun x : Th => x.2))] (fun _ : Unit => .tuple #[.pointer none, .int .i64 (-1)]) (fun _ => []) (fun _ => [RowR p 86 [.slice c.aR c.R.length c.cR, .slice c.aL c.L.length c.cL, .int .i64 c.gone, .int .i64 c.peak, .int .i64 c.many, .int .i64 c.most], GX.Own 90 tyRegion c.aR c.cR c.R, GX.Own 148 tyThing c.aL c.cL (c.L.map thg), Owns 3 Ty.int (c.L.map (fun x : Th => x.2))]) := by
 refine enter Tryz.func137 rfl Tryz.ntmps137 rfl fun b => ?_
 refine GX.wR ?_; intros
 refine GX.o (cl (cells_gone p c k q hk h hl) fun _ => ?_)
 refine GX.wR ?_; intros
 exact rt2 () rfl
theorem tcell_out (p : Nat) (c : TabC) (k : Nat) (q : Th) (i : Int) (hk : c.L[k]? = some q) (h : has c.R q.1 = true) (hl : c.L.length ≤ 1000000000) (hi : i < 0 ∨ (q.2.2.2.length : Int) ≤ i) : Does Tryz.prog 137 [.pointer (some ⟨p, 0, none⟩), .int .i64 ((k : Int) + 1), .int .i64 i] [] [RowR p 86 [.slice c.aR c.R.length c.cR, .slice c.aL c.L.length c.cL, .int .i64 c.gone, .int .i64 c.peak, .int .i64 c.many, .int .i64 c.most], GX.Own 90 tyRegion c.aR c.cR c.R, GX.Own 148 tyThing c.aL c.cL (c.L.map thg), Owns 3 Ty.int (c.L.map (fun x : Th => x.2))] (fun _ : Unit => .tuple #[.pointer none, .int .i64 2]) (fun _ => []) (fun _ => [RowR p 86 [.slice c.aR c.R.length c.cR, .slice c.aL c.L.length c.cL, .int .i64 c.gone, .int .i64 c.peak, .int .i64 c.many, .int .i64 c.most], GX.Own 90 tyRegion c.aR c.cR c.R, GX.Own 148 tyThing c.aL c.cL (c.L.map thg), Owns 3 Ty.int (c.L.map (fun x : Th => x.2))]) := by
 refine enter Tryz.func137 rfl Tryz.ntmps137 rfl fun b => ?_
 refine GX.wR ?_; intros
 refine GX.o (cl (cells_there p c k q hk h hl) fun _ => ?_)
 by_cases h1 : i < 0
 ·refine GX.wR ?_; intros
  exact rt2 () rfl
 ·refine GX.wR ?_; intros
  exact rt2 () rfl
theorem tcell_there (p : Nat) (c : TabC) (k : Nat) (r : Int) (g m : Nat) (l : List Int) (j : Nat) (hk : c.L[k]? = some (r, some ⟨g, 0, none⟩, m, l)) (h : has c.R r = true) (hl : c.L.length ≤ 1000000000) (hj : j < l.length) : Does Tryz.prog 137 [.pointer (some ⟨p, 0, none⟩), .int .i64 ((k : Int) + 1), .int .i64 (j : Int)] [] [RowR p 86 [.slice c.aR c.R.length c.cR, .slice c.aL c.L.length c.cL, .int .i64 c.gone, .int .i64 c.peak, .int .i64 c.many, .int .i64 c.most], GX.Own 90 tyRegion c.aR c.cR c.R, GX.Own 148 tyThing c.aL c.cL (c.L.map thg), Owns 3 Ty.int (c.L.map (fun x : Th => x.2))] (fun _ : Unit => .tuple #[.pointer (some ⟨g, j, none⟩), .int .i64 0]) (fun _ => []) (fun _ => [RowR p 86 [.slice c.aR c.R.length c.cR, .slice c.aL c.L.length c.cL, .int .i64 c.gone, .int .i64 c.peak, .int .i64 c.many, .int .i64 c.most], GX.Own 90 tyRegion c.aR c.cR c.R, GX.Own 148 tyThing c.aL c.cL (c.L.map thg), Owns 3 Ty.int (c.L.map (fun x : Th => x.2))]) := by
 refine enter Tryz.func137 rfl Tryz.ntmps137 rfl fun b => ?_
 refine GX.wR ?_; intros
 refine GX.o (cl (cells_there p c k _ hk h hl) fun _ => ?_)
 dsimp only
 refine GX.wR ?_; intros
 exact rt2 () rfl
structure RefC where
 aR : Option Addr
 cR : Nat
 B : List Bool
 aL : Option Addr
 cL : Nat
 L : List Th
 peak : Int
 most : Int
theorem take_one {α : Type} {l : List α} {i : Nat} {x : α} (h : l[i]? = some x) : l.take (i + 1) = l.take i ++ [x] := by rw [List.take_add_one, h]; rfl
theorem hasB_neg {B : List Bool} {r : Int} (h : r < 1) : hasB B r = false := by
 have : ¬ 1 ≤ r := by omega
 simp [hasB, this]
theorem hasB_big {B : List Bool} {r : Int} (h : (B.length : Int) < r) : hasB B r = false := by
 have : B[(r - 1).toNat]? = none := by rw [List.getElem?_eq_none]; omega
 rw [hasB, this]; simp
theorem hasB_in {B : List Bool} {k : Nat} {x : Bool} (h : B[k]? = some x) : hasB B ((k : Int) + 1) = x := by
 have : ((k : Int) + 1 - 1).toNat = k := by omega
 simp [hasB, this, h]; omega
def liveN (B : List Bool) : Nat := B.countP id
def nowN (B : List Bool) (l : List Cell) : Nat := l.countP fun q => hasB B q.1
theorem loadP_null {B : List Bool} {l : List Cell} {ref i : Int} (h : at_ l ref = none) : loadP B l ref i = (0, 1) := by unfold loadP; rw [h]
theorem loadP_gone {B : List Bool} {l : List Cell} {ref i : Int} {q : Cell} (h : at_ l ref = some q) (hh : hasB B q.1 = false) : loadP B l ref i = (0, -1) := by unfold loadP; rw [h]; simp [hh]
theorem loadP_out {B : List Bool} {l : List Cell} {ref i : Int} {q : Cell} (h : at_ l ref = some q) (hh : hasB B q.1 = true) (hi : i < 0 ∨ (q.2.length : Int) ≤ i) : loadP B l ref i = (0, 2) := by
 unfold loadP; rw [h]; simp only [hh, if_true]
 split
 ·rfl
 ·rw [show q.2[i.toNat]? = none by rw [List.getElem?_eq_none]; omega]
theorem loadP_in {B : List Bool} {l : List Cell} {ref : Int} {q : Cell} {j : Nat} {v : Int} (h : at_ l ref = some q) (hh : hasB B q.1 = true) (hj : q.2[j]? = some v) : loadP B l ref (j : Int) = (v, 0) := by
 unfold loadP; rw [h]; simp only [hh, if_true]
 rw [if_neg (by omega), Int.toNat_natCast, hj]
def putT (L : List Th) (k j : Nat) (v : Int) : List Th := L.modify k fun q => (q.1, q.2.1, q.2.2.1, q.2.2.2.set j v)
theorem putT_at {L : List Th} {k : Nat} {q : Th} (h : L[k]? = some q) (j : Nat) (v : Int) : putT L k j v = L.set k (q.1, q.2.1, q.2.2.1, q.2.2.2.set j v) := by
 unfold putT
 apply List.ext_getElem?
 intro i
 rw [List.getElem?_modify, List.getElem?_set]
 by_cases e : k = i
 ·subst e; rw [h, if_pos rfl, if_pos (List.getElem?_eq_some_iff.1 h).1]; simp
 ·simp [e]
theorem putT_thg (L : List Th) (k j : Nat) (v : Int) : (putT L k j v).map thg = L.map thg := by
 apply List.ext_getElem?
 intro i
 simp only [putT, List.getElem?_map, List.getElem?_modify]
 cases L[i]? with
 | none => rfl
 | some q => by_cases e : k = i <;> simp [e, thg, hd]
theorem putT_row (L : List Th) (k j : Nat) (v : Int) : (putT L k j v).map row = putL (L.map row) k j v := by
 apply List.ext_getElem?
 intro i
 simp only [putT, putL, List.getElem?_map, List.getElem?_modify]
 cases L[i]? with
 | none => rfl
 | some q => by_cases e : k = i <;> simp [e, row]
theorem putT_len (L : List Th) (k j : Nat) (v : Int) : (putT L k j v).length = L.length := by unfold putT; simp
def putTo (B : List Bool) (L : List Th) (ref i v : Int) : List Th := if (loadP B (L.map row) ref i).2 = 0 then putT L (ref - 1).toNat i.toNat v else L
theorem putTo_row (B : List Bool) (L : List Th) (ref i v : Int) : (putTo B L ref i v).map row = (putP B (L.map row) ref i v).2 := by
 unfold putTo putP
 split
 ·exact putT_row _ _ _ _
 ·rfl
theorem place_cases (B : List Bool) (L : List Th) (ref i : Int) : (ref < 1 ∨ (L.length : Int) < ref) ∨ (∃ (k : Nat) (q : Th), ref = (k : Int) + 1 ∧ L[k]? = some q ∧ hasB B q.1 = false) ∨
  (∃ (k : Nat) (q : Th), ref = (k : Int) + 1 ∧ L[k]? = some q ∧ hasB B q.1 = true ∧ (i < 0 ∨ (q.2.2.2.length : Int) ≤ i)) ∨ (∃ (k : Nat) (q : Th) (j : Nat) (v : Int), ref = (k : Int) + 1 ∧ L[k]? = some q ∧ hasB B q.1 = true ∧ i = (j : Int) ∧ q.2.2.2[j]? = some v) := by
 rcases ref_cases L ref with h | ⟨k, q, rfl, hq⟩
 ·exact .inl h
 right
 cases hh : hasB B q.1 with
 | false => exact .inl ⟨k, q, rfl, hq, hh⟩
 | true =>
  right
  by_cases hi : i < 0 ∨ (q.2.2.2.length : Int) ≤ i
  ·exact .inl ⟨k, q, rfl, hq, hh, hi⟩
  ·obtain ⟨j, rfl⟩ := Int.eq_ofNat_of_zero_le (show 0 ≤ i by omega)
   exact .inr ⟨k, q, j, _, rfl, hq, hh, rfl, List.getElem?_eq_getElem (by omega)⟩
theorem load_spec (p : Nat) (c : TabC) (ref i : Int) (hl : c.L.length ≤ 1000000000) : Does Tryz.prog 105 [.pointer (some ⟨p, 0, none⟩), .int .i64 ref, .int .i64 i] [] [RowR p 86 [.slice c.aR c.R.length c.cR, .slice c.aL c.L.length c.cL, .int .i64 c.gone, .int .i64 c.peak, .int .i64 c.many, .int .i64 c.most], GX.Own 90 tyRegion c.aR c.cR c.R, GX.Own 148 tyThing c.aL c.cL (c.L.map thg), Owns 3 Ty.int (c.L.map (fun x : Th => x.2))]
  (fun _ : Unit => .tuple #[.int .i64 (loadP (c.R.map (·.live)) (c.L.map row) ref i).1, .int .i64 (loadP (c.R.map (·.live)) (c.L.map row) ref i).2]) (fun _ => []) (fun _ => [RowR p 86 [.slice c.aR c.R.length c.cR, .slice c.aL c.L.length c.cL, .int .i64 c.gone, .int .i64 c.peak, .int .i64 c.many, .int .i64 c.most], GX.Own 90 tyRegion c.aR c.cR c.R, GX.Own 148 tyThing c.aL c.cL (c.L.map thg), Owns 3 Ty.int (c.L.map (fun x : Th => x.2))]) := by
 refine enter Tryz.func105 rfl Tryz.ntmps105 rfl fun b => ?_
 rcases place_cases (c.R.map (·.live)) c.L ref i with h | ⟨k, q, rfl, hq, hh⟩ | ⟨k, q, rfl, hq, hh, hi⟩ | ⟨k, ⟨r, ao, m, l⟩, j, v, rfl, hq, hh, rfl, hj⟩
 ·rw [loadP_null (at_none (by simpa using h))]
  refine GX.wR ?_; intros
  refine GX.o (cl (tcell_null p c ref i h) fun _ => ?_)
  refine GX.wR ?_; intros
  exact rt2 () rfl
 ·rw [loadP_gone (at_some (by rw [List.getElem?_map, hq]; rfl)) hh]
  refine GX.wR ?_; intros
  refine GX.o (cl (tcell_gone p c k q i hq ((has_B _ _).trans hh) hl) fun _ => ?_)
  refine GX.wR ?_; intros
  exact rt2 () rfl
 ·rw [loadP_out (at_some (by rw [List.getElem?_map, hq]; rfl)) hh hi]
  refine GX.wR ?_; intros
  refine GX.o (cl (tcell_out p c k q i hq ((has_B _ _).trans hh) hl hi) fun _ => ?_)
  refine GX.wR ?_; intros
  exact rt2 () rfl
 ·rw [loadP_in (at_some (by rw [List.getElem?_map, hq]; rfl)) hh hj]
  dsimp only at hh hj
  have hq2 : (c.L.map (fun x : Th => x.2))[k]? = some (ao, m, l) := by rw [List.getElem?_map, hq]; rfl
  have hjl : j < l.length := (List.getElem?_eq_some_iff.1 hj).1
  refine osO (t := 3) (e := Ty.int) k (fun _ _ ha => ?_) hq2
  obtain ⟨hn, _⟩ | ⟨g, rfl⟩ := ha
  ·subst hn; simp at hj
  refine GX.wR ?_; intros
  refine GX.o (cl (tcell_there p c k r g m l j hq ((has_B _ _).trans hh) hl hjl) fun _ => ?_)
  refine osT (t := 3) (e := Ty.int) k ?_ hq2
  refine GX.wR ?_; intros
  refine osP (t := 3) (e := Ty.int) (ao := some ⟨g, 0, none⟩) k ?_ (by rw [List.getElem?_set_self]; exact (List.getElem?_eq_some_iff.1 hq2).1)
  rw [set_back hq2]
  exact rt2 () rfl
theorem put_spec (p : Nat) (c : TabC) (ref i v : Int) (hl : c.L.length ≤ 1000000000) : Does Tryz.prog 107 [.pointer (some ⟨p, 0, none⟩), .int .i64 ref, .int .i64 i, .int .i64 v] [] [RowR p 86 [.slice c.aR c.R.length c.cR, .slice c.aL c.L.length c.cL, .int .i64 c.gone, .int .i64 c.peak, .int .i64 c.many, .int .i64 c.most], GX.Own 90 tyRegion c.aR c.cR c.R, GX.Own 148 tyThing c.aL c.cL (c.L.map thg), Owns 3 Ty.int (c.L.map (fun x : Th => x.2))]
  (fun _ : Unit => .int .i64 (loadP (c.R.map (·.live)) (c.L.map row) ref i).2) (fun _ => []) (fun _ => [RowR p 86 [.slice c.aR c.R.length c.cR, .slice c.aL (putTo (c.R.map (·.live)) c.L ref i v).length c.cL, .int .i64 c.gone, .int .i64 c.peak, .int .i64 c.many, .int .i64 c.most], GX.Own 90 tyRegion c.aR c.cR c.R, GX.Own 148 tyThing c.aL c.cL ((putTo (c.R.map (·.live)) c.L ref i v).map thg), Owns 3 Ty.int ((putTo (c.R.map (·.live)) c.L ref i v).map (fun x : Th => x.2))]) := by
 refine enter Tryz.func107 rfl Tryz.ntmps107 rfl fun b => ?_
 rcases place_cases (c.R.map (·.live)) c.L ref i with h | ⟨k, q, rfl, hq, hh⟩ | ⟨k, q, rfl, hq, hh, hi⟩ | ⟨k, ⟨r, ao, m, l⟩, j, v0, rfl, hq, hh, rfl, hj⟩
 ·have e := loadP_null (B := c.R.map (·.live)) (i := i) (at_none (l := c.L.map row) (ref := ref) (by simpa using h))
  rw [show putTo (c.R.map (·.live)) c.L ref i v = c.L by unfold putTo; rw [e]; rfl, e]
  refine GX.wR ?_; intros
  refine GX.o (cl (tcell_null p c ref i h) fun _ => ?_)
  refine GX.wR ?_; intros
  exact rt1 () rfl
 ·have e := loadP_gone (B := c.R.map (·.live)) (i := i) (at_some (l := c.L.map row) (k := k) (q := row q) (by rw [List.getElem?_map, hq]; rfl)) hh
  rw [show putTo (c.R.map (·.live)) c.L ((k : Int) + 1) i v = c.L by unfold putTo; rw [e]; rfl, e]
  refine GX.wR ?_; intros
  refine GX.o (cl (tcell_gone p c k q i hq ((has_B _ _).trans hh) hl) fun _ => ?_)
  refine GX.wR ?_; intros
  exact rt1 () rfl
 ·have e := loadP_out (B := c.R.map (·.live)) (i := i) (at_some (l := c.L.map row) (k := k) (q := row q) (by rw [List.getElem?_map, hq]; rfl)) hh hi
  rw [show putTo (c.R.map (·.live)) c.L ((k : Int) + 1) i v = c.L by unfold putTo; rw [e]; rfl, e]
  refine GX.wR ?_; intros
  refine GX.o (cl (tcell_out p c k q i hq ((has_B _ _).trans hh) hl hi) fun _ => ?_)
  refine GX.wR ?_; intros
  exact rt1 () rfl
 ·have e := loadP_in (B := c.R.map (·.live)) (at_some (l := c.L.map row) (k := k) (q := row (r, ao, m, l)) (by rw [List.getElem?_map, hq]; rfl)) hh hj
  have e2 : putTo (c.R.map (·.live)) c.L ((k : Int) + 1) (j : Int) v = putT c.L k j v := by unfold putTo; rw [e, if_pos rfl, show ((k : Int) + 1 - 1).toNat = k by omega, Int.toNat_natCast]
  rw [e2, e]
  dsimp only at hh hj
  have hq2 : (c.L.map (fun x : Th => x.2))[k]? = some (ao, m, l) := by rw [List.getElem?_map, hq]; rfl
  have hjl : j < l.length := (List.getElem?_eq_some_iff.1 hj).1
  refine osO (t := 3) (e := Ty.int) k (fun _ _ ha => ?_) hq2
  obtain ⟨hn, _⟩ | ⟨g, rfl⟩ := ha
  ·subst hn; simp at hj
  refine GX.wR ?_; intros
  refine GX.o (cl (tcell_there p c k r g m l j hq ((has_B _ _).trans hh) hl hjl) fun _ => ?_)
  refine osT (t := 3) (e := Ty.int) k ?_ hq2
  refine GX.wR ?_; intros
  refine osP (t := 3) (e := Ty.int) (ao := some ⟨g, 0, none⟩) k ?_ (by rw [List.getElem?_set_self]; exact (List.getElem?_eq_some_iff.1 hq2).1)
  have e3 : ((c.L.map (fun x : Th => x.2)).set k (none, 0, [])).set k (some ⟨g, 0, none⟩, m, l.set j v) = (putT c.L k j v).map (fun x : Th => x.2) := by
   rw [List.set_set, putT_at hq, List.map_set]
  rw [e3]
  exact rt1 () rfl (h2 := by (try dsimp only); rw [putT_thg, putT_len]; exact GX.sA)
end Go.Proofs.YtomadjefdghliaaGreat
namespace Go.Proofs.YtomadjefdghliaaGreat
open Go.Api
theorem hasB_app {B : List Bool} {b : Bool} {r : Int} (h : r ≤ B.length) : hasB (B ++ [b]) r = hasB B r := by
 unfold hasB
 by_cases h1 : 1 ≤ r
 ·rw [List.getElem?_append_left (by omega)]
 ·simp [h1]
theorem hasB_set {B : List Bool} {k : Nat} {r : Int} (h : r ≠ (k : Int) + 1) : hasB (B.set k false) r = hasB B r := by
 unfold hasB
 by_cases h1 : 1 ≤ r
 ·rw [List.getElem?_set_ne (by omega)]
 ·simp [h1]
theorem hasB_set_same {B : List Bool} {k : Nat} (h : k < B.length) : hasB (B.set k false) ((k : Int) + 1) = false := by
 unfold hasB
 rw [show ((k : Int) + 1 - 1).toNat = k by omega, List.getElem?_set_self h]; simp
theorem liveN_app (B : List Bool) : liveN (B ++ [true]) = liveN B + 1 := by simp [liveN]
theorem liveN_set : ∀ {B : List Bool} {k : Nat}, B[k]? = some true → liveN (B.set k false) + 1 = liveN B
 | [], _, h => by simp at h
 | b :: B, 0, h => by simp at h; subst h; simp [liveN]
 | b :: B, k + 1, h => by
  have ih := liveN_set (B := B) (k := k) (by simpa using h)
  unfold liveN at ih ⊢
  rw [List.set_cons_succ, List.countP_cons, List.countP_cons]
  omega
def ofN (l : List Cell) (k : Nat) : Nat := l.countP fun q => decide (q.1 = (k : Int) + 1)
theorem nowN_app {B : List Bool} {b : Bool} : ∀ {l : List Cell}, (∀ q ∈ l, q.1 ≤ (B.length : Int)) → nowN (B ++ [b]) l = nowN B l
 | [], _ => rfl
 | q :: l, h => by
  have ih := nowN_app (B := B) (b := b) (l := l) (fun r hr => h r (by simp [hr]))
  unfold nowN at ih ⊢
  rw [List.countP_cons, List.countP_cons, ih, hasB_app (h q (by simp))]
theorem nowN_set {B : List Bool} {k : Nat} (hk : B[k]? = some true) : ∀ (l : List Cell), nowN (B.set k false) l + ofN l k = nowN B l
 | [] => rfl
 | q :: l => by
  have ih := nowN_set hk l
  have hl := (List.getElem?_eq_some_iff.1 hk).1
  unfold nowN ofN at ih ⊢
  rw [List.countP_cons, List.countP_cons, List.countP_cons]
  by_cases e : q.1 = (k : Int) + 1
  ·rw [e, hasB_set_same hl, hasB_in hk]; simp; omega
  ·rw [hasB_set e]; simp [e]; omega
theorem nowN_snoc (B : List Bool) (l : List Cell) (q : Cell) (h : hasB B q.1 = true) : nowN B (l ++ [q]) = nowN B l + 1 := by simp [nowN, h]
theorem ofN_snoc (l : List Cell) (q : Cell) (k : Nat) : ofN (l ++ [q]) k = ofN l k + if q.1 = (k : Int) + 1 then 1 else 0 := by simp [ofN, List.countP_append, List.countP_cons]
theorem ofN_none {l : List Cell} {k : Nat} (h : ∀ q ∈ l, q.1 ≤ (k : Int)) : ofN l k = 0 := by
 unfold ofN
 rw [List.countP_eq_zero]
 intro q hq
 have := h q hq
 simp; omega
theorem countP_fst {p : Int → Bool} {l m : List Cell} (h : l.map (·.1) = m.map (·.1)) : l.countP (fun q => p q.1) = m.countP (fun q => p q.1) := by
 have e : ∀ l : List Cell, l.countP (fun q => p q.1) = (l.map (·.1)).countP p := fun l => by rw [List.countP_map]; rfl
 rw [e, e, h]
theorem putL_fst (l : List Cell) (k i : Nat) (v : Int) : (putL l k i v).map (·.1) = l.map (·.1) := by
 apply List.ext_getElem?
 intro j
 simp only [putL, List.getElem?_map, List.getElem?_modify]
 cases l[j]? with
 | none => rfl
 | some q => by_cases e : k = j <;> simp [e]
theorem putP_fst (B : List Bool) (l : List Cell) (ref i v : Int) : (putP B l ref i v).2.map (·.1) = l.map (·.1) := by
 unfold putP
 dsimp only
 split
 ·exact putL_fst _ _ _ _
 ·rfl
structure Inv (c : TabC) (d : RefC) : Prop where
 B : c.R.map (·.live) = d.B
 L : c.L.map row = d.L.map row
 gone : c.gone = (d.B.length : Int) - liveN d.B
 peak : c.peak = d.peak
 many : c.many = nowN d.B (d.L.map row)
 most : c.most = d.most
 each : ∀ (k : Nat) x, c.R[k]? = some x → x.many = (ofN (d.L.map row) k : Int)
 reg : ∀ q ∈ d.L.map row, q.1 ≤ (d.B.length : Int)
theorem Inv.len {c : TabC} {d : RefC} (h : Inv c d) : c.R.length = d.B.length ∧ c.L.length = d.L.length := by
 have h1 := congrArg List.length h.B
 have h2 := congrArg List.length h.L
 simp at h1 h2
 exact ⟨h1, h2⟩
theorem Inv.bounds {c : TabC} {d : RefC} (h : Inv c d) : liveN d.B ≤ d.B.length ∧ nowN d.B (d.L.map row) ≤ d.L.length ∧ ∀ k, ofN (d.L.map row) k ≤ d.L.length := by
 refine ⟨List.countP_le_length, ?_, fun k => ?_⟩
 ·have : nowN d.B (d.L.map row) ≤ (d.L.map row).length := List.countP_le_length
  simpa using this
 ·have : ofN (d.L.map row) k ≤ (d.L.map row).length := List.countP_le_length
  simpa using this
theorem Inv.start : Inv ⟨none, 0, [], none, 0, [], 0, 0, 0, 0⟩ ⟨none, 0, [], none, 0, [], 0, 0⟩ :=
 ⟨rfl, rfl, rfl, rfl, rfl, rfl, by simp, by simp⟩
theorem Inv.make {c : TabC} {d : RefC} (h : Inv c d) (s s' : Option Addr × Nat) : Inv (TabC.mk s.1 s.2 (c.R ++ [⟨true, 0⟩]) c.aL c.cL c.L c.gone (max c.peak (((c.R.length + 1 : Nat) : Int) - c.gone)) c.many c.most) (RefC.mk s'.1 s'.2 (d.B ++ [true]) d.aL d.cL d.L (max d.peak (liveN (d.B ++ [true]) : Int)) d.most) := by
 have hl := h.len
 have hlv := liveN_app d.B
 refine ⟨by simp [h.B], h.L, ?_, ?_, ?_, h.most, fun k x hx => ?_, fun q hq => ?_⟩
 ·show c.gone = (((d.B ++ [true]).length : Nat) : Int) - (liveN (d.B ++ [true]) : Nat)
  rw [h.gone, hlv]; simp; omega
 ·show max c.peak _ = max d.peak _
  rw [h.peak, h.gone, hlv, hl.1]; omega
 ·show c.many = _
  rw [h.many]
  show _ = ((nowN (d.B ++ [true]) (d.L.map row) : Nat) : Int)
  rw [nowN_app h.reg]
 ·have hx : (c.R ++ [⟨true, 0⟩])[k]? = some x := hx
  show x.many = (ofN (d.L.map row) k : Int)
  by_cases hk : k < c.R.length
  ·rw [List.getElem?_append_left hk] at hx
   exact h.each k x hx
  ·rw [List.getElem?_append_right (by omega)] at hx
   rcases hq : k - c.R.length with _ | q
   ·rw [hq] at hx; simp at hx; subst hx
    have : k = d.B.length := by omega
    subst this
    rw [ofN_none h.reg]; rfl
   ·rw [hq] at hx; simp at hx
 ·have := h.reg q hq
  show q.1 ≤ (((d.B ++ [true]).length : Nat) : Int)
  simp; omega
theorem Inv.remove {c : TabC} {d : RefC} (h : Inv c d) {k : Nat} {x : Region} (hk : c.R[k]? = some x) (hx : x.live = true) : Inv (TabC.mk c.aR c.cR (c.R.set k ⟨false, x.many⟩) c.aL c.cL c.L (c.gone + 1) c.peak (c.many - x.many) c.most) (RefC.mk d.aR d.cR (d.B.set k false) d.aL d.cL d.L d.peak d.most) := by
 have hB : d.B[k]? = some true := by rw [← h.B, List.getElem?_map, hk]; simp [hx]
 have h1 := liveN_set hB
 have h2 := nowN_set hB (d.L.map row)
 refine ⟨by rw [List.map_set, h.B], h.L, ?_, h.peak, ?_, h.most, fun j y hy => ?_, fun q hq => ?_⟩
 ·show c.gone + 1 = (((d.B.set k false).length : Nat) : Int) - (liveN (d.B.set k false) : Nat)
  rw [h.gone, List.length_set]; omega
 ·show c.many - x.many = ((nowN (d.B.set k false) (d.L.map row) : Nat) : Int)
  rw [h.many, h.each k x hk]; omega
 ·have hy : (c.R.set k ⟨false, x.many⟩)[j]? = some y := hy
  show y.many = (ofN (d.L.map row) j : Int)
  by_cases e : k = j
  ·subst e
   rw [List.getElem?_set_self (List.getElem?_eq_some_iff.1 hk).1] at hy
   cases hy; exact h.each k x hk
  ·rw [List.getElem?_set_ne e] at hy
   exact h.each j y hy
 ·show q.1 ≤ (((d.B.set k false).length : Nat) : Int)
  rw [List.length_set]; exact h.reg q hq
theorem Inv.add {c : TabC} {d : RefC} (h : Inv c d) {k m : Nat} {x : Region} (hk : c.R[k]? = some x) (hx : x.live = true) (s s' : Nat × Option Addr × Nat) : Inv (TabC.mk c.aR c.cR (c.R.set k ⟨x.live, x.many + 1⟩) s.2.1 s.2.2 (c.L ++ [((k : Int) + 1, some ⟨s.1, 0, none⟩, m, List.replicate m 0)]) c.gone c.peak (c.many + 1) (max c.most (c.many + 1)))
  (RefC.mk d.aR d.cR d.B s'.2.1 s'.2.2 (d.L ++ [((k : Int) + 1, some ⟨s'.1, 0, none⟩, m, List.replicate m 0)]) d.peak (max d.most (nowN d.B (d.L.map row ++ [((k : Int) + 1, List.replicate m 0)]) : Int))) := by
 have hB : d.B[k]? = some true := by rw [← h.B, List.getElem?_map, hk]; simp [hx]
 have hkl := (List.getElem?_eq_some_iff.1 hB).1
 have hn := nowN_snoc d.B (d.L.map row) ((k : Int) + 1, List.replicate m 0) (hasB_in hB)
 have hr : (d.L ++ [((k : Int) + 1, (some ⟨s'.1, 0, none⟩ : Option Go.Addr), m, List.replicate m (0 : Int))]).map row = d.L.map row ++ [((k : Int) + 1, List.replicate m 0)] := by simp [row]
 refine ⟨?_, ?_, h.gone, h.peak, ?_, ?_, fun j y hy => ?_, fun q hq => ?_⟩
 ·show (c.R.set k ⟨x.live, x.many + 1⟩).map (·.live) = d.B
  rw [List.map_set, h.B, hx]
  apply List.ext_getElem?
  intro j
  rw [List.getElem?_set]
  split
  ·rename_i e; subst e
   have := List.getElem?_eq_some_iff.1 hB
   obtain ⟨_, h3⟩ := this
   simp [hkl, h3]
  ·rfl
 ·show (c.L ++ _).map row = (d.L ++ _).map row
  rw [hr, List.map_append, h.L]; simp [row]
 ·show c.many + 1 = ((nowN d.B ((d.L ++ _).map row) : Nat) : Int)
  rw [hr, hn, h.many]; omega
 ·show max c.most (c.many + 1) = max d.most _
  rw [h.most, h.many, hn]; omega
 ·have hy : (c.R.set k ⟨x.live, x.many + 1⟩)[j]? = some y := hy
  show y.many = ((ofN ((d.L ++ _).map row) j : Nat) : Int)
  rw [hr, ofN_snoc]
  by_cases e : k = j
  ·subst e
   rw [List.getElem?_set_self (List.getElem?_eq_some_iff.1 hk).1] at hy
   cases hy; simp [h.each k x hk]
  ·rw [List.getElem?_set_ne e] at hy
   rw [h.each j y hy, if_neg (by show ¬ ((k : Int) + 1 = (j : Int) + 1); omega)]; simp
 ·have hq : q ∈ (d.L ++ _).map row := hq
  rw [hr, List.mem_append] at hq
  rcases hq with hq | hq
  ·exact h.reg q hq
  ·simp at hq; subst hq; show (k : Int) + 1 ≤ (d.B.length : Int); omega
theorem Inv.put {c : TabC} {d : RefC} (h : Inv c d) (ref i v : Int) : Inv (TabC.mk c.aR c.cR c.R c.aL c.cL (putTo (c.R.map (·.live)) c.L ref i v) c.gone c.peak c.many c.most) (RefC.mk d.aR d.cR d.B d.aL d.cL (putTo d.B d.L ref i v) d.peak d.most) := by
 have e1 := putTo_row d.B d.L ref i v
 have e2 := putP_fst d.B (d.L.map row) ref i v
 rw [← e1] at e2
 refine ⟨h.B, ?_, h.gone, h.peak, ?_, h.most, fun k x hx => ?_, fun q hq => ?_⟩
 ·show (putTo (c.R.map (·.live)) c.L ref i v).map row = (putTo d.B d.L ref i v).map row
  rw [putTo_row, putTo_row, h.B, h.L]
 ·show c.many = ((nowN d.B ((putTo d.B d.L ref i v).map row) : Nat) : Int)
  rw [h.many]
  unfold nowN
  rw [countP_fst (p := hasB d.B) e2]
 ·show x.many = ((ofN ((putTo d.B d.L ref i v).map row) k : Nat) : Int)
  rw [h.each k x hx]
  unfold ofN
  rw [countP_fst (p := fun r => decide (r = (k : Int) + 1)) e2]
 ·have hq : q ∈ (putTo d.B d.L ref i v).map row := hq
  have : q.1 ∈ ((putTo d.B d.L ref i v).map row).map (·.1) := List.mem_map_of_mem hq
  rw [e2] at this
  obtain ⟨q', hq', e⟩ := List.mem_map.1 this
  rw [← e]; exact h.reg q' hq'
end Go.Proofs.YtomadjefdghliaaGreat
namespace Go.Proofs.YtomadjefdghliaaGreat
open Go.Api Go.RtM
structure Tb where
 B : List Bool
 L : List Cell
 peak : Int
 most : Int
def Tb.zero : Tb := ⟨[], [], 0, 0⟩
def Tb.make (T : Tb) : Tb := ⟨T.B ++ [true], T.L, max T.peak (liveN (T.B ++ [true]) : Int), T.most⟩
def Tb.rem (T : Tb) (r : Int) : Tb := if hasB T.B r = true then ⟨T.B.set (r - 1).toNat false, T.L, T.peak, T.most⟩ else T
def Tb.add (T : Tb) (r n : Int) : Tb := if hasB T.B r = true then ⟨T.B, T.L ++ [(r, List.replicate (cells n) 0)], T.peak, max T.most (nowN T.B (T.L ++ [(r, List.replicate (cells n) 0)]) : Int)⟩ else T
def Tb.put (T : Tb) (ref i v : Int) : Tb := ⟨T.B, (putP T.B T.L ref i v).2, T.peak, T.most⟩
structure Fr where
 u : Int
 pc : Int
 vars : List Int
 into : Int
 regs : Int → Int
structure Ms where
 tb : Tb
 inp : List Int
 gl : List Int
 fs : List Fr
 en : Int
 code : Int
 out : List Int
 steps : Int
 slack : Int
def w64 (x : Int) : Int := Go.IntKind.i64.wrap x
def flg (p : Prop) [Decidable p] : Int := if p then 1 else 0
def bin (op a b : Int) : Int × Int :=
 if op = 14 then (w64 (a + b), 0) else if op = 15 then (w64 (a - b), 0) else if op = 16 then (w64 (a * b), 0)
 else if op = 17 then (if b = 0 then (0, 3) else (w64 (Int.tdiv a b), 0)) else if op = 18 then (if b = 0 then (0, 3) else (Int.tmod a b, 0))
 else if op = 19 then (flg (a < b), 0) else if op = 20 then (flg (a ≤ b), 0) else if op = 21 then (flg (a = b), 0) else if op = 22 then (flg (a ≠ b), 0)
 else if op = 23 then (flg (a ≠ 0 ∧ b ≠ 0), 0) else if op = 24 then (flg (a ≠ 0 ∨ b ≠ 0), 0) else (0, 0)
def unN (op a : Int) : Int := if op = 12 then w64 (-a) else if op = 13 then flg (a = 0) else 0
def lkv (l : List Int) (n : Int) : Int := (gt l n).getD 0
def setv (l : List Int) (n y : Int) : List Int := l.set n.toNat y
def Vok (f : Fr) (n : Int) : Prop := ∃ k : Nat, n = k ∧ k < f.vars.length
theorem setv_len (l : List Int) (n y : Int) : (setv l n y).length = l.length := List.length_set
def updI (m : Int → Int) (c r : Int) : Int → Int := fun x => if x = c then r else m x
def Ms.ends (M : Ms) (e c : Int) : Ms := { M with en := e, code := c }
def Ms.trap (M : Ms) (c : Int) : Ms := if c = 0 then M else if c = -1 then M.ends 4 0 else M.ends 2 c
def Ms.top (M : Ms) (f : Fr) : Ms := { M with fs := f :: M.fs.tail }
def Ms.var (M : Ms) (f : Fr) (n y : Int) : Ms := M.top { f with vars := setv f.vars n y }
def Ms.got (M : Ms) (f : Fr) (n : Int) (r : Int × Int) : Ms := if r.2 = 0 then M.var f n r.1 else M.trap r.2
def reg (G : List Int) (f : Fr) (c : Int) : Int := if c ∈ G then 1 else f.regs c
def Ms.lies (M : Ms) (G : List Int) (f : Fr) (a c n : Int) : Ms := if hasB M.tb.B (reg G f c) = true then { M.var f a ((M.tb.L.length + 1 : Nat) : Int) with tb := M.tb.add (reg G f c) n } else M.ends 4 0
def crT : List Int → Tb → (Int → Int) → Tb × (Int → Int) × Bool
 | [], T, m => (T, m, true)
 | c :: l, T, m => if m c ≠ 0 then (T, m, false) else crT l T.make (updI m c ((T.B.length + 1 : Nat) : Int))
def rmT : List Int → Tb → (Int → Int) → Tb × (Int → Int) × Bool
 | [], T, m => (T, m, true)
 | c :: l, T, m => if m c = 0 then (T, m, false) else rmT l (T.rem (m c)) (updI m c 0)
def Ms.regs (M : Ms) (f : Fr) (r : Tb × (Int → Int) × Bool) : Ms := if r.2.2 = true then { M.top { f with regs := r.2.1 } with tb := r.1 } else ({ M.top { f with regs := r.2.1 } with tb := r.1 } : Ms).ends 4 0
def takeR (G : List Int) (B : List Bool) (f : Fr) : List Int → (Int → Int) → Option (Int → Int)
 | [], m => some m
 | c :: l, m => if hasB B (reg G f c) = true then takeR G B f l (updI m c (reg G f c)) else none
def argsV (f : Fr) (i : Ins) (n : Nat) : List Int := i.args.map (lkv f.vars) ++ (List.replicate n (0 : Int)).drop i.args.length
def Ms.call (M : Ms) (t : RTg) (G : List Int) (f : Fr) (i : Ins) : Ms :=
 if 40 ≤ M.fs.length then M.trap 6 else match gt t.units i.c with
 | none => M
 | some g => match takeR G M.tb.B f g.takes (fun _ => 0) with
  | none => M.ends 4 0
  | some m => { M with fs := ⟨i.c, 0, argsV f i g.vars.length, i.a, m⟩ :: M.fs }
def Ms.ret (M : Ms) (f : Fr) (i : Ins) : Ms := match M.fs.tail with
 | [] => ({ M with fs := [] } : Ms).ends 1 0
 | h :: r => { M with fs := (if 0 ≤ f.into then { h with vars := setv h.vars f.into (if 0 ≤ i.a then lkv f.vars i.a else 0) } else h) :: r }
def Ms.go (M : Ms) (t : RTg) (G : List Int) (f : Fr) (i : Ins) : Ms :=
 if i.op = 1 then M.var f i.a i.n
 else if i.op = 2 then M.var f i.a 0
 else if i.op = 3 then M.var f i.a (lkv f.vars i.b)
 else if i.op = 4 then M.got f i.a (bin i.n (lkv f.vars i.b) (lkv f.vars i.c))
 else if i.op = 5 then M.var f i.a (unN i.n (lkv f.vars i.b))
 else if i.op = 6 then M.got f i.a (loadP M.tb.B M.tb.L (lkv f.vars i.b) i.c)
 else if i.op = 7 then ({ M with tb := M.tb.put (lkv f.vars i.a) i.c (lkv f.vars i.b) } : Ms).trap (loadP M.tb.B M.tb.L (lkv f.vars i.a) i.c).2
 else if i.op = 8 then M.got f i.a (loadP M.tb.B M.tb.L (lkv f.vars i.b) (lkv f.vars i.c))
 else if i.op = 9 then ({ M with tb := M.tb.put (lkv f.vars i.a) (lkv f.vars i.b) (lkv f.vars i.c) } : Ms).trap (loadP M.tb.B M.tb.L (lkv f.vars i.a) (lkv f.vars i.b)).2
 else if i.op = 10 then M.got f i.a (lenP M.tb.B M.tb.L (lkv f.vars i.b))
 else if i.op = 11 then M.lies G f i.a i.n (match gt t.classes i.n with | some L => (L.refs.length : Int) | none => 0)
 else if i.op = 12 then (if lkv f.vars i.b < 0 ∨ 50 < lkv f.vars i.b then M.trap 4 else M.lies G f i.a i.n (lkv f.vars i.b))
 else if i.op = 13 then M.call t G f i
 else if i.op = 14 then (match M.inp with | [] => M.trap 5 | y :: l => { M.var f i.a y with inp := l })
 else if i.op = 15 then { M with out := M.out ++ [lkv f.vars i.a] }
 else if i.op = 16 then M.top { f with pc := i.n }
 else if i.op = 17 then M.top { f with pc := if lkv f.vars i.a ≠ 0 then i.n else i.c }
 else if i.op = 18 then M.ret f i
 else if i.op = 19 then M.var f i.a (lkv M.gl i.n)
 else if i.op = 20 then { M with gl := setv M.gl i.n (lkv f.vars i.a) }
 else if i.op = 21 then M.regs f (crT i.args M.tb f.regs)
 else M.regs f (rmT i.args M.tb f.regs)
def ownsN (t : RTg) (f : Fr) : Nat := match gt t.units f.u with | some u => u.owns.length | none => 0
def bound (t : RTg) (fs : List Fr) : Int := 1 + ((fs.map (ownsN t)).sum : Nat)
def Ms.room (M : Ms) (t : RTg) : Int := bound t M.fs - (liveN M.tb.B : Int)
def Ms.less (M : Ms) (t : RTg) : Ms := if M.en = 0 then { M with slack := min M.slack (M.room t) } else M
def Ms.next (M : Ms) (t : RTg) : Option (Fr × Ins) := match M.fs with
 | [] => none
 | f :: _ => match gt t.units f.u with
  | none => none
  | some u => match gt u.ins f.pc with
   | none => none
   | some i => some (f, i)
def Ms.step (M : Ms) (t : RTg) (G : List Int) : Ms := match M.next t with
 | none => M
 | some (f, i) => (Ms.go ({ M with steps := M.steps + 1, fs := { f with pc := f.pc + 1 } :: M.fs.tail } : Ms) t G { f with pc := f.pc + 1 } i).less t
def runM (t : RTg) (G : List Int) : Nat → Ms → Ms
 | 0, M => if M.en = 0 then M.ends 3 0 else M
 | k + 1, M => if M.en = 0 then runM t G k (M.step t G) else M
def remAll (B : Tb) : Nat → Tb
 | 0 => B
 | k + 1 => (remAll B k).rem ((k : Int) + 1)
def Ms.clear (M : Ms) : Ms := if M.en = 1 then { M with tb := M.tb.rem 1 } else if M.en = 2 then { M with tb := remAll M.tb M.tb.B.length } else M
def Ms.ran (M : Ms) : Api.Ran := ⟨⟨M.en, M.code, M.out, M.steps⟩, M.tb.B.length, (M.tb.B.length : Int) - (liveN M.tb.B : Int), liveN M.tb.B, M.tb.peak, M.slack, M.tb.most⟩
def start (t : RTg) (inp : List Int) : Ms := ⟨Tb.zero.make, inp, List.replicate t.globals.length 0, [⟨t.main, 0, List.replicate (match gt t.units t.main with | some u => u.vars.length | none => 0) 0, -1, fun _ => 0⟩], 0, 0, [], 0, 0⟩
def begin_ (t : RTg) (inp : List Int) : Ms := { start t inp with slack := (start t inp).room t }
def ranP (t : RTg) (G inp : List Int) (fuel : Int) : Api.Ran := (runM t G (max fuel 0).toNat (begin_ t inp)).clear.ran
end Go.Proofs.YtomadjefdghliaaGreat
namespace Go.GX
open Go Go.RowKit Go.RR Go.RX
section
variable {P : Program} {n : Nat} {env : Env} {b : Base} {ps : List Pf} {hp : List Res} {Q : Exit → Act → World → Prop} {K : Act → World → Prop}
section sems
variable {S : World → Prop} {t t' : TypeId} {x y : Operand}
end sems
end
section
variable {P : Program} {n : Nat} {env : Env} {b : Base} {ps : List Pf} {hp : List Res} {Q : Exit → Act → World → Prop} {K : Act → World → Prop}
variable {ty : TypeId} {pos : String} {aft : Array Edge} {gd : Option (Nat × Bool)} {α : Type} {e : Ty α}
theorem els_take {F : Nat → Prop} {w : World} : ∀ {xs : List α} {cs : List Value} (j : Nat), Els e F w cs xs → Els e F w (cs.take (j * e.size)) (xs.take j)
 | [], cs, j, h => by
  have h : cs = [] := h
  subst h; simp; rfl
 | x :: xs, cs, 0, h => by simp; rfl
 | x :: xs, cs, j + 1, ⟨c1, c2, h1, h2, h3⟩ => by
  have hl := e.len h2
  refine ⟨c1, c2.take (j * e.size), ?_, h2, els_take j h3⟩
  rw [h1, Nat.add_mul, Nat.one_mul, Nat.add_comm, ← hl, List.take_length_add_append]
theorem ownTake (ao : Option Addr) (j : Nat) {t : TypeId} {cap : Nat} {xs : List α} {rest : List Res} [hf : FOwn ao hp t e cap xs rest] (h : G n env b ps (Own t e ao cap (xs.take j) :: rest) K) : G n env b ps hp K := by
 refine alter (hp1 := [Own t e ao cap xs]) (hp2 := [Own t e ao cap (xs.take j)]) hf.p ?_ ?_ h
 ·intro F w h1 _
  refine ⟨fun r hr => ?_, by simp⟩
  obtain rfl : r = _ := by simpa using hr
  obtain ⟨cs, g1, g2⟩ : (Own t e ao cap xs).says F w := h1 _ (by simp)
  have hlen := els_take j g2
  rcases g1.2 with ⟨h3, h4⟩ | ⟨g, cap', cur, h3, hb, hg, h5, h6, h7, h8⟩
  ·simp at h3
   obtain ⟨rfl, hx, rfl⟩ := h3
   subst hx
   have : cs = [] := g2
   subst this
   simp; exact own_none
  ·simp at h3
   obtain ⟨rfl, rfl⟩ := h3
   refine ⟨cs.take (j * e.size), ⟨hlen.len, .inr ⟨g, cap, cur, rfl, hb, hg, ?_, h6, h7, ?_⟩⟩, hlen⟩
   ·rw [List.length_take]; omega
   ·have h8 : cur.toList.take (xs.length * e.size) = cs := h8
    show cur.toList.take ((xs.take j).length * e.size) = cs.take (j * e.size)
    rw [← h8, List.take_take, List.length_take, Nat.mul_min_mul_right]
 ·rintro k ⟨r, hr, hk⟩
  obtain rfl : r = _ := by simpa using hr
  refine ⟨Own t e ao cap xs, by simp, ?_⟩
  have hk : Value.ownBlock (.slice ao (xs.take j).length cap) = some k := hk
  show Value.ownBlock (.slice ao xs.length cap) = some k
  cases ao <;> exact hk
section cutting
variable {t et : TypeId} {x y : Operand} {k : IntKind} {d : Nat}
theorem oh {ao : Option Addr} {m cap j sz : Nat} [ht : USlice P t et] [hs : USize P et sz] (h : G n ((d, .slice ao j cap) :: env) b ps hp K) (hx : ev env x = some (.slice ao m cap) := by exact rfl) (hy : ev env y = some (.int k (j : Int)) := by exact rfl) (hj : j ≤ cap := by omega) (hao : ∀ a, ao = some a → a.spot = none := by intro a ha; cases ha; rfl) (hd : Nat.blt d n = true := by exact rfl) :
  GO P n env b ps hp ⟨some d, .slice t x none (some y) none, ty, pos, aft, gd⟩ K Q := by
 refine rd1 (fun a ha o ho w _ => ?_) hd h
 have hb1 := sliceBound_run (P := P) (k := k) (i := (j : Int)) (y := cap) (c := .sliceAcap) (w := w) ⟨by omega, by omega⟩
 have e0 : (if cap = 0 then ao else ao.map (·.add (0 * sz))) = ao := by
  split
  ·rfl
  ·cases ao with
   | none => rfl
   | some a =>
    have := hao a rfl
    obtain ⟨b, o, sp⟩ := a
    dsimp only at this; subst this
    simp [Addr.add_lit]
 simp [execOp, ho, ha.ev hx, ha.ev hy, Instr.sliceAt, Instr.slice, run_underlying ht.u, Instr.sliceBounds, hb1, hs.s]
 simpa using e0
theorem ol {g o m cap j sz : Nat} [ht : USlice P t et] [hs : USize P et sz] (h : ∀ o2, (j < cap → o2 = o + j * sz) → G n ((d, .slice (some ⟨g, o2, none⟩) (m - j) (cap - j)) :: env) b ps hp K) (hx : ev env x = some (.slice (some ⟨g, o, none⟩) m cap) := by exact rfl) (hy : ev env y = some (.int k (j : Int)) := by exact rfl) (hj : j ≤ m := by omega) (hm : m ≤ cap := by omega) (hd : Nat.blt d n = true := by exact rfl) :
  GO P n env b ps hp ⟨some d, .slice t x (some y) none none, ty, pos, aft, gd⟩ K Q := by
 refine rd1 (v := .slice (some ⟨g, if cap = j then o else o + j * sz, none⟩) (m - j) (cap - j)) (fun a ha o' ho w _ => ?_) hd (h _ (fun hlt => by rw [if_neg (by omega)]))
 have hb1 := sliceBound_run (P := P) (k := k) (i := (j : Int)) (y := m) (c := .sliceB) (w := w) ⟨by omega, by omega⟩
 by_cases hc : cap = j
 ·simp [execOp, ho, ha.ev hx, ha.ev hy, Instr.sliceAt, Instr.slice, run_underlying ht.u, Instr.sliceBounds, hb1, hs.s, hc]
 ·simp [execOp, ho, ha.ev hx, ha.ev hy, Instr.sliceAt, Instr.slice, run_underlying ht.u, Instr.sliceBounds, hb1, hs.s, hc, Addr.add_lit]
theorem effC {w w' : World} {c : Call} {v : Value} (hs : ∀ a, Has n env a → (execOp a.eval ⟨none, .call c, ty, pos, aft, gd⟩).run P w = .ok (.value v) w') (h : E n env w' K) : OW P n env w ⟨none, .call c, ty, pos, aft, gd⟩ K Q := by
 constructor; intro a ha
 show Oper.upon P _ a K Q ((execOp a.eval _).run P w)
 rw [hs a ha]
 exact h.run _ ha
theorem clr {z : α} {zv : Value} {g o m c cap k0 : Nat} {xs : List α} {rest : List Res} [ht : USlice P t et] [hz : UTy P et e z zv] [hf : FOwn (some ⟨g, 0, none⟩) hp et e cap xs rest] (h : ∀ ys, ys.length = xs.length → ys.take k0 = xs.take k0 → G n env b ps (Own et e (some ⟨g, 0, none⟩) cap ys :: rest) K)
  (hx : ev env x = some (.slice (some ⟨g, o, none⟩) m c)) (hes : e.size = 1) (hzs : zv.cells = #[zv]) (h1 : zv.oneCell' = true) (ho : m = 0 ∨ (k0 ≤ o ∧ o + m ≤ xs.length)) : GO P n env b ps hp ⟨none, .call { callee := .builtin .clear, args := #[x], argTypes := #[t] }, ty, pos, aft, gd⟩ K Q := by
 refine Acts.use (hp1 := [Own et e (some ⟨g, 0, none⟩) cap xs]) (ι := { ys : List α // ys.length = xs.length ∧ ys.take k0 = xs.take k0 }) (val := fun _ => undef) (pf := fun _ => []) (hr := fun ys => [Own et e (some ⟨g, 0, none⟩) cap ys.1]) ?_ hf.p (fun ys => h ys.1 ys.2.1 ys.2.2)
 intro F w K Q b s hk
 rcases Nat.eq_zero_or_pos m with hm | hm
 ·subst hm
  refine effC (v := .tuple #[]) (w' := w) (fun a ha => ?_) (hk ⟨xs, rfl, rfl⟩ w (mkOk1 s (Upd.refl _ _) (s.rs (Own et e (some ⟨g, 0, none⟩) cap xs) (by simp)) (fun k hk _ => hk)))
  simp [execOp, ha.ev hx, resolve, invoke, builtin, Builtin.clear_, run_underlying ht.u]
 ·obtain ⟨ho1, ho2⟩ : k0 ≤ o ∧ o + m ≤ xs.length := by omega
  obtain ⟨cs, tl, g1, g2, g3, g4, g5⟩ := own_open (s.rs (Own et e (some ⟨g, 0, none⟩) cap xs) (by simp))
  have hcl := g2.len
  rw [hes, Nat.mul_one] at hcl
  obtain ⟨w', k1, k2, k3⟩ := run_storeAll (P := P) (bl := g) (o := o) (te := et) (List.replicate m zv) (cs ++ tl) w 0 g1 (by simp; omega) (fun u hu => by rw [List.eq_of_mem_replicate hu]; exact h1)
  have hzc : (Builtin.zeroCells zv.cells m).toList = List.replicate m zv := by
   rw [hzs]
   simp [Builtin.zeroCells]
   apply List.ext_getElem
   ·simp
   ·intro i h1 h2; simp [Nat.mod_one]
  have hrd : e.rd F w [zv] z := by have := hz.rd F w; rw [hzs] at this; exact this
  refine effC (v := .tuple #[]) (w' := w') (fun a ha => ?_) (hk ⟨xs.take o ++ (List.replicate m z ++ xs.drop (o + m)), by simp; omega, by rw [List.take_append_of_le_length (by simp; omega), List.take_take, Nat.min_eq_left ho1]⟩ w' (mkOk1 s (k3.mono fun k _ hk => by subst hk; rfl) (own_close (cs := cs.take o ++ (List.replicate m zv ++ cs.drop (o + m))) (tl := tl) ?_ ?_ ?_ (by simp; omega) g5) (fun k hk _ => hk)))
  ·obtain ⟨m', rfl⟩ : ∃ m', m = m' + 1 := ⟨m - 1, by omega⟩
   simp [execOp, ha.ev hx, resolve, invoke, builtin, Builtin.clear_, run_underlying ht.u, hz.zero, hzc, k1]
  ·have e1 : over (cs ++ tl) (o + 0) (List.replicate m zv) = cs.take o ++ (List.replicate m zv ++ cs.drop (o + m)) ++ tl := by
    unfold over
    rw [Nat.add_zero, List.length_replicate, List.take_append_of_le_length (by omega), List.drop_append_of_le_length (by omega)]
    simp
   rw [e1] at k2; exact k2
  ·have hu' : Upd (feet [Own et e (some ⟨g, 0, none⟩) cap xs]) w w' := k3.mono fun k _ hk => ⟨Own et e (some ⟨g, 0, none⟩) cap xs, by simp, by subst hk; rfl⟩
   have a1 := els_take o g2
   rw [hes, Nat.mul_one] at a1
   have a3 : Els e F w (cs.drop (o + m)) (xs.drop (o + m)) := by
    have key : ∀ (j : Nat) (xs : List α) (cs : List Value), Els e F w cs xs → Els e F w (cs.drop j) (xs.drop j) := by
     intro j
     induction j with
     | zero => intro xs cs h; simpa using h
     | succ j ih =>
      intro xs cs h
      cases xs with
      | nil => have h : cs = [] := h
               subst h; simp; rfl
      | cons x xs =>
       obtain ⟨c1, c2, q1, q2, q3⟩ := h
       have hl := e.len q2
       rw [q1, List.drop_succ_cons, show j + 1 = c1.length + j by omega, ← List.drop_drop, List.drop_left]
       exact ih xs c2 q3
    exact key _ _ _ g2
   have a2 : Els e F w (List.replicate m zv) (List.replicate m z) := by
    have := els_rep hrd m
    simpa using this
   exact (a1.append (a2.append a3)).move (fun _ _ h => h) (agF s hu')
  ·rw [← g3]; simp; omega
end cutting
theorem clvR {d : Nat} {f : FuncId} {x : Operand} {xs : List Operand} {ts : Array TypeId} {vs fs cs : List Value} {r : Res} {hpC : List Res} [hf : UFunc P f] {ps1 : List Pf} {σ : Type} {val : σ → Value}
  (hc : Does P f (fs ++ (vs ++ cs)) ps1 hpC val (fun _ => []) (fun _ => hpC)) (h : ∀ s, G n ((d, val s) :: env) b ps (r :: hpC) K)
  (hx : ev env x = some (.func (.func f) fs.toArray cs.toArray) := by exact rfl) (hxs : evs env xs = some vs := by exact rfl)
  (hps : Suf ps1 ps := by repeat (first | (with_reducible apply Go.GX.Suf.refl) | apply Go.GX.Suf.tail)) (hd : Nat.blt d n = true := by exact rfl) :
  GO P n env b ps (r :: hpC) ⟨some d, .call { callee := .value x, args := xs.toArray, argTypes := ts }, ty, pos, aft, gd⟩ K Q :=
 callvG (rest := [r]) hc hx hxs hps.sub (List.perm_append_comm (l₁ := [r])) hd (fun s => perm (List.perm_append_comm (l₂ := [r])) (by rw [List.nil_append]; exact h s))
theorem clR {d : Nat} {f : FuncId} {xs : List Operand} {ts : Array TypeId} {vs : List Value} [hf : UFunc P f] {ps1 : List Pf} {σ : Type} {val : σ → Value} {hp' : σ → List Res}
  (hc : Does P f vs ps1 hp val (fun _ => []) hp') (h : ∀ s, G n ((d, val s) :: env) b ps (hp' s) K) (hxs : evs env xs = some vs := by exact rfl)
  (hps : Suf ps1 ps := by repeat (first | (with_reducible apply Go.GX.Suf.refl) | apply Go.GX.Suf.tail)) (hd : Nat.blt d n = true := by exact rfl) :
  GO P n env b ps hp ⟨some d, .call { callee := .value (.func f), args := xs.toArray, argTypes := ts }, ty, pos, aft, gd⟩ K Q :=
 call hc hxs hps.sub (rest := []) (by rw [List.append_nil]) hd (fun s => by rw [List.nil_append, List.append_nil]; exact h s)
end
end Go.GX
