import Derived.Test.YtomadjefdghliaaV12
import Derived.Test.YtomadjefdghliaaV13
/- The walks over package table. -/
namespace Go.Proofs.Ytomadjefdghliaa
open Go Go.RR Go.RX Go.GX Go.Api
attribute [local irreducible] wpList Code.wp wpPlan Exit.then Exit.inBlock bodyPost NoPanic Went GX.Post GX.Again GX.Meet GX.RowR GX.Own GX.Owns GX.Box GX.Sl GX.Pt GX.Ag GX.MapR GX.Kept GX.Pin wpT GoK AtEnd Both

/-- A thing, as it lies in its row. -/
structure Thing where
  region : Int
  cells : Option Addr × Nat × Nat
def tyThing : Ty Thing := Ty.co (Ty.pair Ty.int (Ty.pair Ty.hdr Ty.unit)) (fun y => (y.region, y.cells, ()))
instance : Sub tyThing 0 Ty.int Thing.region (fun z y => { y with region := z }) := Sub.co (Sub.fst (Sub.whole _)) (fun _ => rfl) (fun _ _ => rfl)
instance : Sub tyThing 1 Ty.hdr Thing.cells (fun z y => { y with cells := z }) := Sub.co (Sub.snd (Sub.fst (Sub.whole _))) (fun _ => rfl) (fun _ _ => rfl)
instance : UTy Try.prog 116 tyThing ⟨0, none, 0, 0⟩ (.agg #[.int .i64 0, .slice none 0 0]) := ⟨Try.zeroValue116, fun F w => co_rd (pair_rd (c1 := [_]) rfl num_rd (pair_rd (c1 := [_]) rfl hdr_rd unit_rd))⟩
instance {ps : List Pf} {v w : Value} {x : Int} {y : Option Addr × Nat × Nat} [OneV v] [OneV w] [h1 : Rds ps v Ty.int x] [h2 : Rds ps w Ty.hdr y] : Rds ps (.agg #[v, w]) tyThing ⟨x, y⟩ := ⟨.of fun F u h => co_rd (pair_rd (c1 := [_]) rfl (rdo (h1.r.as F u h)) (pair_rd (c1 := [_]) rfl (rdo (h2.r.as F u h)) unit_rd))⟩
/-- A thing's region, and its cells. -/
abbrev Th := Int × Option Addr × Nat × List Int
def thg (q : Th) : Thing := ⟨q.1, hd q.2⟩
/-- A table, as it lies in memory. -/
structure TabC where
  aR : Option Addr
  cR : Nat
  R : List Region
  aL : Option Addr
  cL : Nat
  L : List Th
  gone : Int
  peak : Int
  many : Int
  most : Int

def has (R : List Region) (r : Int) : Bool := decide (1 ≤ r) && (match R[(r - 1).toNat]? with | some x => x.live | none => false)
theorem has_neg {R : List Region} {r : Int} (h : r < 1) : has R r = false := by
  have : ¬ 1 ≤ r := by omega
  simp [has, this]
theorem has_big {R : List Region} {r : Int} (h : (R.length : Int) < r) : has R r = false := by
  have : R[(r - 1).toNat]? = none := by rw [List.getElem?_eq_none]; omega
  rw [has, this]; simp
theorem has_in {R : List Region} {k : Nat} {x : Region} (h : R[k]? = some x) : has R ((k : Int) + 1) = x.live := by
  have : ((k : Int) + 1 - 1).toNat = k := by omega
  simp [has, this, h]; omega
theorem has_get {R : List Region} {r : Int} (h : has R r = true) : ∃ (k : Nat) (x : Region), r = (k : Int) + 1 ∧ R[k]? = some x ∧ x.live = true := by
  unfold has at h
  simp only [Bool.and_eq_true, decide_eq_true_eq] at h
  obtain ⟨h1, h2⟩ := h
  cases hx : R[(r - 1).toNat]? with
  | none => rw [hx] at h2; simp at h2
  | some x => rw [hx] at h2; exact ⟨_, x, by omega, hx, h2⟩

theorem has_spec (p : Nat) (c : TabC) (r : Int) : Does Try.prog 68 [.pointer (some ⟨p, 0, none⟩), .int .i64 r] [] [RowR p 69 [.slice c.aR c.R.length c.cR, .slice c.aL c.L.length c.cL, .int .i64 c.gone, .int .i64 c.peak, .int .i64 c.many, .int .i64 c.most], GX.Own 73 tyRegion c.aR c.cR c.R, GX.Own 116 tyThing c.aL c.cL (c.L.map thg), Owns 3 Ty.int (c.L.map (fun x : Th => x.2))] (fun _ : Unit => .bool (has c.R r)) (fun _ => []) (fun _ => [RowR p 69 [.slice c.aR c.R.length c.cR, .slice c.aL c.L.length c.cL, .int .i64 c.gone, .int .i64 c.peak, .int .i64 c.many, .int .i64 c.most], GX.Own 73 tyRegion c.aR c.cR c.R, GX.Own 116 tyThing c.aL c.cL (c.L.map thg), Owns 3 Ty.int (c.L.map (fun x : Th => x.2))]) := by
  refine enter Try.func68 rfl Try.ntmps68 rfl fun b => ?_
  by_cases h1 : r < 1
  · refine GX.wR ?_; intros
    refine rt1 () (by rw [has_neg h1])
  by_cases h2 : (c.R.length : Int) < r
  · refine GX.wR ?_; intros
    refine rt1 () (by rw [has_big h2])
  obtain ⟨j, rfl⟩ : ∃ j : Nat, r = (j : Int) + 1 := ⟨(r - 1).toNat, by omega⟩
  obtain ⟨y, hy⟩ : ∃ y, c.R[j]? = some y := ⟨_, List.getElem?_eq_getElem (by omega)⟩
  obtain ⟨aR, cR, R, aL, cL, L, gone, peak, many, most⟩ := c
  dsimp only at *
  refine GX.opn aR fun _ _ ha => ?_
  obtain ⟨rfl, _⟩ | ⟨q, rfl⟩ := ha
  · simp at hy
  refine GX.wR ?_; intros
  refine rt1 () (by rw [has_in hy])

theorem make_spec (p : Nat) (c : TabC) (hl : c.R.length ≤ 1000000000) (hg : 0 ≤ c.gone ∧ c.gone ≤ 1000000000) : Does Try.prog 11 [.pointer (some ⟨p, 0, none⟩)] [] [RowR p 69 [.slice c.aR c.R.length c.cR, .slice c.aL c.L.length c.cL, .int .i64 c.gone, .int .i64 c.peak, .int .i64 c.many, .int .i64 c.most], GX.Own 73 tyRegion c.aR c.cR c.R, GX.Own 116 tyThing c.aL c.cL (c.L.map thg), Owns 3 Ty.int (c.L.map (fun x : Th => x.2))] (fun _ : Option Addr × Nat => .int .i64 ((c.R.length + 1 : Nat) : Int)) (fun _ => [])
    (fun s => [RowR p 69 [.slice (TabC.mk s.1 s.2 (c.R ++ [⟨true, 0⟩]) c.aL c.cL c.L c.gone (max c.peak (((c.R.length + 1 : Nat) : Int) - c.gone)) c.many c.most).aR (TabC.mk s.1 s.2 (c.R ++ [⟨true, 0⟩]) c.aL c.cL c.L c.gone (max c.peak (((c.R.length + 1 : Nat) : Int) - c.gone)) c.many c.most).R.length (TabC.mk s.1 s.2 (c.R ++ [⟨true, 0⟩]) c.aL c.cL c.L c.gone (max c.peak (((c.R.length + 1 : Nat) : Int) - c.gone)) c.many c.most).cR, .slice (TabC.mk s.1 s.2 (c.R ++ [⟨true, 0⟩]) c.aL c.cL c.L c.gone (max c.peak (((c.R.length + 1 : Nat) : Int) - c.gone)) c.many c.most).aL (TabC.mk s.1 s.2 (c.R ++ [⟨true, 0⟩]) c.aL c.cL c.L c.gone (max c.peak (((c.R.length + 1 : Nat) : Int) - c.gone)) c.many c.most).L.length (TabC.mk s.1 s.2 (c.R ++ [⟨true, 0⟩]) c.aL c.cL c.L c.gone (max c.peak (((c.R.length + 1 : Nat) : Int) - c.gone)) c.many c.most).cL, .int .i64 (TabC.mk s.1 s.2 (c.R ++ [⟨true, 0⟩]) c.aL c.cL c.L c.gone (max c.peak (((c.R.length + 1 : Nat) : Int) - c.gone)) c.many c.most).gone, .int .i64 (TabC.mk s.1 s.2 (c.R ++ [⟨true, 0⟩]) c.aL c.cL c.L c.gone (max c.peak (((c.R.length + 1 : Nat) : Int) - c.gone)) c.many c.most).peak, .int .i64 (TabC.mk s.1 s.2 (c.R ++ [⟨true, 0⟩]) c.aL c.cL c.L c.gone (max c.peak (((c.R.length + 1 : Nat) : Int) - c.gone)) c.many c.most).many, .int .i64 (TabC.mk s.1 s.2 (c.R ++ [⟨true, 0⟩]) c.aL c.cL c.L c.gone (max c.peak (((c.R.length + 1 : Nat) : Int) - c.gone)) c.many c.most).most], GX.Own 73 tyRegion (TabC.mk s.1 s.2 (c.R ++ [⟨true, 0⟩]) c.aL c.cL c.L c.gone (max c.peak (((c.R.length + 1 : Nat) : Int) - c.gone)) c.many c.most).aR (TabC.mk s.1 s.2 (c.R ++ [⟨true, 0⟩]) c.aL c.cL c.L c.gone (max c.peak (((c.R.length + 1 : Nat) : Int) - c.gone)) c.many c.most).cR (TabC.mk s.1 s.2 (c.R ++ [⟨true, 0⟩]) c.aL c.cL c.L c.gone (max c.peak (((c.R.length + 1 : Nat) : Int) - c.gone)) c.many c.most).R, GX.Own 116 tyThing (TabC.mk s.1 s.2 (c.R ++ [⟨true, 0⟩]) c.aL c.cL c.L c.gone (max c.peak (((c.R.length + 1 : Nat) : Int) - c.gone)) c.many c.most).aL (TabC.mk s.1 s.2 (c.R ++ [⟨true, 0⟩]) c.aL c.cL c.L c.gone (max c.peak (((c.R.length + 1 : Nat) : Int) - c.gone)) c.many c.most).cL ((TabC.mk s.1 s.2 (c.R ++ [⟨true, 0⟩]) c.aL c.cL c.L c.gone (max c.peak (((c.R.length + 1 : Nat) : Int) - c.gone)) c.many c.most).L.map thg), Owns 3 Ty.int ((TabC.mk s.1 s.2 (c.R ++ [⟨true, 0⟩]) c.aL c.cL c.L c.gone (max c.peak (((c.R.length + 1 : Nat) : Int) - c.gone)) c.many c.most).L.map (fun x : Th => x.2))]) := by
  obtain ⟨aR, cR, R, aL, cL, L, gone, peak, many, most⟩ := c
  dsimp only at *
  refine enter Try.func11 rfl Try.ntmps11 rfl fun b => ?_
  have hlen : (R ++ [(⟨true, 0⟩ : Region)]).length = R.length + 1 := by simp
  refine GX.wR ?_; intros
  refine GX.drawn1 (RowR p 69 _) (fun j => !(List.contains [18] j)) [(0, true), (1, true), (2, true), (3, true), (4, true), (5, true), (6, true), (7, true), (8, true), (9, true), (10, true), (11, true), (12, true), (13, true), (14, true), (15, true), (16, true), (17, true), (18, false)] rfl (by kernel_rfl) (by kernel_rfl) (by first | ((repeat (first | apply Go.GX.SelR.nil | apply Go.GX.SelR.cons | (with_reducible apply Go.GX.TakeR.head) | apply Go.GX.TakeR.tail)); done) | (repeat (first | apply Go.GX.SelR.nil | apply Go.GX.SelR.cons | apply Go.GX.TakeR.head | apply Go.GX.TakeR.tail))) ?_; intro wd F hW hR
  refine GX.wT ?_; intros
  refine GX.unpin (RowR p 69 _) ?_
  refine GX.wT ?_; intros
  refine GX.wR ?_; intros
  rename_i ao cap
  rw [hlen]
  exact rt1 (ao, cap) rfl

theorem tnew_spec : Does Try.prog 9 [] [] [] (fun p : Nat => .pointer (some ⟨p, 0, none⟩)) (fun _ => []) (fun p => [RowR p 69 [.slice (TabC.mk none 0 [] none 0 [] 0 0 0 0).aR (TabC.mk none 0 [] none 0 [] 0 0 0 0).R.length (TabC.mk none 0 [] none 0 [] 0 0 0 0).cR, .slice (TabC.mk none 0 [] none 0 [] 0 0 0 0).aL (TabC.mk none 0 [] none 0 [] 0 0 0 0).L.length (TabC.mk none 0 [] none 0 [] 0 0 0 0).cL, .int .i64 (TabC.mk none 0 [] none 0 [] 0 0 0 0).gone, .int .i64 (TabC.mk none 0 [] none 0 [] 0 0 0 0).peak, .int .i64 (TabC.mk none 0 [] none 0 [] 0 0 0 0).many, .int .i64 (TabC.mk none 0 [] none 0 [] 0 0 0 0).most], GX.Own 73 tyRegion (TabC.mk none 0 [] none 0 [] 0 0 0 0).aR (TabC.mk none 0 [] none 0 [] 0 0 0 0).cR (TabC.mk none 0 [] none 0 [] 0 0 0 0).R, GX.Own 116 tyThing (TabC.mk none 0 [] none 0 [] 0 0 0 0).aL (TabC.mk none 0 [] none 0 [] 0 0 0 0).cL ((TabC.mk none 0 [] none 0 [] 0 0 0 0).L.map thg), Owns 3 Ty.int ((TabC.mk none 0 [] none 0 [] 0 0 0 0).L.map (fun x : Th => x.2))]) := by
  refine enter Try.func9 rfl Try.ntmps9 rfl fun b => ?_
  refine GX.wR ?_; intros
  rename_i p
  refine ownNil 73 tyRegion ?_
  refine ownNil 116 tyThing ?_
  refine osN 3 Ty.int 0 ?_
  exact rt1 p rfl

theorem remove_no (p : Nat) (c : TabC) (r : Int) (h : has c.R r = false) : Does Try.prog 49 [.pointer (some ⟨p, 0, none⟩), .int .i64 r] [] [RowR p 69 [.slice c.aR c.R.length c.cR, .slice c.aL c.L.length c.cL, .int .i64 c.gone, .int .i64 c.peak, .int .i64 c.many, .int .i64 c.most], GX.Own 73 tyRegion c.aR c.cR c.R, GX.Own 116 tyThing c.aL c.cL (c.L.map thg), Owns 3 Ty.int (c.L.map (fun x : Th => x.2))] (fun _ : Unit => .bool false) (fun _ => []) (fun _ => [RowR p 69 [.slice c.aR c.R.length c.cR, .slice c.aL c.L.length c.cL, .int .i64 c.gone, .int .i64 c.peak, .int .i64 c.many, .int .i64 c.most], GX.Own 73 tyRegion c.aR c.cR c.R, GX.Own 116 tyThing c.aL c.cL (c.L.map thg), Owns 3 Ty.int (c.L.map (fun x : Th => x.2))]) := by
  refine enter Try.func49 rfl Try.ntmps49 rfl fun b => ?_
  refine GX.wR ?_; intros
  refine GX.o (cl (has_spec p c r) fun _ => ?_)
  rw [h]
  refine GX.wR ?_; intros
  exact rt1 () rfl
theorem remove_yes (p : Nat) (c : TabC) (k : Nat) (x : Region) (hk : c.R[k]? = some x) (hx : x.live = true) (hg : 0 ≤ c.gone ∧ c.gone ≤ 1000000000) (hm : 0 ≤ c.many ∧ c.many ≤ 1000000000) (hm2 : 0 ≤ x.many ∧ x.many ≤ 1000000000) (hkl : k ≤ 1000000000) :
    Does Try.prog 49 [.pointer (some ⟨p, 0, none⟩), .int .i64 ((k : Int) + 1)] [] [RowR p 69 [.slice c.aR c.R.length c.cR, .slice c.aL c.L.length c.cL, .int .i64 c.gone, .int .i64 c.peak, .int .i64 c.many, .int .i64 c.most], GX.Own 73 tyRegion c.aR c.cR c.R, GX.Own 116 tyThing c.aL c.cL (c.L.map thg), Owns 3 Ty.int (c.L.map (fun x : Th => x.2))] (fun _ : Unit => .bool true) (fun _ => []) (fun _ => [RowR p 69 [.slice (TabC.mk c.aR c.cR (c.R.set k ⟨false, x.many⟩) c.aL c.cL c.L (c.gone + 1) c.peak (c.many - x.many) c.most).aR (TabC.mk c.aR c.cR (c.R.set k ⟨false, x.many⟩) c.aL c.cL c.L (c.gone + 1) c.peak (c.many - x.many) c.most).R.length (TabC.mk c.aR c.cR (c.R.set k ⟨false, x.many⟩) c.aL c.cL c.L (c.gone + 1) c.peak (c.many - x.many) c.most).cR, .slice (TabC.mk c.aR c.cR (c.R.set k ⟨false, x.many⟩) c.aL c.cL c.L (c.gone + 1) c.peak (c.many - x.many) c.most).aL (TabC.mk c.aR c.cR (c.R.set k ⟨false, x.many⟩) c.aL c.cL c.L (c.gone + 1) c.peak (c.many - x.many) c.most).L.length (TabC.mk c.aR c.cR (c.R.set k ⟨false, x.many⟩) c.aL c.cL c.L (c.gone + 1) c.peak (c.many - x.many) c.most).cL, .int .i64 (TabC.mk c.aR c.cR (c.R.set k ⟨false, x.many⟩) c.aL c.cL c.L (c.gone + 1) c.peak (c.many - x.many) c.most).gone, .int .i64 (TabC.mk c.aR c.cR (c.R.set k ⟨false, x.many⟩) c.aL c.cL c.L (c.gone + 1) c.peak (c.many - x.many) c.most).peak, .int .i64 (TabC.mk c.aR c.cR (c.R.set k ⟨false, x.many⟩) c.aL c.cL c.L (c.gone + 1) c.peak (c.many - x.many) c.most).many, .int .i64 (TabC.mk c.aR c.cR (c.R.set k ⟨false, x.many⟩) c.aL c.cL c.L (c.gone + 1) c.peak (c.many - x.many) c.most).most], GX.Own 73 tyRegion (TabC.mk c.aR c.cR (c.R.set k ⟨false, x.many⟩) c.aL c.cL c.L (c.gone + 1) c.peak (c.many - x.many) c.most).aR (TabC.mk c.aR c.cR (c.R.set k ⟨false, x.many⟩) c.aL c.cL c.L (c.gone + 1) c.peak (c.many - x.many) c.most).cR (TabC.mk c.aR c.cR (c.R.set k ⟨false, x.many⟩) c.aL c.cL c.L (c.gone + 1) c.peak (c.many - x.many) c.most).R, GX.Own 116 tyThing (TabC.mk c.aR c.cR (c.R.set k ⟨false, x.many⟩) c.aL c.cL c.L (c.gone + 1) c.peak (c.many - x.many) c.most).aL (TabC.mk c.aR c.cR (c.R.set k ⟨false, x.many⟩) c.aL c.cL c.L (c.gone + 1) c.peak (c.many - x.many) c.most).cL ((TabC.mk c.aR c.cR (c.R.set k ⟨false, x.many⟩) c.aL c.cL c.L (c.gone + 1) c.peak (c.many - x.many) c.most).L.map thg), Owns 3 Ty.int ((TabC.mk c.aR c.cR (c.R.set k ⟨false, x.many⟩) c.aL c.cL c.L (c.gone + 1) c.peak (c.many - x.many) c.most).L.map (fun x : Th => x.2))]) := by
  have hh := has_in hk
  rw [hx] at hh
  refine enter Try.func49 rfl Try.ntmps49 rfl fun b => ?_
  refine GX.wR ?_; intros
  refine GX.o (cl (has_spec p c _) fun _ => ?_)
  rw [hh]
  obtain ⟨aR, cR, R, aL, cL, L, gone, peak, many, most⟩ := c
  dsimp only at *
  refine GX.opn aR fun _ _ ha => ?_
  obtain ⟨rfl, _⟩ | ⟨q, rfl⟩ := ha
  · simp at hk
  refine GX.wR ?_; intros
  have hxm : ({ live := false, many := x.many } : Region).many = x.many := rfl
  have hkl2 : k < R.length := (List.getElem?_eq_some_iff.1 hk).1
  have hk2 : (R.set k { x with live := false })[k]? = some { x with live := false } := by
    rw [List.getElem?_set_self]; exact (List.getElem?_eq_some_iff.1 hk).1
  refine GX.drawn2 (RowR p 69 _) (GX.Own 73 tyRegion _ _ _) (fun j => !(List.contains [16] j)) [(0, true), (1, true), (2, true), (3, true), (4, true), (5, true), (6, true), (7, true), (8, true), (9, true), (10, true), (11, true), (12, true), (13, true), (14, true), (15, true), (16, false)] rfl (by kernel_rfl) (by kernel_rfl) (by first | ((repeat (first | apply Go.GX.SelR.nil | apply Go.GX.SelR.cons | (with_reducible apply Go.GX.TakeR.head) | apply Go.GX.TakeR.tail)); done) | (repeat (first | apply Go.GX.SelR.nil | apply Go.GX.SelR.cons | apply Go.GX.TakeR.head | apply Go.GX.TakeR.tail))) ?_; intro wd F hW hR
  refine GX.wT ?_; intros
  refine GX.unpin (RowR p 69 _) ?_
  refine GX.unpin (GX.Own 73 tyRegion _ _ _) ?_
  refine GX.wT ?_; intros
  refine GX.wR ?_; intros
  rw [List.length_set]
  exact rt1 () rfl

theorem count_spec (p : Nat) (c : TabC) : Does Try.prog 17 [.pointer (some ⟨p, 0, none⟩)] [] [RowR p 69 [.slice c.aR c.R.length c.cR, .slice c.aL c.L.length c.cL, .int .i64 c.gone, .int .i64 c.peak, .int .i64 c.many, .int .i64 c.most], GX.Own 73 tyRegion c.aR c.cR c.R, GX.Own 116 tyThing c.aL c.cL (c.L.map thg), Owns 3 Ty.int (c.L.map (fun x : Th => x.2))] (fun _ : Unit => .tuple #[.int .i64 (c.R.length : Int), .int .i64 c.gone, .int .i64 c.peak]) (fun _ => []) (fun _ => [RowR p 69 [.slice c.aR c.R.length c.cR, .slice c.aL c.L.length c.cL, .int .i64 c.gone, .int .i64 c.peak, .int .i64 c.many, .int .i64 c.most], GX.Own 73 tyRegion c.aR c.cR c.R, GX.Own 116 tyThing c.aL c.cL (c.L.map thg), Owns 3 Ty.int (c.L.map (fun x : Th => x.2))]) := by
  refine enter Try.func17 rfl Try.ntmps17 rfl fun b => ?_
  refine GX.wR ?_; intros
  refine GX.drawn1 (RowR p 69 _) (fun j => !(List.contains [] j)) [(0, true), (1, true), (2, true), (3, true), (4, true), (5, true), (6, true), (7, true), (8, true), (9, true), (10, true), (11, true), (12, true), (13, true), (14, true), (15, true)] rfl (by kernel_rfl) (by kernel_rfl) (by first | ((repeat (first | apply Go.GX.SelR.nil | apply Go.GX.SelR.cons | (with_reducible apply Go.GX.TakeR.head) | apply Go.GX.TakeR.tail)); done) | (repeat (first | apply Go.GX.SelR.nil | apply Go.GX.SelR.cons | apply Go.GX.TakeR.head | apply Go.GX.TakeR.tail))) ?_; intro wd F hW hR
  refine GX.wT ?_; intros
  refine GX.unpin (RowR p 69 _) ?_
  refine GX.wT ?_; intros
  refine GX.wR ?_; intros
  exact rt3 () rfl
theorem things_spec (p : Nat) (c : TabC) : Does Try.prog 18 [.pointer (some ⟨p, 0, none⟩)] [] [RowR p 69 [.slice c.aR c.R.length c.cR, .slice c.aL c.L.length c.cL, .int .i64 c.gone, .int .i64 c.peak, .int .i64 c.many, .int .i64 c.most], GX.Own 73 tyRegion c.aR c.cR c.R, GX.Own 116 tyThing c.aL c.cL (c.L.map thg), Owns 3 Ty.int (c.L.map (fun x : Th => x.2))] (fun _ : Unit => .tuple #[.int .i64 c.many, .int .i64 c.most]) (fun _ => []) (fun _ => [RowR p 69 [.slice c.aR c.R.length c.cR, .slice c.aL c.L.length c.cL, .int .i64 c.gone, .int .i64 c.peak, .int .i64 c.many, .int .i64 c.most], GX.Own 73 tyRegion c.aR c.cR c.R, GX.Own 116 tyThing c.aL c.cL (c.L.map thg), Owns 3 Ty.int (c.L.map (fun x : Th => x.2))]) := by
  refine enter Try.func18 rfl Try.ntmps18 rfl fun b => ?_
  refine GX.wR ?_; intros
  refine GX.drawn1 (RowR p 69 _) (fun j => !(List.contains [] j)) [(0, true), (1, true), (2, true), (3, true), (4, true), (5, true), (6, true), (7, true), (8, true), (9, true)] rfl (by kernel_rfl) (by kernel_rfl) (by first | ((repeat (first | apply Go.GX.SelR.nil | apply Go.GX.SelR.cons | (with_reducible apply Go.GX.TakeR.head) | apply Go.GX.TakeR.tail)); done) | (repeat (first | apply Go.GX.SelR.nil | apply Go.GX.SelR.cons | apply Go.GX.TakeR.head | apply Go.GX.TakeR.tail))) ?_; intro wd F hW hR
  refine GX.wT ?_; intros
  refine GX.unpin (RowR p 69 _) ?_
  refine GX.wT ?_; intros
  refine GX.wR ?_; intros
  exact rt2 () rfl

theorem add_no (p : Nat) (c : TabC) (r n : Int) (h : has c.R r = false) : Does Try.prog 82 [.pointer (some ⟨p, 0, none⟩), .int .i64 r, .int .i64 n] [] [RowR p 69 [.slice c.aR c.R.length c.cR, .slice c.aL c.L.length c.cL, .int .i64 c.gone, .int .i64 c.peak, .int .i64 c.many, .int .i64 c.most], GX.Own 73 tyRegion c.aR c.cR c.R, GX.Own 116 tyThing c.aL c.cL (c.L.map thg), Owns 3 Ty.int (c.L.map (fun x : Th => x.2))] (fun _ : Unit => .tuple #[.int .i64 0, .bool false]) (fun _ => []) (fun _ => [RowR p 69 [.slice c.aR c.R.length c.cR, .slice c.aL c.L.length c.cL, .int .i64 c.gone, .int .i64 c.peak, .int .i64 c.many, .int .i64 c.most], GX.Own 73 tyRegion c.aR c.cR c.R, GX.Own 116 tyThing c.aL c.cL (c.L.map thg), Owns 3 Ty.int (c.L.map (fun x : Th => x.2))]) := by
  refine enter Try.func82 rfl Try.ntmps82 rfl fun b => ?_
  refine GX.wR ?_; intros
  refine GX.o (cl (has_spec p c r) fun _ => ?_)
  rw [h]
  refine GX.wR ?_; intros
  exact rt2 () rfl
/-- How many cells there are. -/
def cells (n : Int) : Nat := (min (max n 0) 50).toNat
theorem add_yes (p : Nat) (c : TabC) (k : Nat) (x : Region) (n : Int) (hk : c.R[k]? = some x) (hx : x.live = true) (hm : 0 ≤ c.many ∧ c.many ≤ 1000000000) (hm2 : 0 ≤ x.many ∧ x.many ≤ 1000000000) (hkl : k ≤ 1000000000) (hl : c.L.length ≤ 1000000000) :
    Does Try.prog 82 [.pointer (some ⟨p, 0, none⟩), .int .i64 ((k : Int) + 1), .int .i64 n] [] [RowR p 69 [.slice c.aR c.R.length c.cR, .slice c.aL c.L.length c.cL, .int .i64 c.gone, .int .i64 c.peak, .int .i64 c.many, .int .i64 c.most], GX.Own 73 tyRegion c.aR c.cR c.R, GX.Own 116 tyThing c.aL c.cL (c.L.map thg), Owns 3 Ty.int (c.L.map (fun x : Th => x.2))] (fun _ : Nat × Option Addr × Nat => .tuple #[.int .i64 ((c.L.length + 1 : Nat) : Int), .bool true]) (fun _ => [])
      (fun s => [RowR p 69 [.slice (TabC.mk c.aR c.cR (c.R.set k ⟨x.live, x.many + 1⟩) s.2.1 s.2.2 (c.L ++ [((k : Int) + 1, some ⟨s.1, 0, none⟩, cells n, List.replicate (cells n) 0)]) c.gone c.peak (c.many + 1) (max c.most (c.many + 1))).aR (TabC.mk c.aR c.cR (c.R.set k ⟨x.live, x.many + 1⟩) s.2.1 s.2.2 (c.L ++ [((k : Int) + 1, some ⟨s.1, 0, none⟩, cells n, List.replicate (cells n) 0)]) c.gone c.peak (c.many + 1) (max c.most (c.many + 1))).R.length (TabC.mk c.aR c.cR (c.R.set k ⟨x.live, x.many + 1⟩) s.2.1 s.2.2 (c.L ++ [((k : Int) + 1, some ⟨s.1, 0, none⟩, cells n, List.replicate (cells n) 0)]) c.gone c.peak (c.many + 1) (max c.most (c.many + 1))).cR, .slice (TabC.mk c.aR c.cR (c.R.set k ⟨x.live, x.many + 1⟩) s.2.1 s.2.2 (c.L ++ [((k : Int) + 1, some ⟨s.1, 0, none⟩, cells n, List.replicate (cells n) 0)]) c.gone c.peak (c.many + 1) (max c.most (c.many + 1))).aL (TabC.mk c.aR c.cR (c.R.set k ⟨x.live, x.many + 1⟩) s.2.1 s.2.2 (c.L ++ [((k : Int) + 1, some ⟨s.1, 0, none⟩, cells n, List.replicate (cells n) 0)]) c.gone c.peak (c.many + 1) (max c.most (c.many + 1))).L.length (TabC.mk c.aR c.cR (c.R.set k ⟨x.live, x.many + 1⟩) s.2.1 s.2.2 (c.L ++ [((k : Int) + 1, some ⟨s.1, 0, none⟩, cells n, List.replicate (cells n) 0)]) c.gone c.peak (c.many + 1) (max c.most (c.many + 1))).cL, .int .i64 (TabC.mk c.aR c.cR (c.R.set k ⟨x.live, x.many + 1⟩) s.2.1 s.2.2 (c.L ++ [((k : Int) + 1, some ⟨s.1, 0, none⟩, cells n, List.replicate (cells n) 0)]) c.gone c.peak (c.many + 1) (max c.most (c.many + 1))).gone, .int .i64 (TabC.mk c.aR c.cR (c.R.set k ⟨x.live, x.many + 1⟩) s.2.1 s.2.2 (c.L ++ [((k : Int) + 1, some ⟨s.1, 0, none⟩, cells n, List.replicate (cells n) 0)]) c.gone c.peak (c.many + 1) (max c.most (c.many + 1))).peak, .int .i64 (TabC.mk c.aR c.cR (c.R.set k ⟨x.live, x.many + 1⟩) s.2.1 s.2.2 (c.L ++ [((k : Int) + 1, some ⟨s.1, 0, none⟩, cells n, List.replicate (cells n) 0)]) c.gone c.peak (c.many + 1) (max c.most (c.many + 1))).many, .int .i64 (TabC.mk c.aR c.cR (c.R.set k ⟨x.live, x.many + 1⟩) s.2.1 s.2.2 (c.L ++ [((k : Int) + 1, some ⟨s.1, 0, none⟩, cells n, List.replicate (cells n) 0)]) c.gone c.peak (c.many + 1) (max c.most (c.many + 1))).most], GX.Own 73 tyRegion (TabC.mk c.aR c.cR (c.R.set k ⟨x.live, x.many + 1⟩) s.2.1 s.2.2 (c.L ++ [((k : Int) + 1, some ⟨s.1, 0, none⟩, cells n, List.replicate (cells n) 0)]) c.gone c.peak (c.many + 1) (max c.most (c.many + 1))).aR (TabC.mk c.aR c.cR (c.R.set k ⟨x.live, x.many + 1⟩) s.2.1 s.2.2 (c.L ++ [((k : Int) + 1, some ⟨s.1, 0, none⟩, cells n, List.replicate (cells n) 0)]) c.gone c.peak (c.many + 1) (max c.most (c.many + 1))).cR (TabC.mk c.aR c.cR (c.R.set k ⟨x.live, x.many + 1⟩) s.2.1 s.2.2 (c.L ++ [((k : Int) + 1, some ⟨s.1, 0, none⟩, cells n, List.replicate (cells n) 0)]) c.gone c.peak (c.many + 1) (max c.most (c.many + 1))).R, GX.Own 116 tyThing (TabC.mk c.aR c.cR (c.R.set k ⟨x.live, x.many + 1⟩) s.2.1 s.2.2 (c.L ++ [((k : Int) + 1, some ⟨s.1, 0, none⟩, cells n, List.replicate (cells n) 0)]) c.gone c.peak (c.many + 1) (max c.most (c.many + 1))).aL (TabC.mk c.aR c.cR (c.R.set k ⟨x.live, x.many + 1⟩) s.2.1 s.2.2 (c.L ++ [((k : Int) + 1, some ⟨s.1, 0, none⟩, cells n, List.replicate (cells n) 0)]) c.gone c.peak (c.many + 1) (max c.most (c.many + 1))).cL ((TabC.mk c.aR c.cR (c.R.set k ⟨x.live, x.many + 1⟩) s.2.1 s.2.2 (c.L ++ [((k : Int) + 1, some ⟨s.1, 0, none⟩, cells n, List.replicate (cells n) 0)]) c.gone c.peak (c.many + 1) (max c.most (c.many + 1))).L.map thg), Owns 3 Ty.int ((TabC.mk c.aR c.cR (c.R.set k ⟨x.live, x.many + 1⟩) s.2.1 s.2.2 (c.L ++ [((k : Int) + 1, some ⟨s.1, 0, none⟩, cells n, List.replicate (cells n) 0)]) c.gone c.peak (c.many + 1) (max c.most (c.many + 1))).L.map (fun x : Th => x.2))]) := by
  have hh := has_in hk
  rw [hx] at hh
  refine enter Try.func82 rfl Try.ntmps82 rfl fun b => ?_
  refine GX.wR ?_; intros
  refine GX.o (cl (has_spec p c _) fun _ => ?_)
  rw [hh]
  obtain ⟨aR, cR, R, aL, cL, L, gone, peak, many, most⟩ := c
  dsimp only at *
  obtain ⟨m, hm'⟩ : ∃ m, m = cells n := ⟨_, rfl⟩
  have hmi : min (max n 0) 50 = (m : Int) := by rw [hm']; unfold cells; omega
  have hm50 : m ≤ 50 := by omega
  have hlm : (L.map thg).length = L.length := by simp
  rw [← hm']
  refine GX.wR ?_; intros
  refine GX.drawn1 (RowR p 69 _) (fun j => !(List.contains [12, 15] j)) [(0, true), (1, true), (2, true), (3, true), (4, true), (5, true), (6, true), (7, true), (8, true), (9, false), (10, true), (11, false), (12, false), (13, true), (14, true), (15, false)] rfl (by kernel_rfl) (by kernel_rfl) (by first | ((repeat (first | apply Go.GX.SelR.nil | apply Go.GX.SelR.cons | (with_reducible apply Go.GX.TakeR.head) | apply Go.GX.TakeR.tail)); done) | (repeat (first | apply Go.GX.SelR.nil | apply Go.GX.SelR.cons | apply Go.GX.TakeR.head | apply Go.GX.TakeR.tail))) ?_; intro wd F hW hR
  refine GX.wT ?_; intros
  rw [hmi]
  refine GX.wT ?_; intros
  refine GX.unpin (RowR p 69 _) ?_
  refine GX.wT ?_; intros
  rename_i g _ aL2 cL2
  have e1 : L.map thg ++ [(⟨(k : Int) + 1, some ⟨g, 0, none⟩, m, m⟩ : Thing)] = (L ++ [(((k : Int) + 1, (some ⟨g, 0, none⟩ : Option Addr), m, List.replicate m (0 : Int)) : Th)]).map thg := by simp [thg, hd]
  have e2 : L.map (fun x : Th => x.2) ++ [((some ⟨g, 0, none⟩ : Option Addr), m, List.replicate m (0 : Int))] = (L ++ [(((k : Int) + 1, (some ⟨g, 0, none⟩ : Option Addr), m, List.replicate m (0 : Int)) : Th)]).map (fun x : Th => x.2) := by simp
  rw [e1]
  refine osA (t := 3) (e := Ty.int) (ao := some ⟨g, 0, none⟩) ?_
  rw [e2]
  obtain ⟨L', hL'⟩ : ∃ L', L' = (L ++ [(((k : Int) + 1, (some ⟨g, 0, none⟩ : Option Addr), m, List.replicate m (0 : Int)) : Th)]) := ⟨_, rfl⟩
  have hL1 : L'.length = L.length + 1 := by rw [hL']; simp
  rw [← hL', List.length_map, hL1]
  refine GX.opn aR fun _ _ ha => ?_
  obtain ⟨rfl, _⟩ | ⟨q, rfl⟩ := ha
  · simp at hk
  refine GX.wR ?_; intros
  refine GX.drawn1 (RowR p 69 _) (fun j => !(List.contains [12] j)) [(0, true), (1, true), (2, true), (3, true), (4, true), (5, true), (6, true), (7, true), (8, true), (9, true), (10, true), (11, true), (12, false)] rfl (by kernel_rfl) (by kernel_rfl) (by first | ((repeat (first | apply Go.GX.SelR.nil | apply Go.GX.SelR.cons | (with_reducible apply Go.GX.TakeR.head) | apply Go.GX.TakeR.tail)); done) | (repeat (first | apply Go.GX.SelR.nil | apply Go.GX.SelR.cons | apply Go.GX.TakeR.head | apply Go.GX.TakeR.tail))) ?_; intro wd F hW hR
  refine GX.wT ?_; intros
  refine GX.unpin (RowR p 69 _) ?_
  refine GX.wT ?_; intros
  refine GX.wR ?_; intros
  exact rt2 (g, aL2, cL2) rfl (h2 := by dsimp only; rw [← hL', hL1, List.length_set]; first | ((repeat (first | apply Go.GX.SelR.nil | apply Go.GX.SelR.cons | (with_reducible apply Go.GX.TakeR.head) | apply Go.GX.TakeR.tail)); done) | (repeat (first | apply Go.GX.SelR.nil | apply Go.GX.SelR.cons | apply Go.GX.TakeR.head | apply Go.GX.TakeR.tail)))

/-- What is told of a thing's cells: a trap, or the cells. -/
theorem cells_null (p : Nat) (c : TabC) (ref : Int) (h : ref < 1 ∨ (c.L.length : Int) < ref) : Does Try.prog 81 [.pointer (some ⟨p, 0, none⟩), .int .i64 ref] [] [RowR p 69 [.slice c.aR c.R.length c.cR, .slice c.aL c.L.length c.cL, .int .i64 c.gone, .int .i64 c.peak, .int .i64 c.many, .int .i64 c.most], GX.Own 73 tyRegion c.aR c.cR c.R, GX.Own 116 tyThing c.aL c.cL (c.L.map thg), Owns 3 Ty.int (c.L.map (fun x : Th => x.2))] (fun _ : Unit => .tuple #[.slice none 0 0, .int .i64 1]) (fun _ => []) (fun _ => [RowR p 69 [.slice c.aR c.R.length c.cR, .slice c.aL c.L.length c.cL, .int .i64 c.gone, .int .i64 c.peak, .int .i64 c.many, .int .i64 c.most], GX.Own 73 tyRegion c.aR c.cR c.R, GX.Own 116 tyThing c.aL c.cL (c.L.map thg), Owns 3 Ty.int (c.L.map (fun x : Th => x.2))]) := by
  refine enter Try.func81 rfl Try.ntmps81 rfl fun b => ?_
  by_cases h1 : ref < 1
  · refine GX.wR ?_; intros
    exact rt2 () rfl
  · refine GX.wR ?_; intros
    exact rt2 () rfl
theorem cells_gone (p : Nat) (c : TabC) (k : Nat) (q : Th) (hk : c.L[k]? = some q) (h : has c.R q.1 = false) (hl : c.L.length ≤ 1000000000) : Does Try.prog 81 [.pointer (some ⟨p, 0, none⟩), .int .i64 ((k : Int) + 1)] [] [RowR p 69 [.slice c.aR c.R.length c.cR, .slice c.aL c.L.length c.cL, .int .i64 c.gone, .int .i64 c.peak, .int .i64 c.many, .int .i64 c.most], GX.Own 73 tyRegion c.aR c.cR c.R, GX.Own 116 tyThing c.aL c.cL (c.L.map thg), Owns 3 Ty.int (c.L.map (fun x : Th => x.2))] (fun _ : Unit => .tuple #[.slice none 0 0, .int .i64 (-1)]) (fun _ => []) (fun _ => [RowR p 69 [.slice c.aR c.R.length c.cR, .slice c.aL c.L.length c.cL, .int .i64 c.gone, .int .i64 c.peak, .int .i64 c.many, .int .i64 c.most], GX.Own 73 tyRegion c.aR c.cR c.R, GX.Own 116 tyThing c.aL c.cL (c.L.map thg), Owns 3 Ty.int (c.L.map (fun x : Th => x.2))]) := by
  have hkl : k < c.L.length := (List.getElem?_eq_some_iff.1 hk).1
  refine enter Try.func81 rfl Try.ntmps81 rfl fun b => ?_
  obtain ⟨aR, cR, R, aL, cL, L, gone, peak, many, most⟩ := c
  dsimp only at *
  refine GX.opn aL fun _ _ ha => ?_
  obtain ⟨hn, _⟩ | ⟨g, rfl⟩ := ha
  · have : L = [] := by simpa using hn
    subst this; simp at hk
  have hk2 : (L.map thg)[k]? = some (thg q) := by rw [List.getElem?_map, hk]; rfl
  refine GX.wR ?_; intros
  refine GX.o (cl (has_spec p ⟨aR, cR, R, some ⟨g, 0, none⟩, cL, L, gone, peak, many, most⟩ _) fun _ => ?_)
  rw [show (thg q).region = q.1 from rfl, h]
  refine GX.wR ?_; intros
  exact rt2 () rfl
theorem cells_there (p : Nat) (c : TabC) (k : Nat) (q : Th) (hk : c.L[k]? = some q) (h : has c.R q.1 = true) (hl : c.L.length ≤ 1000000000) : Does Try.prog 81 [.pointer (some ⟨p, 0, none⟩), .int .i64 ((k : Int) + 1)] [] [RowR p 69 [.slice c.aR c.R.length c.cR, .slice c.aL c.L.length c.cL, .int .i64 c.gone, .int .i64 c.peak, .int .i64 c.many, .int .i64 c.most], GX.Own 73 tyRegion c.aR c.cR c.R, GX.Own 116 tyThing c.aL c.cL (c.L.map thg), Owns 3 Ty.int (c.L.map (fun x : Th => x.2))] (fun _ : Unit => .tuple #[.slice q.2.1 q.2.2.2.length q.2.2.1, .int .i64 0]) (fun _ => []) (fun _ => [RowR p 69 [.slice c.aR c.R.length c.cR, .slice c.aL c.L.length c.cL, .int .i64 c.gone, .int .i64 c.peak, .int .i64 c.many, .int .i64 c.most], GX.Own 73 tyRegion c.aR c.cR c.R, GX.Own 116 tyThing c.aL c.cL (c.L.map thg), Owns 3 Ty.int (c.L.map (fun x : Th => x.2))]) := by
  have hkl : k < c.L.length := (List.getElem?_eq_some_iff.1 hk).1
  refine enter Try.func81 rfl Try.ntmps81 rfl fun b => ?_
  obtain ⟨aR, cR, R, aL, cL, L, gone, peak, many, most⟩ := c
  dsimp only at *
  refine GX.opn aL fun _ _ ha => ?_
  obtain ⟨hn, _⟩ | ⟨g, rfl⟩ := ha
  · have : L = [] := by simpa using hn
    subst this; simp at hk
  have hk2 : (L.map thg)[k]? = some (thg q) := by rw [List.getElem?_map, hk]; rfl
  refine GX.wR ?_; intros
  refine GX.o (cl (has_spec p ⟨aR, cR, R, some ⟨g, 0, none⟩, cL, L, gone, peak, many, most⟩ _) fun _ => ?_)
  rw [show (thg q).region = q.1 from rfl, h]
  refine GX.wR ?_; intros
  exact rt2 () rfl
end Go.Proofs.Ytomadjefdghliaa
