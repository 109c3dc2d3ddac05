import Derived.Test.YtomadjefdghliaaGreatU9
import Derived.Test.YtomadjefdghliaaGreatU10
import Derived.Test.YtomadjefdghliaaGreatU11
import Derived.Test.YtomadjefdghliaaGreatU12
import Derived.Test.YtomadjefdghliaaGreatU14
import Derived.Test.YtomadjefdghliaaGreatU15
import Derived.Test.YtomadjefdghliaaGreatU24
namespace Go.Proofs.YtomadjefdghliaaGreat
open Go Go.RR Go.RX Go.GX Go.Api Go.RiseM Go.ReachM Go.RtM Go.OneM
attribute [local irreducible] wpList Code.wp wpPlan Exit.then Exit.inBlock bodyPost NoPanic Went GX.Post GX.Again GX.Meet GX.RowR GX.Own GX.Owns GX.Box GX.Sl GX.Pt GX.Ag GX.MapR GX.Kept GX.Pin wpT GoK AtEnd Both
theorem one30_spec (ao : Option Addr) (cap : Nat) (ins : List Ins) : Does Tryz.prog 14 [.slice ao ins.length cap] [Sl tyIns ao cap ins] [] (fun s : List Value => .agg s.toArray) (fun s => [Ag tyRTg s (oneT ins)]) (fun _ => []) := by
 refine enter Tryz.func14 rfl Tryz.ntmps14 rfl fun b => ?_
 refine GX.wR ?_; intros
 exact rt1B id (fun _ => rfl)
theorem one30_tiny {ins : List Ins} (h : OneFew ins) : Tiny (oneT ins) := by
 refine ⟨⟨by show 2 ≤ 80; omega, by show 0 ≤ 20; omega, by show 1 ≤ 20; omega⟩, fun L hL => ?_, fun u hu => ?_⟩
 ·have hL : L = ⟨false, [-2]⟩ ∨ L = ⟨false, [0]⟩ := by simpa [oneT] using hL
  rcases hL with rfl | rfl
  ·show 1 ≤ 20; omega
  ·show 1 ≤ 20; omega
 ·obtain rfl : u = oneU ins := by simpa [oneT] using hu
  exact ⟨⟨by show 3 ≤ 150; omega, h.1, by show 0 ≤ 80; omega, by show 2 ≤ 80; omega⟩, h.2⟩
theorem Tiny.tame {t : RTg} (h : Tiny t) : Tame30 t := ⟨fun u hu => by have := (h.2.2 u hu).1.2.2.2; omega, fun u hu => (h.2.2 u hu).2⟩
def kk : List Ins := [⟨21, 0, 0, 0, 0, [0]⟩, ⟨11, 0, 0, 0, 0, []⟩, ⟨22, 0, 0, 0, 0, [0]⟩, ⟨18, -1, 0, 0, 0, []⟩]
set_option maxRecDepth 10000 in
theorem kk_few : OneFew kk ∧ OneOk kk := by decide +kernel
set_option maxRecDepth 10000 in
theorem kk_run : ranP (oneT kk) [] [] 9 = ⟨⟨1, 0, [], 4⟩, 2, 2, 0, 2, 1, 1⟩ := by decide +kernel
theorem playOne {ins : List Ins} (h : OneOk ins) (inp : List Int) (fuel : Int) : playP (oneT ins) inp fuel = ranP (oneT ins) [] inp fuel := by
 unfold playP
 rw [if_pos (one_right.2 h), one_glob]
theorem known30_spec : Does Tryz.prog 11 [] [] [] (fun _ : Unit => .bool true) (fun _ => []) (fun _ => []) := by
 refine enter Tryz.func11 rfl Tryz.ntmps11 rfl fun b => ?_
 have hT := one30_tiny kk_few.1
 have hp : playP (oneT kk) [] 9 = ⟨⟨1, 0, [], 4⟩, 2, 2, 0, 2, 1, 1⟩ := (playOne kk_few.2 [] 9).trans kk_run
 refine GX.wR ?_; intros
 refine GX.nmB 8 ?_; rintro b8 rfl
 refine GX.o (cl (one30_spec (some ⟨b8, 0, none⟩) 4 kk) fun s => ?_)
 refine GX.wR ?_; intros
 refine slNil Ty.int ?_
 refine GX.o (cl (run_spec s (oneT kk) hT.small hT.tame none 0 [] 9 (by omega)) fun s2 => ?_)
 obtain ⟨y, hy⟩ : ∃ y, y = playP (oneT kk) [] 9 := ⟨_, rfl⟩
 rw [← hy]
 rw [hp] at hy
 have h1 : y.beh.end_ = 1 := by rw [hy]
 have h2 : y.beh.steps = 4 := by rw [hy]
 have h3 : y.made = 2 := by rw [hy]
 have h4 : y.gone = 2 := by rw [hy]
 have h5 : y.live = 0 := by rw [hy]
 have h6 : y.peak = 2 := by rw [hy]
 have h7 : y.most = 1 := by rw [hy]
 have h8 : y.slack = 1 := by rw [hy]
 refine GX.wR ?_; intros
 exact rt1 () (vY h8).symm
end Go.Proofs.YtomadjefdghliaaGreat
namespace Go.Proofs.YtomadjefdghliaaGreat
open Go Go.RR Go.RX Go.GX Go.Api Go.RiseM Go.ReachM Go.RtM
attribute [local irreducible] wpList Code.wp wpPlan Exit.then Exit.inBlock bodyPost NoPanic Went GX.Post GX.Again GX.Meet GX.RowR GX.Own GX.Owns GX.Box GX.Sl GX.Pt GX.Ag GX.MapR GX.Kept GX.Pin wpT GoK AtEnd Both
theorem great30_spec (cs : List Value) (t : RTg) : Does Tryz.prog 7 [.agg cs.toArray] [Ag tyRTg cs t] [] (fun _ : Unit => .bool (decide (¬ Tiny t))) (fun _ => []) (fun _ => []) := by
 refine enter Tryz.func7 rfl Tryz.ntmps7 rfl fun b => ?_
 by_cases h1 : 80 < (t.classes.length : Int)
 ·refine GX.wR ?_; intros
  exact rt1 () (vY fun h => by have := h.1.1; omega)
 by_cases h2 : 20 < (t.globals.length : Int)
 ·refine GX.wR ?_; intros
  exact rt1 () (vY fun h => by have := h.1.2.1; omega)
 by_cases h3 : 20 < (t.units.length : Int)
 ·refine GX.wR ?_; intros
  exact rt1 () (vY fun h => by have := h.1.2.2; omega)
 refine GX.wR ?_; intros
 refine GX.nmP 1 ?_; rintro b1 rfl
 refine GX.loop (σ := Nat) (fun i => [(1, .pointer (some ⟨b1, 0, none⟩)), (3, .int .i64 (i : Int))]) (fun _ => []) (fun _ => [])
  (fun i => i ≤ t.classes.length ∧ ∀ L ∈ t.classes.take i, L.refs.length ≤ 20) (fun i => t.classes.length - i) 0 ⟨rfl, rfl, trivial⟩ ⟨by omega, by simp⟩ (fun i hi => ?_)
 obtain ⟨hi, hA⟩ := hi
 by_cases hlt : i < t.classes.length
 ·obtain ⟨L, hL⟩ := get_lt hlt
  by_cases g1 : 20 < (L.refs.length : Int)
  ·refine GX.wR ?_; intros
   exact rt1 () (vY fun h => by have := h.2.1 L (List.mem_of_getElem? hL); omega)
  ·refine GX.wR ?_; intros
   exact again (i + 1) ⟨rfl, rfl, trivial⟩ ⟨by omega, all_one hL hA (by omega)⟩ (by omega)
 rw [List.take_of_length_le (by omega)] at hA
 clear hi
 refine GX.wR ?_; intros
 refine GX.loop (σ := Nat) (fun i => [(1, .pointer (some ⟨b1, 0, none⟩)), (4, .int .i64 (i : Int))]) (fun _ => []) (fun _ => [])
  (fun i => i ≤ t.units.length ∧ ∀ u ∈ t.units.take i, TinyU u) (fun i => t.units.length - i) 0 ⟨rfl, rfl, trivial⟩ ⟨by omega, by simp⟩ (fun k hk => ?_)
 obtain ⟨hk, hU⟩ := hk
 by_cases hkl : k < t.units.length
 ·obtain ⟨u, hu⟩ := get_lt hkl
  have hm := List.mem_of_getElem? hu
  have no : ¬ TinyU u → ¬ Tiny t := fun h h2 => h (h2.2.2 u hm)
  by_cases g1 : 150 < (u.vars.length : Int)
  ·refine GX.wR ?_; intros
   exact rt1 () (vY (no fun h => by have := h.1.1; omega))
  by_cases g2 : 400 < (u.ins.length : Int)
  ·refine GX.wR ?_; intros
   exact rt1 () (vY (no fun h => by have := h.1.2.1; omega))
  by_cases g3 : 80 < (u.takes.length : Int)
  ·refine GX.wR ?_; intros
   exact rt1 () (vY (no fun h => by have := h.1.2.2.1; omega))
  by_cases g4 : 80 < (u.owns.length : Int)
  ·refine GX.wR ?_; intros
   exact rt1 () (vY (no fun h => by have := h.1.2.2.2; omega))
  refine GX.wR ?_; intros
  refine GX.nmP 5 ?_; rintro b5 rfl
  refine frzB b5 ?_
  refine GX.loop (σ := Nat) (fun i => [(1, .pointer (some ⟨b1, 0, none⟩)), (4, .int .i64 (k : Int)), (5, .pointer (some ⟨b5, 0, none⟩)), (6, .int .i64 (i : Int))]) (fun _ => []) (fun _ => [])
   (fun j => j ≤ u.ins.length ∧ ∀ i ∈ u.ins.take j, i.args.length ≤ 80) (fun j => u.ins.length - j) 0 ⟨rfl, rfl, rfl, rfl, trivial⟩ ⟨by omega, by simp⟩ (fun j hj => ?_)
  obtain ⟨hj, hI⟩ := hj
  by_cases hjl : j < u.ins.length
  ·obtain ⟨x, hx⟩ := get_lt hjl
   by_cases g5 : 80 < (x.args.length : Int)
   ·refine GX.wR ?_; intros
    exact rt1 () (vY (no fun h => by have := h.2 x (List.mem_of_getElem? hx); omega))
   ·refine GX.wR ?_; intros
    exact again (j + 1) ⟨rfl, rfl, rfl, rfl, trivial⟩ ⟨by omega, all_one hx hI (by omega)⟩ (by omega)
  ·rw [List.take_of_length_le (by omega)] at hI
   refine GX.wR ?_; intros
   exact again (k + 1) ⟨rfl, rfl, trivial⟩ ⟨by omega, all_one hu hU ⟨by omega, hI⟩⟩ (by omega)
 rw [List.take_of_length_le (by omega)] at hU
 refine GX.wR ?_; intros
 exact rt1 () (vN (Classical.not_not.2 ⟨by omega, hA, hU⟩))
end Go.Proofs.YtomadjefdghliaaGreat
namespace Go.Proofs.YtomadjefdghliaaGreat
open Go Go.RR Go.RX Go.GX
attribute [local irreducible] wpList Code.wp wpPlan Exit.then Exit.inBlock bodyPost NoPanic Went GX.Post GX.Again GX.Meet GX.RowR GX.Own GX.Owns GX.Box GX.Sl GX.Pt GX.Ag GX.MapR GX.Kept GX.Pin wpT GoK AtEnd Both
theorem take_eq_succ10 {α : Type} {xs ys : List α} {i : Nat} {x : α} (h : xs.take i = ys.take i) (hx : xs[i]? = some x) (hy : ys[i]? = some x) : xs.take (i + 1) = ys.take (i + 1) := by
 rw [List.take_add_one, List.take_add_one, h, hx, hy]
theorem ints10_same (ao1 ao2 : Option Addr) (cap1 cap2 : Nat) (xs ys : List Int) : Does Tryz.prog 15 [.slice ao1 xs.length cap1, .slice ao2 ys.length cap2] [Sl Ty.int ao1 cap1 xs, Sl Ty.int ao2 cap2 ys] []
  (fun _ : Unit => .bool (decide (xs = ys))) (fun _ => []) (fun _ => []) := by
 refine enter Tryz.func15 rfl Tryz.ntmps15 rfl fun b => ?_
 refine sln ao1 fun h1 h2 _ => ?_
 by_cases hl : xs.length = ys.length
 ·refine GX.wR ?_; intros
  refine GX.loop (σ := Nat) (fun i => [(0, .slice ao1 xs.length cap1), (1, .slice ao2 ys.length cap2), (5, .int .i64 (i : Int))]) (fun _ => []) (fun _ => [])
   (fun i => i ≤ xs.length ∧ xs.take i = ys.take i) (fun i => xs.length - i) 0 ⟨rfl, rfl, rfl, trivial⟩ ⟨by omega, by simp⟩ (fun i hi => ?_)
  obtain ⟨hi, ht⟩ := hi
  by_cases hlt : i < xs.length
  ·obtain ⟨x, hx⟩ := get_lt hlt
   obtain ⟨y, hy⟩ := get_lt (show i < ys.length by omega)
   by_cases hxy : x = y
   ·refine GX.wR ?_; intros
    refine GX.drawn0  (fun j => !(List.contains [] j)) [(0, true), (1, true), (2, true), (3, true), (4, true), (5, true), (6, true), (7, true), (8, true)] rfl (by kernel_rfl) (by kernel_rfl) GX.sA ?_; intro wd F hW hR
    refine GX.wT ?_; intros
    refine GX.wR ?_; intros
    subst hxy
    exact again (i + 1) ⟨rfl, rfl, rfl, trivial⟩ ⟨by omega, take_eq_succ10 ht hx hy⟩ (by omega)
   ·refine GX.wR ?_; intros
    refine GX.drawn0  (fun j => !(List.contains [] j)) [(0, true), (1, true), (2, true), (3, true), (4, true), (5, true), (6, true), (7, true), (8, true)] rfl (by kernel_rfl) (by kernel_rfl) GX.sA ?_; intro wd F hW hR
    refine GX.wT ?_; intros
    refine GX.wR ?_; intros
    have he : decide (xs = ys) = false := decide_eq_false fun e => hxy (by subst e; rw [hx] at hy; exact Option.some.inj hy)
    exact rt1 () (congrArg Value.bool he)
  ·have hil : i = xs.length := by omega
   subst hil
   refine GX.wR ?_; intros
   have he : decide (xs = ys) = true := by
    rw [List.take_length, hl, List.take_length] at ht
    exact decide_eq_true ht
   exact rt1 () (congrArg Value.bool he)
 ·refine GX.wR ?_; intros
  have he : decide (xs = ys) = false := decide_eq_false fun e => hl (by rw [e])
  exact rt1 () (congrArg Value.bool he)
end Go.Proofs.YtomadjefdghliaaGreat
namespace Go.Proofs.YtomadjefdghliaaGreat
open Go Go.RR Go.RX Go.GX Go.Api Go.RiseM Go.ReachM Go.RtM
attribute [local irreducible] wpList Code.wp wpPlan Exit.then Exit.inBlock bodyPost NoPanic Went GX.Post GX.Again GX.Meet GX.RowR GX.Own GX.Owns GX.Box GX.Sl GX.Pt GX.Ag GX.MapR GX.Kept GX.Pin wpT GoK AtEnd Both
theorem same10_spec (c1 c2 : List Value) (x y : Api.Beh) : Does Tryz.prog 16 [.agg c1.toArray, .agg c2.toArray] [Ag tyBeh c1 x, Ag tyBeh c2 y] [] (fun _ : Unit => .bool (decide (x = y))) (fun _ => []) (fun _ => []) := by
 refine enter Tryz.func16 rfl Tryz.ntmps16 rfl fun b => ?_
 obtain ⟨e1, d1, o1, s1⟩ := x
 obtain ⟨e2, d2, o2, s2⟩ := y
 by_cases h1 : e1 = e2
 ·by_cases h2 : d1 = d2
  ·by_cases h3 : s1 = s2
   ·refine GX.wR ?_; intros
    refine GX.nmS 26 ?_; rintro a26 c26 rfl rfl
    refine GX.nmS 28 ?_; rintro a28 c28 rfl rfl
    refine GX.o (cl (ints10_same a26 a28 c26 c28 o1 o2) fun _ => ?_)
    refine GX.wR ?_; intros
    refine rt1 () ?_
    congr 1
    rw [decide_eq_decide]
    subst h1 h2 h3
    simp
   ·refine GX.wR ?_; intros
    exact rt1 () (vN fun h => h3 (by injection h))
  ·refine GX.wR ?_; intros
   exact rt1 () (vN fun h => h2 (by injection h))
 ·refine GX.wR ?_; intros
  exact rt1 () (vN fun h => h1 (by injection h))
theorem same29_spec30 (c1 c2 : List Value) (x y : Api.Ran) : Does Tryz.prog 8 [.agg c1.toArray, .agg c2.toArray] [Ag tyRan c1 x, Ag tyRan c2 y] [] (fun _ : Unit => .bool (decide (x = y))) (fun _ => []) (fun _ => []) := by
 refine enter Tryz.func8 rfl Tryz.ntmps8 rfl fun b => ?_
 obtain ⟨b1, m1, g1, l1, p1, s1, t1⟩ := x
 obtain ⟨b2, m2, g2, l2, p2, s2, t2⟩ := y
 refine GX.wR ?_; intros
 refine GX.nmA 6 ?_; rintro c6 rfl
 refine GX.nmA 8 ?_; rintro c8 rfl
 refine GX.o (cl (same10_spec c6 c8 b1 b2) fun _ => ?_)
 by_cases h0 : b1 = b2
 ·by_cases h1 : m1 = m2
  ·by_cases h2 : g1 = g2
   ·by_cases h3 : l1 = l2
    ·by_cases h4 : p1 = p2
     ·by_cases h5 : s1 = s2
      ·refine GX.wR ?_; intros
       refine rt1 () ?_
       congr 1
       rw [decide_eq_decide]
       subst h0 h1 h2 h3 h4 h5
       simp
      ·refine GX.wR ?_; intros
       exact rt1 () (vN fun h => h5 (by injection h))
     ·refine GX.wR ?_; intros
      exact rt1 () (vN fun h => h4 (by injection h))
    ·refine GX.wR ?_; intros
     exact rt1 () (vN fun h => h3 (by injection h))
   ·refine GX.wR ?_; intros
    exact rt1 () (vN fun h => h2 (by injection h))
  ·refine GX.wR ?_; intros
   exact rt1 () (vN fun h => h1 (by injection h))
 ·refine GX.wR ?_; intros
  exact rt1 () (vN fun h => h0 (by injection h))
end Go.Proofs.YtomadjefdghliaaGreat
namespace Go.Proofs.YtomadjefdghliaaGreat
open Go Go.RR Go.RX Go.GX Go.Api
attribute [local irreducible] wpList Code.wp wpPlan Exit.then Exit.inBlock bodyPost NoPanic Went GX.Post GX.Again GX.Meet GX.RowR GX.Own GX.Owns GX.Box GX.Sl GX.Pt GX.Ag GX.MapR GX.Kept GX.Pin wpT GoK AtEnd Both
instance : UTy Tryz.prog 139 tyThing ⟨0, none, 0, 0⟩ (.agg #[.int .i64 0, .slice none 0 0]) := ⟨Tryz.zeroValue139, fun F w => co_rd (pair_rd (c1 := [_]) rfl num_rd (pair_rd (c1 := [_]) rfl hdr_rd unit_rd))⟩
end Go.Proofs.YtomadjefdghliaaGreat
namespace Go.Proofs.YtomadjefdghliaaGreat
open Go Go.RR Go.RX Go.GX Go.Api Go.RtM
attribute [local irreducible] wpList Code.wp wpPlan Exit.then Exit.inBlock bodyPost NoPanic Went GX.Post GX.Again GX.Meet GX.RowR GX.Own GX.Owns GX.Box GX.Sl GX.Pt GX.Ag GX.MapR GX.Kept GX.Pin wpT GoK AtEnd Both
theorem mhas_spec (tm : RTg) (km : MK) (vm : MV) (p : Nat) (c : RefC) (r : Int) : Does Tryz.prog 118 [.pointer (some ⟨p, 6, none⟩), .int .i64 r] [] [RowR p 74 [.slice km.aC tm.classes.length km.cC, .slice km.aG tm.globals.length km.cG, .slice km.aU tm.units.length km.cU, .int .i64 tm.main, .slice km.aL (glob tm).length km.cL, .slice vm.ai vm.ni vm.ci, .slice c.aR c.B.length c.cR, .slice c.aL c.L.length c.cL, .int .i64 c.peak, .int .i64 c.most, .slice (some ⟨km.gb, 0, none⟩) tm.globals.length tm.globals.length, .slice vm.af vm.nf vm.cf, .int .i64 vm.en, .int .i64 vm.code, .slice vm.ao vm.no vm.co, .int .i64 vm.steps, .int .i64 vm.slack], GX.Own 4 Ty.bool c.aR c.cR c.B, GX.Own 139 tyThing c.aL c.cL (c.L.map thg), Owns 3 Ty.int (c.L.map (fun x : Th => x.2))] (fun _ : Unit => .bool (hasB c.B r)) (fun _ => []) (fun _ => [RowR p 74 [.slice km.aC tm.classes.length km.cC, .slice km.aG tm.globals.length km.cG, .slice km.aU tm.units.length km.cU, .int .i64 tm.main, .slice km.aL (glob tm).length km.cL, .slice vm.ai vm.ni vm.ci, .slice c.aR c.B.length c.cR, .slice c.aL c.L.length c.cL, .int .i64 c.peak, .int .i64 c.most, .slice (some ⟨km.gb, 0, none⟩) tm.globals.length tm.globals.length, .slice vm.af vm.nf vm.cf, .int .i64 vm.en, .int .i64 vm.code, .slice vm.ao vm.no vm.co, .int .i64 vm.steps, .int .i64 vm.slack], GX.Own 4 Ty.bool c.aR c.cR c.B, GX.Own 139 tyThing c.aL c.cL (c.L.map thg), Owns 3 Ty.int (c.L.map (fun x : Th => x.2))]) := by
 refine enter Tryz.func118 rfl Tryz.ntmps118 rfl fun b => ?_
 by_cases h1 : r < 1
 ·refine GX.wR ?_; intros
  refine rt1 () (by rw [hasB_neg h1])
 by_cases h2 : (c.B.length : Int) < r
 ·refine GX.wR ?_; intros
  refine rt1 () (by rw [hasB_big h2])
 obtain ⟨j, rfl⟩ : ∃ j : Nat, r = (j : Int) + 1 := ⟨(r - 1).toNat, by omega⟩
 obtain ⟨y, hy⟩ : ∃ y, c.B[j]? = some y := ⟨_, List.getElem?_eq_getElem (by omega)⟩
 obtain ⟨aR, cR, B, aL, cL, L, peak, most⟩ := c
 dsimp only at *
 refine GX.opn aR fun _ _ ha => ?_
 obtain ⟨rfl, _⟩ | ⟨q, rfl⟩ := ha
 ·simp at hy
 refine GX.wR ?_; intros
 refine rt1 () (by rw [hasB_in hy])
theorem mlive_spec (tm : RTg) (km : MK) (vm : MV) (p : Nat) (c : RefC) (hl : c.B.length ≤ 1000000000) : Does Tryz.prog 70 [.pointer (some ⟨p, 6, none⟩)] [] [RowR p 74 [.slice km.aC tm.classes.length km.cC, .slice km.aG tm.globals.length km.cG, .slice km.aU tm.units.length km.cU, .int .i64 tm.main, .slice km.aL (glob tm).length km.cL, .slice vm.ai vm.ni vm.ci, .slice c.aR c.B.length c.cR, .slice c.aL c.L.length c.cL, .int .i64 c.peak, .int .i64 c.most, .slice (some ⟨km.gb, 0, none⟩) tm.globals.length tm.globals.length, .slice vm.af vm.nf vm.cf, .int .i64 vm.en, .int .i64 vm.code, .slice vm.ao vm.no vm.co, .int .i64 vm.steps, .int .i64 vm.slack], GX.Own 4 Ty.bool c.aR c.cR c.B, GX.Own 139 tyThing c.aL c.cL (c.L.map thg), Owns 3 Ty.int (c.L.map (fun x : Th => x.2))] (fun _ : Unit => .int .i64 (liveN c.B : Int)) (fun _ => []) (fun _ => [RowR p 74 [.slice km.aC tm.classes.length km.cC, .slice km.aG tm.globals.length km.cG, .slice km.aU tm.units.length km.cU, .int .i64 tm.main, .slice km.aL (glob tm).length km.cL, .slice vm.ai vm.ni vm.ci, .slice c.aR c.B.length c.cR, .slice c.aL c.L.length c.cL, .int .i64 c.peak, .int .i64 c.most, .slice (some ⟨km.gb, 0, none⟩) tm.globals.length tm.globals.length, .slice vm.af vm.nf vm.cf, .int .i64 vm.en, .int .i64 vm.code, .slice vm.ao vm.no vm.co, .int .i64 vm.steps, .int .i64 vm.slack], GX.Own 4 Ty.bool c.aR c.cR c.B, GX.Own 139 tyThing c.aL c.cL (c.L.map thg), Owns 3 Ty.int (c.L.map (fun x : Th => x.2))]) := by
 refine enter Tryz.func70 rfl Tryz.ntmps70 rfl fun b => ?_
 refine GX.wR ?_; intros
 refine GX.loop (σ := Nat) (fun i => [(0, .pointer (some ⟨p, 6, none⟩)), (3, .int .i64 (((c.B.take i).countP id : Nat) : Int)), (4, .int .i64 (i : Int))]) (fun _ => []) (fun _ => [RowR p 74 [.slice km.aC tm.classes.length km.cC, .slice km.aG tm.globals.length km.cG, .slice km.aU tm.units.length km.cU, .int .i64 tm.main, .slice km.aL (glob tm).length km.cL, .slice vm.ai vm.ni vm.ci, .slice c.aR c.B.length c.cR, .slice c.aL c.L.length c.cL, .int .i64 c.peak, .int .i64 c.most, .slice (some ⟨km.gb, 0, none⟩) tm.globals.length tm.globals.length, .slice vm.af vm.nf vm.cf, .int .i64 vm.en, .int .i64 vm.code, .slice vm.ao vm.no vm.co, .int .i64 vm.steps, .int .i64 vm.slack], GX.Own 4 Ty.bool c.aR c.cR c.B, GX.Own 139 tyThing c.aL c.cL (c.L.map thg), Owns 3 Ty.int (c.L.map (fun x : Th => x.2))]) (fun i => i ≤ c.B.length) (fun i => c.B.length - i) 0 ⟨rfl, rfl, rfl, trivial⟩ (by omega) (fun i hi => ?_)
 by_cases h : i < c.B.length
 ·obtain ⟨x, hx⟩ : ∃ x, c.B[i]? = some x := ⟨_, List.getElem?_eq_getElem h⟩
  have ht := take_one hx
  have hcl : (c.B.take i).countP id ≤ (c.B.take i).length := List.countP_le_length
  have htl : (c.B.take i).length = i := by simp; omega
  obtain ⟨aR, cR, B, aL, cL, L, peak, most⟩ := c
  dsimp only at *
  refine GX.opn aR fun _ _ ha => ?_
  obtain ⟨rfl, _⟩ | ⟨q, rfl⟩ := ha
  ·simp at hx
  cases x
  ·have hc : (B.take (i + 1)).countP id = (B.take i).countP id := by rw [ht]; simp
   refine GX.wR ?_; intros
   exact again (i + 1) ⟨rfl, by rw [hc]; rfl, rfl, trivial⟩ (by omega) (by omega)
  ·have hc : (B.take (i + 1)).countP id = (B.take i).countP id + 1 := by rw [ht]; simp
   refine GX.wR ?_; intros
   exact again (i + 1) ⟨rfl, by rw [hc]; rfl, rfl, trivial⟩ (by omega) (by omega)
 ·have hi' : i = c.B.length := by omega
  subst hi'
  refine GX.wR ?_; intros
  rw [List.take_length]
  exact rt1 () rfl
theorem mnow_spec (tm : RTg) (km : MK) (vm : MV) (p : Nat) (c : RefC) (hl : c.L.length ≤ 1000000000) : Does Tryz.prog 155 [.pointer (some ⟨p, 6, none⟩)] [] [RowR p 74 [.slice km.aC tm.classes.length km.cC, .slice km.aG tm.globals.length km.cG, .slice km.aU tm.units.length km.cU, .int .i64 tm.main, .slice km.aL (glob tm).length km.cL, .slice vm.ai vm.ni vm.ci, .slice c.aR c.B.length c.cR, .slice c.aL c.L.length c.cL, .int .i64 c.peak, .int .i64 c.most, .slice (some ⟨km.gb, 0, none⟩) tm.globals.length tm.globals.length, .slice vm.af vm.nf vm.cf, .int .i64 vm.en, .int .i64 vm.code, .slice vm.ao vm.no vm.co, .int .i64 vm.steps, .int .i64 vm.slack], GX.Own 4 Ty.bool c.aR c.cR c.B, GX.Own 139 tyThing c.aL c.cL (c.L.map thg), Owns 3 Ty.int (c.L.map (fun x : Th => x.2))] (fun _ : Unit => .int .i64 (nowN c.B (c.L.map row) : Int)) (fun _ => []) (fun _ => [RowR p 74 [.slice km.aC tm.classes.length km.cC, .slice km.aG tm.globals.length km.cG, .slice km.aU tm.units.length km.cU, .int .i64 tm.main, .slice km.aL (glob tm).length km.cL, .slice vm.ai vm.ni vm.ci, .slice c.aR c.B.length c.cR, .slice c.aL c.L.length c.cL, .int .i64 c.peak, .int .i64 c.most, .slice (some ⟨km.gb, 0, none⟩) tm.globals.length tm.globals.length, .slice vm.af vm.nf vm.cf, .int .i64 vm.en, .int .i64 vm.code, .slice vm.ao vm.no vm.co, .int .i64 vm.steps, .int .i64 vm.slack], GX.Own 4 Ty.bool c.aR c.cR c.B, GX.Own 139 tyThing c.aL c.cL (c.L.map thg), Owns 3 Ty.int (c.L.map (fun x : Th => x.2))]) := by
 refine enter Tryz.func155 rfl Tryz.ntmps155 rfl fun b => ?_
 refine GX.wR ?_; intros
 refine GX.loop (σ := Nat) (fun i => [(0, .pointer (some ⟨p, 6, none⟩)), (3, .int .i64 ((nowN c.B ((c.L.map row).take i) : Nat) : Int)), (4, .int .i64 (i : Int))]) (fun _ => []) (fun _ => [RowR p 74 [.slice km.aC tm.classes.length km.cC, .slice km.aG tm.globals.length km.cG, .slice km.aU tm.units.length km.cU, .int .i64 tm.main, .slice km.aL (glob tm).length km.cL, .slice vm.ai vm.ni vm.ci, .slice c.aR c.B.length c.cR, .slice c.aL c.L.length c.cL, .int .i64 c.peak, .int .i64 c.most, .slice (some ⟨km.gb, 0, none⟩) tm.globals.length tm.globals.length, .slice vm.af vm.nf vm.cf, .int .i64 vm.en, .int .i64 vm.code, .slice vm.ao vm.no vm.co, .int .i64 vm.steps, .int .i64 vm.slack], GX.Own 4 Ty.bool c.aR c.cR c.B, GX.Own 139 tyThing c.aL c.cL (c.L.map thg), Owns 3 Ty.int (c.L.map (fun x : Th => x.2))]) (fun i => i ≤ c.L.length) (fun i => c.L.length - i) 0 ⟨rfl, rfl, rfl, trivial⟩ (by omega) (fun i hi => ?_)
 by_cases h : i < c.L.length
 ·obtain ⟨x, hx⟩ : ∃ x, c.L[i]? = some x := ⟨_, List.getElem?_eq_getElem h⟩
  have ht := take_one (show (c.L.map row)[i]? = some (row x) by rw [List.getElem?_map, hx]; rfl)
  have hcl : nowN c.B ((c.L.map row).take i) ≤ ((c.L.map row).take i).length := List.countP_le_length
  have htl : ((c.L.map row).take i).length = i := by simp; omega
  have hx2 : (c.L.map thg)[i]? = some (thg x) := by rw [List.getElem?_map, hx]; rfl
  obtain ⟨aR, cR, B, aL, cL, L, peak, most⟩ := c
  dsimp only at *
  refine GX.opn aL fun _ _ ha => ?_
  obtain ⟨hn, _⟩ | ⟨q, rfl⟩ := ha
  ·have : L = [] := by simpa using hn
   subst this; simp at hx
  cases hh : hasB B x.1
  ·have hc : nowN B ((L.map row).take (i + 1)) = nowN B ((L.map row).take i) := by unfold nowN; rw [ht, List.countP_append]; simp [row, hh]
   refine GX.wR ?_; intros
   refine GX.o (cl (mhas_spec tm km vm p ⟨aR, cR, B, some ⟨q, 0, none⟩, cL, L, peak, most⟩ _) fun _ => ?_)
   rw [show (thg x).region = x.1 from rfl, hh]
   refine GX.wR ?_; intros
   exact again (i + 1) ⟨rfl, by rw [hc]; rfl, rfl, trivial⟩ (by omega) (by omega)
  ·have hc : nowN B ((L.map row).take (i + 1)) = nowN B ((L.map row).take i) + 1 := by unfold nowN; rw [ht, List.countP_append]; simp [row, hh]
   refine GX.wR ?_; intros
   refine GX.o (cl (mhas_spec tm km vm p ⟨aR, cR, B, some ⟨q, 0, none⟩, cL, L, peak, most⟩ _) fun _ => ?_)
   rw [show (thg x).region = x.1 from rfl, hh]
   refine GX.wR ?_; intros
   exact again (i + 1) ⟨rfl, by rw [hc]; rfl, rfl, trivial⟩ (by omega) (by omega)
 ·have hi' : i = (c.L.map row).length := by simp; omega
  rw [hi', List.take_length]
  have hlm : (c.L.map row).length = c.L.length := by simp
  refine GX.wR ?_; intros
  exact rt1 () rfl
theorem mmake_spec (tm : RTg) (km : MK) (vm : MV) (p : Nat) (c : RefC) (hl : c.B.length < 1000000000) : Does Tryz.prog 30 [.pointer (some ⟨p, 6, none⟩)] [] [RowR p 74 [.slice km.aC tm.classes.length km.cC, .slice km.aG tm.globals.length km.cG, .slice km.aU tm.units.length km.cU, .int .i64 tm.main, .slice km.aL (glob tm).length km.cL, .slice vm.ai vm.ni vm.ci, .slice c.aR c.B.length c.cR, .slice c.aL c.L.length c.cL, .int .i64 c.peak, .int .i64 c.most, .slice (some ⟨km.gb, 0, none⟩) tm.globals.length tm.globals.length, .slice vm.af vm.nf vm.cf, .int .i64 vm.en, .int .i64 vm.code, .slice vm.ao vm.no vm.co, .int .i64 vm.steps, .int .i64 vm.slack], GX.Own 4 Ty.bool c.aR c.cR c.B, GX.Own 139 tyThing c.aL c.cL (c.L.map thg), Owns 3 Ty.int (c.L.map (fun x : Th => x.2))] (fun _ : Option Addr × Nat => .int .i64 ((c.B.length + 1 : Nat) : Int)) (fun _ => [])
  (fun s => [RowR p 74 [.slice km.aC tm.classes.length km.cC, .slice km.aG tm.globals.length km.cG, .slice km.aU tm.units.length km.cU, .int .i64 tm.main, .slice km.aL (glob tm).length km.cL, .slice vm.ai vm.ni vm.ci, .slice s.1 (c.B ++ [true]).length s.2, .slice c.aL c.L.length c.cL, .int .i64 (max c.peak (liveN (c.B ++ [true]) : Int)), .int .i64 c.most, .slice (some ⟨km.gb, 0, none⟩) tm.globals.length tm.globals.length, .slice vm.af vm.nf vm.cf, .int .i64 vm.en, .int .i64 vm.code, .slice vm.ao vm.no vm.co, .int .i64 vm.steps, .int .i64 vm.slack], GX.Own 4 Ty.bool s.1 s.2 (c.B ++ [true]), GX.Own 139 tyThing c.aL c.cL (c.L.map thg), Owns 3 Ty.int (c.L.map (fun x : Th => x.2))]) := by
 refine enter Tryz.func30 rfl Tryz.ntmps30 rfl fun b => ?_
 obtain ⟨aR, cR, B, aL, cL, L, peak, most⟩ := c
 dsimp only at *
 refine GX.wR ?_; intros
 rename_i ao cap
 have hlen : (B ++ [true]).length = B.length + 1 := by simp
 refine GX.drawnE [RowR p 74 _] (fun j => !(List.contains [10] j)) [(0, true), (1, true), (2, true), (3, true), (4, true), (5, true), (6, false), (7, true), (8, true), (9, true), (10, false)] rfl (by kernel_rfl) (by kernel_rfl) GX.sA ?_; intro wd F hW hR
 refine GX.wT ?_; intros
 refine GX.gow ?_
 refine cl (mlive_spec tm km vm p ⟨ao, cap, B ++ [true], aL, cL, L, peak, most⟩ (by dsimp only; omega)) fun _ => ?_
 refine GX.wT ?_; intros
 refine GX.wR ?_; intros
 rw [hlen]
 exact rt1 (ao, cap) rfl
theorem mrem_no (tm : RTg) (km : MK) (vm : MV) (p : Nat) (c : RefC) (r : Int) (h : hasB c.B r = false) : Does Tryz.prog 80 [.pointer (some ⟨p, 6, none⟩), .int .i64 r] [] [RowR p 74 [.slice km.aC tm.classes.length km.cC, .slice km.aG tm.globals.length km.cG, .slice km.aU tm.units.length km.cU, .int .i64 tm.main, .slice km.aL (glob tm).length km.cL, .slice vm.ai vm.ni vm.ci, .slice c.aR c.B.length c.cR, .slice c.aL c.L.length c.cL, .int .i64 c.peak, .int .i64 c.most, .slice (some ⟨km.gb, 0, none⟩) tm.globals.length tm.globals.length, .slice vm.af vm.nf vm.cf, .int .i64 vm.en, .int .i64 vm.code, .slice vm.ao vm.no vm.co, .int .i64 vm.steps, .int .i64 vm.slack], GX.Own 4 Ty.bool c.aR c.cR c.B, GX.Own 139 tyThing c.aL c.cL (c.L.map thg), Owns 3 Ty.int (c.L.map (fun x : Th => x.2))] (fun _ : Unit => .bool false) (fun _ => []) (fun _ => [RowR p 74 [.slice km.aC tm.classes.length km.cC, .slice km.aG tm.globals.length km.cG, .slice km.aU tm.units.length km.cU, .int .i64 tm.main, .slice km.aL (glob tm).length km.cL, .slice vm.ai vm.ni vm.ci, .slice c.aR c.B.length c.cR, .slice c.aL c.L.length c.cL, .int .i64 c.peak, .int .i64 c.most, .slice (some ⟨km.gb, 0, none⟩) tm.globals.length tm.globals.length, .slice vm.af vm.nf vm.cf, .int .i64 vm.en, .int .i64 vm.code, .slice vm.ao vm.no vm.co, .int .i64 vm.steps, .int .i64 vm.slack], GX.Own 4 Ty.bool c.aR c.cR c.B, GX.Own 139 tyThing c.aL c.cL (c.L.map thg), Owns 3 Ty.int (c.L.map (fun x : Th => x.2))]) := by
 refine enter Tryz.func80 rfl Tryz.ntmps80 rfl fun b => ?_
 refine GX.wR ?_; intros
 refine GX.o (cl (mhas_spec tm km vm p c r) fun _ => ?_)
 rw [h]
 refine GX.wR ?_; intros
 exact rt1 () rfl
theorem mrem_yes (tm : RTg) (km : MK) (vm : MV) (p : Nat) (c : RefC) (k : Nat) (hk : c.B[k]? = some true) : Does Tryz.prog 80 [.pointer (some ⟨p, 6, none⟩), .int .i64 ((k : Int) + 1)] [] [RowR p 74 [.slice km.aC tm.classes.length km.cC, .slice km.aG tm.globals.length km.cG, .slice km.aU tm.units.length km.cU, .int .i64 tm.main, .slice km.aL (glob tm).length km.cL, .slice vm.ai vm.ni vm.ci, .slice c.aR c.B.length c.cR, .slice c.aL c.L.length c.cL, .int .i64 c.peak, .int .i64 c.most, .slice (some ⟨km.gb, 0, none⟩) tm.globals.length tm.globals.length, .slice vm.af vm.nf vm.cf, .int .i64 vm.en, .int .i64 vm.code, .slice vm.ao vm.no vm.co, .int .i64 vm.steps, .int .i64 vm.slack], GX.Own 4 Ty.bool c.aR c.cR c.B, GX.Own 139 tyThing c.aL c.cL (c.L.map thg), Owns 3 Ty.int (c.L.map (fun x : Th => x.2))] (fun _ : Unit => .bool true) (fun _ => []) (fun _ => [RowR p 74 [.slice km.aC tm.classes.length km.cC, .slice km.aG tm.globals.length km.cG, .slice km.aU tm.units.length km.cU, .int .i64 tm.main, .slice km.aL (glob tm).length km.cL, .slice vm.ai vm.ni vm.ci, .slice c.aR (c.B.set k false).length c.cR, .slice c.aL c.L.length c.cL, .int .i64 c.peak, .int .i64 c.most, .slice (some ⟨km.gb, 0, none⟩) tm.globals.length tm.globals.length, .slice vm.af vm.nf vm.cf, .int .i64 vm.en, .int .i64 vm.code, .slice vm.ao vm.no vm.co, .int .i64 vm.steps, .int .i64 vm.slack], GX.Own 4 Ty.bool c.aR c.cR (c.B.set k false), GX.Own 139 tyThing c.aL c.cL (c.L.map thg), Owns 3 Ty.int (c.L.map (fun x : Th => x.2))]) := by
 have hh := hasB_in hk
 have hkl : k < c.B.length := (List.getElem?_eq_some_iff.1 hk).1
 refine enter Tryz.func80 rfl Tryz.ntmps80 rfl fun b => ?_
 refine GX.wR ?_; intros
 refine GX.o (cl (mhas_spec tm km vm p c _) fun _ => ?_)
 rw [hh]
 obtain ⟨aR, cR, B, aL, cL, L, peak, most⟩ := c
 dsimp only at *
 refine GX.opn aR fun _ _ ha => ?_
 obtain ⟨rfl, _⟩ | ⟨q, rfl⟩ := ha
 ·simp at hk
 refine GX.wR ?_; intros
 rw [List.length_set]
 exact rt1 () rfl
theorem madd_no (tm : RTg) (km : MK) (vm : MV) (p : Nat) (c : RefC) (r n : Int) (h : hasB c.B r = false) : Does Tryz.prog 140 [.pointer (some ⟨p, 6, none⟩), .int .i64 r, .int .i64 n] [] [RowR p 74 [.slice km.aC tm.classes.length km.cC, .slice km.aG tm.globals.length km.cG, .slice km.aU tm.units.length km.cU, .int .i64 tm.main, .slice km.aL (glob tm).length km.cL, .slice vm.ai vm.ni vm.ci, .slice c.aR c.B.length c.cR, .slice c.aL c.L.length c.cL, .int .i64 c.peak, .int .i64 c.most, .slice (some ⟨km.gb, 0, none⟩) tm.globals.length tm.globals.length, .slice vm.af vm.nf vm.cf, .int .i64 vm.en, .int .i64 vm.code, .slice vm.ao vm.no vm.co, .int .i64 vm.steps, .int .i64 vm.slack], GX.Own 4 Ty.bool c.aR c.cR c.B, GX.Own 139 tyThing c.aL c.cL (c.L.map thg), Owns 3 Ty.int (c.L.map (fun x : Th => x.2))] (fun _ : Unit => .tuple #[.int .i64 0, .bool false]) (fun _ => []) (fun _ => [RowR p 74 [.slice km.aC tm.classes.length km.cC, .slice km.aG tm.globals.length km.cG, .slice km.aU tm.units.length km.cU, .int .i64 tm.main, .slice km.aL (glob tm).length km.cL, .slice vm.ai vm.ni vm.ci, .slice c.aR c.B.length c.cR, .slice c.aL c.L.length c.cL, .int .i64 c.peak, .int .i64 c.most, .slice (some ⟨km.gb, 0, none⟩) tm.globals.length tm.globals.length, .slice vm.af vm.nf vm.cf, .int .i64 vm.en, .int .i64 vm.code, .slice vm.ao vm.no vm.co, .int .i64 vm.steps, .int .i64 vm.slack], GX.Own 4 Ty.bool c.aR c.cR c.B, GX.Own 139 tyThing c.aL c.cL (c.L.map thg), Owns 3 Ty.int (c.L.map (fun x : Th => x.2))]) := by
 refine enter Tryz.func140 rfl Tryz.ntmps140 rfl fun b => ?_
 refine GX.wR ?_; intros
 refine GX.o (cl (mhas_spec tm km vm p c r) fun _ => ?_)
 rw [h]
 refine GX.wR ?_; intros
 exact rt2 () rfl
theorem madd_yes (tm : RTg) (km : MK) (vm : MV) (p : Nat) (c : RefC) (r n : Int) (h : hasB c.B r = true) (hl : c.L.length < 1000000000) :
  Does Tryz.prog 140 [.pointer (some ⟨p, 6, none⟩), .int .i64 r, .int .i64 n] [] [RowR p 74 [.slice km.aC tm.classes.length km.cC, .slice km.aG tm.globals.length km.cG, .slice km.aU tm.units.length km.cU, .int .i64 tm.main, .slice km.aL (glob tm).length km.cL, .slice vm.ai vm.ni vm.ci, .slice c.aR c.B.length c.cR, .slice c.aL c.L.length c.cL, .int .i64 c.peak, .int .i64 c.most, .slice (some ⟨km.gb, 0, none⟩) tm.globals.length tm.globals.length, .slice vm.af vm.nf vm.cf, .int .i64 vm.en, .int .i64 vm.code, .slice vm.ao vm.no vm.co, .int .i64 vm.steps, .int .i64 vm.slack], GX.Own 4 Ty.bool c.aR c.cR c.B, GX.Own 139 tyThing c.aL c.cL (c.L.map thg), Owns 3 Ty.int (c.L.map (fun x : Th => x.2))] (fun _ : Nat × Option Addr × Nat => .tuple #[.int .i64 ((c.L.length + 1 : Nat) : Int), .bool true]) (fun _ => [])
   (fun s => [RowR p 74 [.slice km.aC tm.classes.length km.cC, .slice km.aG tm.globals.length km.cG, .slice km.aU tm.units.length km.cU, .int .i64 tm.main, .slice km.aL (glob tm).length km.cL, .slice vm.ai vm.ni vm.ci, .slice c.aR c.B.length c.cR, .slice s.2.1 (RefC.mk c.aR c.cR c.B s.2.1 s.2.2 (c.L ++ [(r, some ⟨s.1, 0, none⟩, cells n, List.replicate (cells n) 0)]) c.peak (max c.most (nowN c.B (c.L.map row ++ [(r, List.replicate (cells n) 0)]) : Int))).L.length s.2.2, .int .i64 c.peak, .int .i64 (max c.most (nowN c.B (c.L.map row ++ [(r, List.replicate (cells n) 0)]) : Int)), .slice (some ⟨km.gb, 0, none⟩) tm.globals.length tm.globals.length, .slice vm.af vm.nf vm.cf, .int .i64 vm.en, .int .i64 vm.code, .slice vm.ao vm.no vm.co, .int .i64 vm.steps, .int .i64 vm.slack], GX.Own 4 Ty.bool c.aR c.cR c.B, GX.Own 139 tyThing s.2.1 s.2.2 ((RefC.mk c.aR c.cR c.B s.2.1 s.2.2 (c.L ++ [(r, some ⟨s.1, 0, none⟩, cells n, List.replicate (cells n) 0)]) c.peak (max c.most (nowN c.B (c.L.map row ++ [(r, List.replicate (cells n) 0)]) : Int))).L.map thg), Owns 3 Ty.int ((RefC.mk c.aR c.cR c.B s.2.1 s.2.2 (c.L ++ [(r, some ⟨s.1, 0, none⟩, cells n, List.replicate (cells n) 0)]) c.peak (max c.most (nowN c.B (c.L.map row ++ [(r, List.replicate (cells n) 0)]) : Int))).L.map (fun x : Th => x.2))]) := by
 refine enter Tryz.func140 rfl Tryz.ntmps140 rfl fun b => ?_
 refine GX.wR ?_; intros
 refine GX.o (cl (mhas_spec tm km vm p c r) fun _ => ?_)
 rw [h]
 obtain ⟨aR, cR, B, aL, cL, L, peak, most⟩ := c
 dsimp only at *
 obtain ⟨m, hm'⟩ : ∃ m, m = cells n := ⟨_, rfl⟩
 have hmi : max 0 (min n 50) = (m : Int) := by rw [hm']; unfold cells; omega
 have hm50 : m ≤ 50 := by omega
 have hlm : (L.map thg).length = L.length := by simp
 rw [← hm']
 refine GX.wR ?_; intros
 refine GX.drawnE [RowR p 74 _] (fun j => !(List.contains [12, 15] j)) [(0, true), (1, true), (2, true), (3, true), (4, true), (5, true), (6, true), (7, true), (8, true), (9, false), (10, true), (11, false), (12, false), (13, true), (14, true), (15, false)] rfl (by kernel_rfl) (by kernel_rfl) GX.sA ?_; intro wd F hW hR
 refine GX.wT ?_; intros
 rw [hmi]
 refine GX.wT ?_; intros
 rename_i g _ aL2 cL2
 have e1 : L.map thg ++ [(⟨r, some ⟨g, 0, none⟩, m, m⟩ : Thing)] = (L ++ [((r, (some ⟨g, 0, none⟩ : Option Addr), m, List.replicate m (0 : Int)) : Th)]).map thg := by simp [thg, hd]
 have e2 : L.map (fun x : Th => x.2) ++ [((some ⟨g, 0, none⟩ : Option Addr), m, List.replicate m (0 : Int))] = (L ++ [((r, (some ⟨g, 0, none⟩ : Option Addr), m, List.replicate m (0 : Int)) : Th)]).map (fun x : Th => x.2) := by simp
 have e3 : L.map row ++ [(r, List.replicate m (0 : Int))] = (L ++ [((r, (some ⟨g, 0, none⟩ : Option Addr), m, List.replicate m (0 : Int)) : Th)]).map row := by simp [row]
 rw [e1, e3]
 refine osA (t := 3) (e := Ty.int) (ao := some ⟨g, 0, none⟩) ?_
 rw [e2]
 obtain ⟨L', hL'⟩ : ∃ L', L' = (L ++ [((r, (some ⟨g, 0, none⟩ : Option Addr), m, List.replicate m (0 : Int)) : Th)]) := ⟨_, rfl⟩
 have hL1 : L'.length = L.length + 1 := by rw [hL']; simp
 rw [← hL', List.length_map]
 refine GX.wR ?_; intros
 refine GX.drawnE [RowR p 74 _] (fun j => !(List.contains [10] j)) [(0, true), (1, true), (2, true), (3, true), (4, true), (5, true), (6, false), (7, true), (8, true), (9, true), (10, false)] rfl (by kernel_rfl) (by kernel_rfl) GX.sA ?_; intro wd F hW hR
 refine GX.wT ?_; intros
 refine GX.gow ?_
 refine (cl (mnow_spec tm km vm p ⟨aR, cR, B, aL2, cL2, L', peak, most⟩ (by dsimp only; omega)) fun _ => ?_)
 refine GX.wT ?_; intros
 rw [hL1]
 refine GX.wR ?_; intros
 exact rt2 (g, aL2, cL2) rfl (h2 := by dsimp only; rw [← hL', hL1]; exact GX.sA)
theorem mlen_spec (tm : RTg) (km : MK) (vm : MV) (p : Nat) (c : RefC) (ref : Int) (hl : c.L.length ≤ 1000000000) : Does Tryz.prog 122 [.pointer (some ⟨p, 6, none⟩), .int .i64 ref] [] [RowR p 74 [.slice km.aC tm.classes.length km.cC, .slice km.aG tm.globals.length km.cG, .slice km.aU tm.units.length km.cU, .int .i64 tm.main, .slice km.aL (glob tm).length km.cL, .slice vm.ai vm.ni vm.ci, .slice c.aR c.B.length c.cR, .slice c.aL c.L.length c.cL, .int .i64 c.peak, .int .i64 c.most, .slice (some ⟨km.gb, 0, none⟩) tm.globals.length tm.globals.length, .slice vm.af vm.nf vm.cf, .int .i64 vm.en, .int .i64 vm.code, .slice vm.ao vm.no vm.co, .int .i64 vm.steps, .int .i64 vm.slack], GX.Own 4 Ty.bool c.aR c.cR c.B, GX.Own 139 tyThing c.aL c.cL (c.L.map thg), Owns 3 Ty.int (c.L.map (fun x : Th => x.2))]
  (fun _ : Unit => .tuple #[.int .i64 (lenP c.B (c.L.map row) ref).1, .int .i64 (lenP c.B (c.L.map row) ref).2]) (fun _ => []) (fun _ => [RowR p 74 [.slice km.aC tm.classes.length km.cC, .slice km.aG tm.globals.length km.cG, .slice km.aU tm.units.length km.cU, .int .i64 tm.main, .slice km.aL (glob tm).length km.cL, .slice vm.ai vm.ni vm.ci, .slice c.aR c.B.length c.cR, .slice c.aL c.L.length c.cL, .int .i64 c.peak, .int .i64 c.most, .slice (some ⟨km.gb, 0, none⟩) tm.globals.length tm.globals.length, .slice vm.af vm.nf vm.cf, .int .i64 vm.en, .int .i64 vm.code, .slice vm.ao vm.no vm.co, .int .i64 vm.steps, .int .i64 vm.slack], GX.Own 4 Ty.bool c.aR c.cR c.B, GX.Own 139 tyThing c.aL c.cL (c.L.map thg), Owns 3 Ty.int (c.L.map (fun x : Th => x.2))]) := by
 refine enter Tryz.func122 rfl Tryz.ntmps122 rfl fun b => ?_
 rcases ref_cases c.L ref with h | ⟨k, q, rfl, hq⟩
 ·have hp : lenP c.B (c.L.map row) ref = (0, 1) := by unfold lenP; rw [at_none (by simpa using h)]
  rw [hp]
  by_cases h1 : ref < 1
  ·refine GX.wR ?_; intros
   exact rt2 () rfl
  ·refine GX.wR ?_; intros
   exact rt2 () rfl
 ·have hq2 : (c.L.map row)[k]? = some (row q) := by rw [List.getElem?_map, hq]; rfl
  have hkl : k < c.L.length := (List.getElem?_eq_some_iff.1 hq).1
  obtain ⟨aR, cR, B, aL, cL, L, peak, most⟩ := c
  dsimp only at *
  have hk2 : (L.map thg)[k]? = some (thg q) := by rw [List.getElem?_map, hq]; rfl
  refine GX.opn aL fun _ _ ha => ?_
  obtain ⟨hn, _⟩ | ⟨g, rfl⟩ := ha
  ·have : L = [] := by simpa using hn
   subst this; simp at hq
  cases hh : hasB B q.1 with
  | false =>
   have hp : lenP B (L.map row) ((k : Int) + 1) = (0, -1) := by unfold lenP; rw [at_some hq2]; simp [row, hh]
   rw [hp]
   refine GX.wR ?_; intros
   refine GX.o (cl (mhas_spec tm km vm p ⟨aR, cR, B, some ⟨g, 0, none⟩, cL, L, peak, most⟩ _) fun _ => ?_)
   rw [show (thg q).region = q.1 from rfl, hh]
   refine GX.wR ?_; intros
   exact rt2 () rfl
  | true =>
   have hp : lenP B (L.map row) ((k : Int) + 1) = ((q.2.2.2.length : Int), 0) := by unfold lenP; rw [at_some hq2]; simp [row, hh]
   rw [hp]
   refine GX.wR ?_; intros
   refine GX.o (cl (mhas_spec tm km vm p ⟨aR, cR, B, some ⟨g, 0, none⟩, cL, L, peak, most⟩ _) fun _ => ?_)
   rw [show (thg q).region = q.1 from rfl, hh]
   refine GX.wR ?_; intros
   exact rt2 () rfl
theorem mcount_spec (tm : RTg) (km : MK) (vm : MV) (p : Nat) (c : RefC) (hl : c.B.length ≤ 1000000000) : Does Tryz.prog 81 [.pointer (some ⟨p, 6, none⟩)] [] [RowR p 74 [.slice km.aC tm.classes.length km.cC, .slice km.aG tm.globals.length km.cG, .slice km.aU tm.units.length km.cU, .int .i64 tm.main, .slice km.aL (glob tm).length km.cL, .slice vm.ai vm.ni vm.ci, .slice c.aR c.B.length c.cR, .slice c.aL c.L.length c.cL, .int .i64 c.peak, .int .i64 c.most, .slice (some ⟨km.gb, 0, none⟩) tm.globals.length tm.globals.length, .slice vm.af vm.nf vm.cf, .int .i64 vm.en, .int .i64 vm.code, .slice vm.ao vm.no vm.co, .int .i64 vm.steps, .int .i64 vm.slack], GX.Own 4 Ty.bool c.aR c.cR c.B, GX.Own 139 tyThing c.aL c.cL (c.L.map thg), Owns 3 Ty.int (c.L.map (fun x : Th => x.2))] (fun _ : Unit => .tuple #[.int .i64 (c.B.length : Int), .int .i64 ((c.B.length : Int) - (liveN c.B : Int)), .int .i64 c.peak]) (fun _ => []) (fun _ => [RowR p 74 [.slice km.aC tm.classes.length km.cC, .slice km.aG tm.globals.length km.cG, .slice km.aU tm.units.length km.cU, .int .i64 tm.main, .slice km.aL (glob tm).length km.cL, .slice vm.ai vm.ni vm.ci, .slice c.aR c.B.length c.cR, .slice c.aL c.L.length c.cL, .int .i64 c.peak, .int .i64 c.most, .slice (some ⟨km.gb, 0, none⟩) tm.globals.length tm.globals.length, .slice vm.af vm.nf vm.cf, .int .i64 vm.en, .int .i64 vm.code, .slice vm.ao vm.no vm.co, .int .i64 vm.steps, .int .i64 vm.slack], GX.Own 4 Ty.bool c.aR c.cR c.B, GX.Own 139 tyThing c.aL c.cL (c.L.map thg), Owns 3 Ty.int (c.L.map (fun x : Th => x.2))]) := by
 refine enter Tryz.func81 rfl Tryz.ntmps81 rfl fun b => ?_
 have hlv : liveN c.B ≤ c.B.length := List.countP_le_length
 refine GX.wR ?_; intros
 refine GX.drawnE [RowR p 74 _] (fun j => !(List.contains [] j)) [(0, true), (1, true), (2, true), (3, true), (4, true), (5, true), (6, true), (7, true), (8, true), (9, true), (10, true), (13, true), (14, true), (15, true), (16, true), (11, false), (12, true), (17, true), (18, true), (19, true)] rfl (by kernel_rfl) (by kernel_rfl) GX.sA ?_; intro wd F hW hR
 refine GX.wT ?_; intros
 refine GX.gow ?_
 refine (cl (mlive_spec tm km vm p c hl) fun _ => ?_)
 refine GX.wT ?_; intros
 refine GX.wR ?_; intros
 exact rt3 () rfl
theorem mload_spec (tm : RTg) (km : MK) (vm : MV) (p : Nat) (c : RefC) (ref i : Int) (hl : c.L.length ≤ 1000000000) : Does Tryz.prog 120 [.pointer (some ⟨p, 6, none⟩), .int .i64 ref, .int .i64 i] [] [RowR p 74 [.slice km.aC tm.classes.length km.cC, .slice km.aG tm.globals.length km.cG, .slice km.aU tm.units.length km.cU, .int .i64 tm.main, .slice km.aL (glob tm).length km.cL, .slice vm.ai vm.ni vm.ci, .slice c.aR c.B.length c.cR, .slice c.aL c.L.length c.cL, .int .i64 c.peak, .int .i64 c.most, .slice (some ⟨km.gb, 0, none⟩) tm.globals.length tm.globals.length, .slice vm.af vm.nf vm.cf, .int .i64 vm.en, .int .i64 vm.code, .slice vm.ao vm.no vm.co, .int .i64 vm.steps, .int .i64 vm.slack], GX.Own 4 Ty.bool c.aR c.cR c.B, GX.Own 139 tyThing c.aL c.cL (c.L.map thg), Owns 3 Ty.int (c.L.map (fun x : Th => x.2))]
  (fun _ : Unit => .tuple #[.int .i64 (loadP c.B (c.L.map row) ref i).1, .int .i64 (loadP c.B (c.L.map row) ref i).2]) (fun _ => []) (fun _ => [RowR p 74 [.slice km.aC tm.classes.length km.cC, .slice km.aG tm.globals.length km.cG, .slice km.aU tm.units.length km.cU, .int .i64 tm.main, .slice km.aL (glob tm).length km.cL, .slice vm.ai vm.ni vm.ci, .slice c.aR c.B.length c.cR, .slice c.aL c.L.length c.cL, .int .i64 c.peak, .int .i64 c.most, .slice (some ⟨km.gb, 0, none⟩) tm.globals.length tm.globals.length, .slice vm.af vm.nf vm.cf, .int .i64 vm.en, .int .i64 vm.code, .slice vm.ao vm.no vm.co, .int .i64 vm.steps, .int .i64 vm.slack], GX.Own 4 Ty.bool c.aR c.cR c.B, GX.Own 139 tyThing c.aL c.cL (c.L.map thg), Owns 3 Ty.int (c.L.map (fun x : Th => x.2))]) := by
 refine enter Tryz.func120 rfl Tryz.ntmps120 rfl fun b => ?_
 rcases place_cases c.B c.L ref i with h | ⟨k, q, rfl, hq, hh⟩ | ⟨k, q, rfl, hq, hh, hi⟩ | ⟨k, ⟨r, ao, m, l⟩, j, v, rfl, hq, hh, rfl, hj⟩
 ·have e1 : lenP c.B (c.L.map row) ref = (0, 1) := by unfold lenP; rw [at_none (by simpa using h)]
  rw [loadP_null (at_none (by simpa using h))]
  refine GX.wR ?_; intros
  refine GX.o (cl (mlen_spec tm km vm p c ref hl) fun _ => ?_)
  rw [e1]
  refine GX.wR ?_; intros
  exact rt2 () rfl
 ·have hq2 : (c.L.map row)[k]? = some (row q) := by rw [List.getElem?_map, hq]; rfl
  have e1 : lenP c.B (c.L.map row) ((k : Int) + 1) = (0, -1) := by unfold lenP; rw [at_some hq2]; simp [row, hh]
  rw [loadP_gone (at_some hq2) hh]
  refine GX.wR ?_; intros
  refine GX.o (cl (mlen_spec tm km vm p c _ hl) fun _ => ?_)
  rw [e1]
  refine GX.wR ?_; intros
  exact rt2 () rfl
 ·have hq2 : (c.L.map row)[k]? = some (row q) := by rw [List.getElem?_map, hq]; rfl
  have e1 : lenP c.B (c.L.map row) ((k : Int) + 1) = ((q.2.2.2.length : Int), 0) := by unfold lenP; rw [at_some hq2]; simp [row, hh]
  rw [loadP_out (at_some hq2) hh hi]
  refine GX.wR ?_; intros
  refine GX.o (cl (mlen_spec tm km vm p c _ hl) fun _ => ?_)
  rw [e1]
  by_cases h1 : i < 0
  ·refine GX.wR ?_; intros
   exact rt2 () rfl
  ·refine GX.wR ?_; intros
   exact rt2 () rfl
 ·have hq3 : (c.L.map row)[k]? = some (row (r, ao, m, l)) := by rw [List.getElem?_map, hq]; rfl
  have e1 : lenP c.B (c.L.map row) ((k : Int) + 1) = ((l.length : Int), 0) := by unfold lenP; rw [at_some hq3]; simp [row, hh]
  rw [loadP_in (at_some hq3) hh hj]
  dsimp only at hh hj
  have hq2 : (c.L.map (fun x : Th => x.2))[k]? = some (ao, m, l) := by rw [List.getElem?_map, hq]; rfl
  have hjl : j < l.length := (List.getElem?_eq_some_iff.1 hj).1
  have hkl : k < c.L.length := (List.getElem?_eq_some_iff.1 hq).1
  refine osO (t := 3) (e := Ty.int) k (fun _ _ ha => ?_) hq2
  obtain ⟨hn, _⟩ | ⟨g, rfl⟩ := ha
  ·subst hn; simp at hj
  refine GX.wR ?_; intros
  refine GX.o (cl (mlen_spec tm km vm p c _ hl) fun _ => ?_)
  rw [e1]
  obtain ⟨aR, cR, B, aL, cL, L, peak, most⟩ := c
  dsimp only at *
  have hk2 : (L.map thg)[k]? = some (thg (r, some ⟨g, 0, none⟩, m, l)) := by rw [List.getElem?_map, hq]; rfl
  refine GX.opn aL fun _ _ ha => ?_
  obtain ⟨hn, _⟩ | ⟨gL, rfl⟩ := ha
  ·have : L = [] := by simpa using hn
   subst this; simp at hq
  refine osT (t := 3) (e := Ty.int) k ?_ hq2
  refine GX.wR ?_; intros
  refine osP (t := 3) (e := Ty.int) (ao := some ⟨g, 0, none⟩) k ?_ (by rw [List.getElem?_set_self]; exact (List.getElem?_eq_some_iff.1 hq2).1)
  rw [set_back hq2]
  exact rt2 () rfl
theorem mput_spec (tm : RTg) (km : MK) (vm : MV) (p : Nat) (c : RefC) (ref i v : Int) (hl : c.L.length ≤ 1000000000) : Does Tryz.prog 121 [.pointer (some ⟨p, 6, none⟩), .int .i64 ref, .int .i64 i, .int .i64 v] [] [RowR p 74 [.slice km.aC tm.classes.length km.cC, .slice km.aG tm.globals.length km.cG, .slice km.aU tm.units.length km.cU, .int .i64 tm.main, .slice km.aL (glob tm).length km.cL, .slice vm.ai vm.ni vm.ci, .slice c.aR c.B.length c.cR, .slice c.aL c.L.length c.cL, .int .i64 c.peak, .int .i64 c.most, .slice (some ⟨km.gb, 0, none⟩) tm.globals.length tm.globals.length, .slice vm.af vm.nf vm.cf, .int .i64 vm.en, .int .i64 vm.code, .slice vm.ao vm.no vm.co, .int .i64 vm.steps, .int .i64 vm.slack], GX.Own 4 Ty.bool c.aR c.cR c.B, GX.Own 139 tyThing c.aL c.cL (c.L.map thg), Owns 3 Ty.int (c.L.map (fun x : Th => x.2))]
  (fun _ : Unit => .int .i64 (loadP c.B (c.L.map row) ref i).2) (fun _ => []) (fun _ => [RowR p 74 [.slice km.aC tm.classes.length km.cC, .slice km.aG tm.globals.length km.cG, .slice km.aU tm.units.length km.cU, .int .i64 tm.main, .slice km.aL (glob tm).length km.cL, .slice vm.ai vm.ni vm.ci, .slice c.aR c.B.length c.cR, .slice c.aL (putTo c.B c.L ref i v).length c.cL, .int .i64 c.peak, .int .i64 c.most, .slice (some ⟨km.gb, 0, none⟩) tm.globals.length tm.globals.length, .slice vm.af vm.nf vm.cf, .int .i64 vm.en, .int .i64 vm.code, .slice vm.ao vm.no vm.co, .int .i64 vm.steps, .int .i64 vm.slack], GX.Own 4 Ty.bool c.aR c.cR c.B, GX.Own 139 tyThing c.aL c.cL ((putTo c.B c.L ref i v).map thg), Owns 3 Ty.int ((putTo c.B c.L ref i v).map (fun x : Th => x.2))]) := by
 refine enter Tryz.func121 rfl Tryz.ntmps121 rfl fun b => ?_
 refine GX.wR ?_; intros
 refine GX.o (cl (mload_spec tm km vm p c ref i hl) fun _ => ?_)
 rcases place_cases c.B c.L ref i with h | ⟨k, q, rfl, hq, hh⟩ | ⟨k, q, rfl, hq, hh, hi⟩ | ⟨k, ⟨r, ao, m, l⟩, j, v0, rfl, hq, hh, rfl, hj⟩
 ·have e := loadP_null (B := c.B) (i := i) (at_none (l := c.L.map row) (ref := ref) (by simpa using h))
  rw [show putTo c.B c.L ref i v = c.L by unfold putTo; rw [e]; rfl, e]
  refine GX.wR ?_; intros
  exact rt1 () rfl
 ·have e := loadP_gone (B := c.B) (i := i) (at_some (l := c.L.map row) (k := k) (q := row q) (by rw [List.getElem?_map, hq]; rfl)) hh
  rw [show putTo c.B c.L ((k : Int) + 1) i v = c.L by unfold putTo; rw [e]; rfl, e]
  refine GX.wR ?_; intros
  exact rt1 () rfl
 ·have e := loadP_out (B := c.B) (i := i) (at_some (l := c.L.map row) (k := k) (q := row q) (by rw [List.getElem?_map, hq]; rfl)) hh hi
  rw [show putTo c.B c.L ((k : Int) + 1) i v = c.L by unfold putTo; rw [e]; rfl, e]
  refine GX.wR ?_; intros
  exact rt1 () rfl
 ·have e := loadP_in (B := c.B) (at_some (l := c.L.map row) (k := k) (q := row (r, ao, m, l)) (by rw [List.getElem?_map, hq]; rfl)) hh hj
  have e2 : putTo c.B c.L ((k : Int) + 1) (j : Int) v = putT c.L k j v := by unfold putTo; rw [e, if_pos rfl, show ((k : Int) + 1 - 1).toNat = k by omega, Int.toNat_natCast]
  rw [e2, e]
  dsimp only at hh hj
  have hq2 : (c.L.map (fun x : Th => x.2))[k]? = some (ao, m, l) := by rw [List.getElem?_map, hq]; rfl
  have hjl : j < l.length := (List.getElem?_eq_some_iff.1 hj).1
  have hkl : k < c.L.length := (List.getElem?_eq_some_iff.1 hq).1
  refine osO (t := 3) (e := Ty.int) k (fun _ _ ha => ?_) hq2
  obtain ⟨hn, _⟩ | ⟨g, rfl⟩ := ha
  ·subst hn; simp at hj
  obtain ⟨aR, cR, B, aL, cL, L, peak, most⟩ := c
  dsimp only at *
  have hk2 : (L.map thg)[k]? = some (thg (r, some ⟨g, 0, none⟩, m, l)) := by rw [List.getElem?_map, hq]; rfl
  refine GX.opn aL fun _ _ ha => ?_
  obtain ⟨hn, _⟩ | ⟨gL, rfl⟩ := ha
  ·have : L = [] := by simpa using hn
   subst this; simp at hq
  refine osT (t := 3) (e := Ty.int) k ?_ hq2
  refine GX.wR ?_; intros
  refine osP (t := 3) (e := Ty.int) (ao := some ⟨g, 0, none⟩) k ?_ (by rw [List.getElem?_set_self]; exact (List.getElem?_eq_some_iff.1 hq2).1)
  have e3 : ((L.map (fun x : Th => x.2)).set k (none, 0, [])).set k (some ⟨g, 0, none⟩, m, l.set j v) = (putT L k j v).map (fun x : Th => x.2) := by
   rw [List.set_set, putT_at hq, List.map_set]
  rw [e3]
  exact rt1 () rfl (h2 := by rw [putT_thg, putT_len]; exact GX.sA)
end Go.Proofs.YtomadjefdghliaaGreat
