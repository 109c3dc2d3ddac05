import Derived.Test.YtomadjefdghliaaGreatU33
namespace Go.Proofs.YtomadjefdghliaaGreat
open Go Go.RR Go.RX Go.GX Go.Api Go.RiseM Go.ReachM Go.RtM
attribute [local irreducible] wpList Code.wp wpPlan Exit.then Exit.inBlock bodyPost NoPanic Went GX.Post GX.Again GX.Meet GX.RowR GX.Own GX.Owns GX.Box GX.Sl GX.Pt GX.Ag GX.MapR GX.Kept GX.Pin wpT GoK AtEnd Both
theorem rise_snoc {l : List Int} {i : Nat} {x : Int} (hx : l[i]? = some x) : Rise (l.take (i + 1)) ↔ Rise (l.take i) ∧ ∀ k y, i = k + 1 → l[k]? = some y → y < x := by
 have := upP_snoc (p := fun _ => true) hx
 simp only [UpP, implies_true, and_true] at this
 exact this
theorem rrising_spec (ao : Option Addr) (cap : Nat) (l : List Int) : Does Tryz.prog 83 [.slice ao l.length cap] [Sl Ty.int ao cap l] []
  (fun _ : Unit => .bool (decide (Rise l))) (fun _ => []) (fun _ => []) := by
 refine enter Tryz.func83 rfl Tryz.ntmps83 rfl fun b => ?_
 refine sln ao fun hl1 hl2 _ => ?_
 by_cases h0 : l.length = 0
 ·have e : Rise l := by rw [List.length_eq_zero_iff.1 h0]; exact List.Pairwise.nil
  refine GX.wR ?_; intros
  refine GX.loop (σ := Nat) (fun i => [(0, .slice ao l.length cap), (3, .int .i64 ((i + 1 : Nat) : Int))]) (fun _ => []) (fun _ => []) (fun i => True) (fun i => 0) 0 ⟨rfl, rfl, trivial⟩ trivial (fun i hi => ?_)
  refine GX.wR ?_; intros
  exact rt1 () (vY e)
 refine GX.wR ?_; intros
 refine GX.loop (σ := Nat) (fun i => [(0, .slice ao l.length cap), (3, .int .i64 ((i + 1 : Nat) : Int))]) (fun _ => []) (fun _ => [])
  (fun i => i + 1 ≤ l.length ∧ Rise (l.take (i + 1))) (fun i => l.length - i) 0 ⟨rfl, rfl, trivial⟩ ⟨by omega, ?_⟩ (fun i hi => ?_)
 ·obtain ⟨x, hx⟩ := get_lt (show 0 < l.length by omega)
  exact (rise_snoc hx).2 ⟨List.Pairwise.nil, fun k y h => by omega⟩
 obtain ⟨hi, hA⟩ := hi
 by_cases hlt : i + 1 < l.length
 ·obtain ⟨x, hx⟩ := get_lt hlt
  obtain ⟨y, hy⟩ := get_lt (show i < l.length by omega)
  have hs := rise_snoc hx
  by_cases hxy : x ≤ y
  ·refine GX.wR ?_; intros
   refine GX.drawn0  (fun j => !(List.contains [] j)) [(0, true), (1, true), (2, true), (3, true), (4, true), (5, true), (6, true), (7, true), (8, true), (9, true)] rfl (by kernel_rfl) (by kernel_rfl) GX.sA ?_; intro wd F hW hR
   refine GX.wT ?_; intros
   refine GX.wR ?_; intros
   exact rt1 () (vN fun h => by
    have := (hs.1 (h.sublist (List.take_sublist _ _))).2 i y rfl hy
    omega)
  ·refine GX.wR ?_; intros
   refine GX.drawn0  (fun j => !(List.contains [] j)) [(0, true), (1, true), (2, true), (3, true), (4, true), (5, true), (6, true), (7, true), (8, true), (9, true)] rfl (by kernel_rfl) (by kernel_rfl) GX.sA ?_; intro wd F hW hR
   refine GX.wT ?_; intros
   refine GX.wR ?_; intros
   exact again (i + 1) ⟨rfl, rfl, trivial⟩ ⟨by omega, hs.2 ⟨hA, fun k z hk hz => last2 (show i = k by omega) hy hz (by omega)⟩⟩ (by omega)
 ·rw [List.take_of_length_le (by omega)] at hA
  refine GX.wR ?_; intros
  exact rt1 () (vY hA)
theorem all_spec (a1 a2 : Option Addr) (c1 c2 : Nat) (l m : List Int) : Does Tryz.prog 124 [.slice a1 l.length c1, .slice a2 m.length c2] [Sl Ty.int a1 c1 l, Sl Ty.int a2 c2 m] []
  (fun _ : Unit => .bool (decide (∀ x ∈ l, x ∈ m))) (fun _ => []) (fun _ => []) := by
 refine enter Tryz.func124 rfl Tryz.ntmps124 rfl fun b => ?_
 refine sln a1 fun hl1 hl2 _ => ?_
 refine GX.wR ?_; intros
 refine GX.loop (σ := Nat) (fun i => [(0, .slice a1 l.length c1), (1, .slice a2 m.length c2), (5, .int .i64 (i : Int))]) (fun _ => []) (fun _ => [])
  (fun i => i ≤ l.length ∧ ∀ x ∈ l.take i, x ∈ m) (fun i => l.length - i) 0 ⟨rfl, rfl, rfl, trivial⟩ ⟨by omega, by simp⟩ (fun i hi => ?_)
 obtain ⟨hi, hA⟩ := hi
 by_cases hlt : i < l.length
 ·obtain ⟨x, hx⟩ := get_lt hlt
  refine GX.wR ?_; intros
  refine GX.o (cl (in_spec a2 c2 m x) fun _ => ?_)
  by_cases h : x ∈ m
  ·have h' := Classical.not_not.2 h
   refine GX.wR ?_; intros
   refine again (i + 1) ⟨rfl, rfl, rfl, trivial⟩ ⟨by omega, fun y hy => ?_⟩ (by omega)
   rw [List.take_add_one, hx, List.mem_append] at hy
   rcases hy with hy | hy
   ·exact hA y hy
   ·simp at hy; subst hy; exact h
  ·refine GX.wR ?_; intros
   exact rt1 () (vN fun h2 => h (h2 x (List.mem_of_getElem? hx)))
 ·rw [List.take_of_length_le (by omega)] at hA
  refine GX.wR ?_; intros
  exact rt1 () (vY hA)
theorem all2_spec (a1 a2 : Option Addr) (c1 c2 : Nat) (l m : List Int) : Does Tryz.prog 84 [.slice a1 l.length c1, .slice a2 m.length c2] [Sl Ty.int a1 c1 l, Sl Ty.int a2 c2 m] []
  (fun _ : Unit => .bool (decide (∀ x ∈ l, x ∈ m))) (fun _ => []) (fun _ => []) := by
 refine enter Tryz.func84 rfl Tryz.ntmps84 rfl fun b => ?_
 refine GX.wR ?_; intros
 refine GX.o (cl (all_spec a1 a2 c1 c2 l m) fun _ => ?_)
 refine GX.wR ?_; intros
 exact rt1 () rfl
def minusTo (l m : List Int) (i : Nat) : List Int := (l.take i).filter fun x => decide (x ∉ m)
def minus (l m : List Int) : List Int := l.filter fun x => decide (x ∉ m)
theorem minusTo_succ {l m : List Int} {i : Nat} {x : Int} (hx : l[i]? = some x) : minusTo l m (i + 1) = if x ∈ m then minusTo l m i else minusTo l m i ++ [x] := by
 unfold minusTo
 rw [List.take_add_one, hx, List.filter_append]
 split <;> rename_i h <;> simp [h]
theorem minusTo_len (l m : List Int) (i : Nat) : (minusTo l m i).length ≤ l.length := by
 have h1 := List.length_filter_le (fun x => decide (x ∉ m)) (l.take i)
 unfold minusTo
 rw [List.length_take] at h1; omega
theorem minus_spec (a1 a2 : Option Addr) (c1 c2 : Nat) (l m : List Int) (hl : l.length ≤ 1099511627776) : Does Tryz.prog 125 [.slice a1 l.length c1, .slice a2 m.length c2] [Sl Ty.int a1 c1 l, Sl Ty.int a2 c2 m] []
  (fun s : Option Addr × Nat => .slice s.1 (minus l m).length s.2) (fun _ => []) (fun s => [GX.Own 3 Ty.int s.1 s.2 (minus l m)]) := by
 refine enter Tryz.func125 rfl Tryz.ntmps125 rfl fun b => ?_
 refine sln a1 fun hl1 hl2 _ => ?_
 refine GX.wR ?_; intros
 refine ownNil 3 Ty.int ?_
 refine GX.loop (σ := Nat × Option Addr × Nat) (fun s => [(0, .slice a1 l.length c1), (1, .slice a2 m.length c2), (5, .slice s.2.1 (minusTo l m s.1).length s.2.2), (6, .int .i64 (s.1 : Int))]) (fun _ => [])
  (fun s => [GX.Own 3 Ty.int s.2.1 s.2.2 (minusTo l m s.1)]) (fun s => s.1 ≤ l.length) (fun s => l.length - s.1) (0, none, 0) ⟨rfl, rfl, rfl, rfl, trivial⟩ (by simp) (fun s hs => ?_)
 obtain ⟨i, aL, cL⟩ := s
 dsimp only at *
 have hml := minusTo_len l m i
 by_cases hlt : i < l.length
 ·obtain ⟨x, hx⟩ := get_lt hlt
  have hms := minusTo_succ (m := m) hx
  refine GX.wR ?_; intros
  refine GX.o (cl (in_spec a2 c2 m x) fun _ => ?_)
  by_cases h : x ∈ m
  ·have h' := Classical.not_not.2 h
   rw [if_pos h] at hms
   refine GX.wR ?_; intros
   exact again (i + 1, aL, cL) ⟨rfl, rfl, by dsimp only; rw [hms]; rfl, rfl, trivial⟩ (by dsimp only; omega) (by dsimp only; omega) (h2 := by dsimp only; rw [hms]; exact GX.sA)
  ·rw [if_neg h] at hms
   refine GX.wR ?_; intros
   rw [← hms]
   refine GX.nmS 5 ?_; rintro a5 c5 rfl rfl
   refine GX.wR ?_; intros
   exact again (i + 1, a5, c5) ⟨rfl, rfl, rfl, rfl, trivial⟩ (by dsimp only; omega) (by dsimp only; omega)
 ·have e : minusTo l m i = minus l m := by unfold minusTo minus; rw [List.take_of_length_le (by omega)]
  rw [e]
  refine GX.wR ?_; intros
  exact rt1 (aL, cL) rfl
theorem rfields_spec (cs : List Value) (t : RTg) (hs : Small t) : Does Tryz.prog 69 [.agg cs.toArray] [Ag tyRTg cs t] []
  (fun s : Option Addr × Nat => .slice s.1 (flds t).length s.2) (fun s => [Sl (Ty.slice Ty.int) s.1 s.2 (flds t)]) (fun _ => []) := by
 have hc := hs.classes
 refine enter Tryz.func69 rfl Tryz.ntmps69 rfl fun b => ?_
 refine GX.wR ?_; intros
 refine GX.nmP 1 ?_; rintro b1 rfl
 refine ownNil 23 (Ty.slice Ty.int) ?_
 refine GX.loop (σ := Nat × Option Addr × Nat) (fun s => [(1, .pointer (some ⟨b1, 0, none⟩)), (3, .slice s.2.1 ((flds t).take s.1).length s.2.2), (4, .int .i64 (s.1 : Int))]) (fun _ => [])
  (fun s => [GX.Own 23 (Ty.slice Ty.int) s.2.1 s.2.2 ((flds t).take s.1)]) (fun s => s.1 ≤ t.classes.length) (fun s => t.classes.length - s.1) (0, none, 0) ⟨rfl, rfl, rfl, trivial⟩ (by simp) (fun s hs2 => ?_)
 obtain ⟨i, aF, cF⟩ := s
 dsimp only at *
 have hfl := flds_len t
 have htl : ((flds t).take i).length = i := by rw [List.length_take]; omega
 by_cases hlt : i < t.classes.length
 ·obtain ⟨L, hL⟩ := get_lt hlt
  have hr := hs.ref (List.mem_of_getElem? hL)
  have e : (flds t).take i ++ [L.refs] = (flds t).take (i + 1) := by
   rw [List.take_add_one]; unfold flds; rw [List.getElem?_map, hL]; rfl
  refine GX.wR ?_; intros
  refine GX.nmS 19 ?_; rintro aN cN rfl rfl
  refine frz aN ?_
  refine GX.wR ?_; intros
  rw [e]
  refine GX.nmS 21 ?_; rintro a3 c3 rfl rfl
  refine GX.wR ?_; intros
  exact again (i + 1, a3, c3) ⟨rfl, rfl, rfl, trivial⟩ (by dsimp only; omega) (by dsimp only; omega)
 ·rw [List.take_of_length_le (by omega)]
  refine GX.wR ?_; intros
  refine frz aF ?_
  exact rt1 (aF, cF) rfl
theorem rglobal_spec (cs : List Value) (t : RTg) (hs : Small t) : Does Tryz.prog 29 [.agg cs.toArray] [Ag tyRTg cs t] []
  (fun s : Option Addr × Nat => .slice s.1 (glob t).length s.2) (fun s => [Sl Ty.int s.1 s.2 (glob t)]) (fun _ => []) := by
 have hc := hs.classes
 have hfl := flds_len t
 refine enter Tryz.func29 rfl Tryz.ntmps29 rfl fun b => ?_
 refine GX.wR ?_; intros
 refine GX.drawn0  (fun j => !(List.contains [4] j)) [(0, true), (2, true), (3, true), (1, false), (4, false), (5, true)] rfl (by kernel_rfl) (by kernel_rfl) GX.sA ?_; intro wd F hW hR
 refine GX.wT ?_; intros
 refine GX.nmS 6 ?_; rintro aG cG rfl rfl
 refine GX.gow ?_
 refine (cl (rfields_spec _ t hs) fun s => ?_)
 obtain ⟨aF, cF⟩ := s
 dsimp only
 refine GX.wT ?_; intros
 refine GX.gow ?_
 refine (cl (rfrom_spec aF aG cF cG (flds t) t.globals (by omega)) fun s => ?_)
 obtain ⟨a2, c2⟩ := s
 dsimp only
 refine GX.wT ?_; intros
 refine GX.wR ?_; intros
 refine frz a2 ?_
 exact rt1 (a2, c2) rfl
def rootsTo (u : Unt) (i : Nat) : List Int := u.result :: u.vars.take i
theorem rootsTo_len (u : Unt) (i : Nat) : (rootsTo u i).length ≤ u.vars.length + 1 := by unfold rootsTo; rw [List.length_cons, List.length_take]; omega
theorem outOf_minus (t : RTg) (u : Unt) : minus (fromL (flds t) (rootsTo u (pars u))) (glob t) = outOf t u := by
 unfold minus outOf
 rw [fromL_congr (f := flds t) (r := rootsTo u (pars u)) (s := roots u)]
 intro x
 unfold rootsTo roots
 simp only [List.mem_cons, List.mem_append, List.not_mem_nil, or_false]
 exact ⟨fun h => h.elim .inr .inl, fun h => h.elim .inr .inl⟩
theorem rout_spec (cs : List Value) (t : RTg) (hs : Small t) (k : Int) : Does Tryz.prog 85 [.agg cs.toArray, .int .i64 k] [Ag tyRTg cs t] []
  (fun s : Option Addr × Nat => .slice s.1 (out t k).length s.2) (fun s => [Sl Ty.int s.1 s.2 (out t k)]) (fun _ => []) := by
 by_cases h1 : k < 0
 ·rw [out_none (.inl h1)]
  refine enter Tryz.func85 rfl Tryz.ntmps85 rfl fun b => ?_
  refine GX.wR ?_; intros
  refine slNil Ty.int ?_
  exact rt1 (none, 0) rfl
 by_cases h2 : (t.units.length : Int) ≤ k
 ·rw [out_none (.inr h2)]
  refine enter Tryz.func85 rfl Tryz.ntmps85 rfl fun b => ?_
  refine GX.wR ?_; intros
  refine slNil Ty.int ?_
  exact rt1 (none, 0) rfl
 obtain ⟨k, rfl⟩ := Int.eq_ofNat_of_zero_le (show 0 ≤ k by omega)
 obtain ⟨u, hu⟩ := get_lt (show k < t.units.length by omega)
 rw [out_some hu]
 have hc := hs.classes
 have hfl := flds_len t
 have hp := pars_le u
 have hul := (hs.unit u (List.mem_of_getElem? hu)).1
 have hpe : ((pars u : Nat) : Int) = min (max u.params 0) (u.vars.length : Int) := by unfold pars; omega
 refine enter Tryz.func85 rfl Tryz.ntmps85 rfl fun b => ?_
 refine GX.wRO ?_; intros
 refine GX.nmP 2 ?_; rintro b2 rfl
 refine GX.nmP 5 ?_; rintro b5 rfl
 refine GX.nmB 6 ?_; rintro b6 rfl
 refine frzB b5 ?_
 refine GX.loop (σ := Nat × Option Addr × Nat) (fun s => [(1, .int .i64 (k : Int)), (2, .pointer (some ⟨b2, 0, none⟩)), (5, .pointer (some ⟨b5, 0, none⟩)), (6, .slice s.2.1 (rootsTo u s.1).length s.2.2), (7, .int .i64 (s.1 : Int))]) (fun _ => [])
  (fun s => [GX.Own 3 Ty.int s.2.1 s.2.2 (rootsTo u s.1)]) (fun s => s.1 ≤ pars u) (fun s => pars u - s.1) (0, some ⟨b6, 0, none⟩, 1) ⟨rfl, rfl, rfl, rfl, rfl, trivial⟩ (by simp) (fun s hs2 => ?_)
 obtain ⟨i, aL, cL⟩ := s
 dsimp only at *
 have hrl := rootsTo_len u i
 by_cases hlt : i < pars u
 ·obtain ⟨x, hx⟩ := get_lt (show i < u.vars.length by omega)
  have e : rootsTo u i ++ [x] = rootsTo u (i + 1) := by unfold rootsTo; rw [List.take_add_one, hx]; rfl
  refine GX.wR ?_; intros
  rw [e]
  refine GX.nmS 6 ?_; rintro a6 c6 rfl rfl
  refine GX.wR ?_; intros
  exact again (i + 1, a6, c6) ⟨rfl, rfl, rfl, rfl, rfl, trivial⟩ (by dsimp only; omega) (by dsimp only; omega)
 ·have hip : i = pars u := by omega
  subst hip
  refine frz aL ?_
  by_cases h3 : ((pars u : Nat) : Int) < u.params
  ·refine GX.wR ?_; intros
   refine GX.drawn0  (fun j => !(List.contains [5, 6] j)) [(0, true), (2, true), (4, true), (1, false), (3, false), (5, false), (6, false), (7, true)] rfl (by kernel_rfl) (by kernel_rfl) GX.sA ?_; intro wd F hW hR
   refine GX.wT ?_; intros
   refine GX.gow ?_
   refine (cl (rfields_spec _ t hs) fun s => ?_)
   obtain ⟨aF, cF⟩ := s
   dsimp only
   refine GX.wT ?_; intros
   refine GX.gow ?_
   refine (cl (rfrom_spec aF aL cF cL (flds t) (rootsTo u (pars u)) (by omega)) fun s => ?_)
   obtain ⟨aR, cR⟩ := s
   dsimp only
   refine frz aR ?_
   refine GX.wT ?_; intros
   refine GX.gow ?_
   refine (cl (rglobal_spec _ t hs) fun s => ?_)
   obtain ⟨aG, cG⟩ := s
   dsimp only
   refine GX.wT ?_; intros
   refine GX.gow ?_
   refine (cl (minus_spec aR aG cR cG (fromL (flds t) (rootsTo u (pars u))) (glob t) (by have := fromL_len (flds t) (rootsTo u (pars u)); omega)) fun s => ?_)
   obtain ⟨aM, cM⟩ := s
   dsimp only
   rw [outOf_minus]
   refine GX.wT ?_; intros
   refine GX.wR ?_; intros
   refine frz aM ?_
   exact rt1 (aM, cM) rfl
  ·refine GX.wR ?_; intros
   refine GX.drawn0  (fun j => !(List.contains [5, 6] j)) [(0, true), (2, true), (4, true), (1, false), (3, false), (5, false), (6, false), (7, true)] rfl (by kernel_rfl) (by kernel_rfl) GX.sA ?_; intro wd F hW hR
   refine GX.wT ?_; intros
   refine GX.gow ?_
   refine (cl (rfields_spec _ t hs) fun s => ?_)
   obtain ⟨aF, cF⟩ := s
   dsimp only
   refine GX.wT ?_; intros
   refine GX.gow ?_
   refine (cl (rfrom_spec aF aL cF cL (flds t) (rootsTo u (pars u)) (by omega)) fun s => ?_)
   obtain ⟨aR, cR⟩ := s
   dsimp only
   refine frz aR ?_
   refine GX.wT ?_; intros
   refine GX.gow ?_
   refine (cl (rglobal_spec _ t hs) fun s => ?_)
   obtain ⟨aG, cG⟩ := s
   dsimp only
   refine GX.wT ?_; intros
   refine GX.gow ?_
   refine (cl (minus_spec aR aG cR cG (fromL (flds t) (rootsTo u (pars u))) (glob t) (by have := fromL_len (flds t) (rootsTo u (pars u)); omega)) fun s => ?_)
   obtain ⟨aM, cM⟩ := s
   dsimp only
   rw [outOf_minus]
   refine GX.wT ?_; intros
   refine GX.wR ?_; intros
   refine frz aM ?_
   exact rt1 (aM, cM) rfl
theorem rcall_spec (c1 c2 c3 : List Value) (t : RTg) (u : Unt) (i : Ins) : Does Tryz.prog 93 [.agg c1.toArray, .agg c2.toArray, .agg c3.toArray] [Ag tyRTg c1 t, Ag tyUnt c2 u, Ag tyIns c3 i] []
  (fun _ : Unit => .bool (decide (RCall t u i))) (fun _ => []) (fun _ => []) := by
 refine enter Tryz.func93 rfl Tryz.ntmps93 rfl fun b => ?_
 by_cases h1 : i.c < 0
 ·have e : ¬ RCall t u i := by unfold RCall; rw [gt_out (.inl h1)]; exact id
  refine GX.wR ?_; intros
  exact rt1 () (vN e)
 by_cases h2 : (t.units.length : Int) ≤ i.c
 ·have e : ¬ RCall t u i := by unfold RCall; rw [gt_out (.inr h2)]; exact id
  refine GX.wR ?_; intros
  exact rt1 () (vN e)
 obtain ⟨g, hg, k, hk, hkl, hg2⟩ := gt_in (l := t.units) (n := i.c) ⟨by omega, by omega⟩
 have e : RCall t u i ↔ (0 ≤ g.params ∧ g.params ≤ (g.vars.length : Int) ∧ (i.args.length : Int) = g.params ∧ (∀ p ∈ i.args.zip g.vars, rof u p.1 ≠ -4 ∧ RInto p.2 (rof u p.1))) ∧ (i.a = -1 ∨ rof u i.a ≠ -4 ∧ g.result ≠ -3 ∧ RInto (rof u i.a) g.result) := by unfold RCall; rw [hg]
 by_cases h3 : g.params < 0
 ·refine GX.wR ?_; intros
  exact rt1 () (vN fun h => by have := (e.1 h).1.1; omega)
 by_cases h4 : (g.vars.length : Int) < g.params
 ·refine GX.wR ?_; intros
  exact rt1 () (vN fun h => by have := (e.1 h).1.2.1; omega)
 by_cases h5 : (i.args.length : Int) = g.params
 ·refine GX.wR ?_; intros
  refine GX.nmP 4 ?_; rintro b4 rfl
  refine GX.nmP 5 ?_; rintro b5 rfl
  refine GX.nmP 7 ?_; rintro b7 rfl
  refine frzB b7 ?_
  refine GX.loop (σ := Nat) (fun k => [(4, .pointer (some ⟨b4, 0, none⟩)), (5, .pointer (some ⟨b5, 0, none⟩)), (7, .pointer (some ⟨b7, 0, none⟩)), (8, .int .i64 (k : Int))]) (fun _ => []) (fun _ => [])
   (fun k => k ≤ i.args.length ∧ ∀ p ∈ (i.args.zip g.vars).take k, rof u p.1 ≠ -4 ∧ RInto p.2 (rof u p.1)) (fun k => i.args.length - k) 0 ⟨rfl, rfl, rfl, rfl, trivial⟩ ⟨by omega, by simp⟩ (fun k hk => ?_)
  obtain ⟨hk, hA⟩ := hk
  have hzl : (i.args.zip g.vars).length = i.args.length := by rw [List.length_zip]; omega
  by_cases hlt : k < i.args.length
  ·obtain ⟨a, ha⟩ := get_lt hlt
   obtain ⟨w, hw⟩ := get_lt (show k < g.vars.length by omega)
   have hz : (i.args.zip g.vars)[k]? = some (a, w) := by rw [List.getElem?_zip_eq_some]; exact ⟨ha, hw⟩
   refine GX.wR ?_; intros
   refine GX.drawn0  (fun j => !(List.contains [6] j)) [(0, true), (1, true), (2, true), (3, true), (4, true), (5, true), (6, false), (7, true)] rfl (by kernel_rfl) (by kernel_rfl) GX.sA ?_; intro wd F hW hR
   refine GX.wT ?_; intros
   refine GX.gow ?_
   refine (cl (rof_spec _ u a) fun _ => ?_)
   refine GX.wT ?_; intros
   by_cases h6 : rof u a = -4
   ·refine GX.wR ?_; intros
    exact rt1 () (vN fun h => ((e.1 h).1.2.2.2 (a, w) (List.mem_of_getElem? hz)).1 h6)
   ·refine GX.wR ?_; intros
    refine GX.o (cl (rinto_spec w _) fun _ => ?_)
    by_cases h7 : RInto w (rof u a)
    ·have h7' := Classical.not_not.2 h7
     refine GX.wR ?_; intros
     refine again (k + 1) ⟨rfl, rfl, rfl, rfl, trivial⟩ ⟨by omega, fun p hp => ?_⟩ (by omega)
     rw [List.take_add_one, hz, List.mem_append] at hp
     rcases hp with hp | hp
     ·exact hA p hp
     ·simp at hp; subst hp; exact ⟨h6, h7⟩
    ·refine GX.wR ?_; intros
     exact rt1 () (vN fun h => h7 ((e.1 h).1.2.2.2 (a, w) (List.mem_of_getElem? hz)).2)
  ·rw [List.take_of_length_le (by omega)] at hA
   have hh : 0 ≤ g.params ∧ g.params ≤ (g.vars.length : Int) ∧ (i.args.length : Int) = g.params ∧ (∀ p ∈ i.args.zip g.vars, rof u p.1 ≠ -4 ∧ RInto p.2 (rof u p.1)) := ⟨by omega, by omega, h5, hA⟩
   by_cases h6 : i.a = -1
   ·refine GX.wR ?_; intros
    exact rt1 () (vY (e.2 ⟨hh, .inl h6⟩))
   ·refine GX.wR ?_; intros
    refine GX.o (cl (rof_spec _ u _) fun _ => ?_)
    by_cases h7 : rof u i.a = -4
    ·refine GX.wR ?_; intros
     exact rt1 () (vN fun h => (e.1 h).2.elim h6 (fun h => h.1 h7))
    ·by_cases h8 : g.result = -3
     ·refine GX.wR ?_; intros
      exact rt1 () (vN fun h => (e.1 h).2.elim h6 (fun h => h.2.1 h8))
     ·refine GX.wR ?_; intros
      refine GX.o (cl (rinto_spec _ g.result) fun _ => ?_)
      refine GX.wR ?_; intros
      exact rt1 () (vI (e.trans ⟨fun h => h.2.elim (fun h => absurd h h6) (fun h => h.2.2), fun h => ⟨hh, .inr ⟨h7, h8, h⟩⟩⟩))
 ·refine GX.wR ?_; intros
  exact rt1 () (vN fun h => h5 (e.1 h).1.2.2.1)
set_option maxHeartbeats 2000000 in
theorem named_spec (cs : List Value) (i : Ins) : Does Tryz.prog 87 [.agg cs.toArray] [Ag tyIns cs i] []
  (fun _ : Unit => .bool (decide (Named i))) (fun _ => []) (fun _ => []) := by
 refine enter Tryz.func87 rfl Tryz.ntmps87 rfl fun b => ?_
 refine GX.wRB ?_; intros
 refine GX.nmP 1 ?_; rintro b1 rfl
 refine GX.cut (σ := Unit) (fun _ => [(1, .pointer (some ⟨b1, 0, none⟩)), (3, .bool (rnames i.op).2.1), (4, .bool (rnames i.op).2.2.1), (5, .bool (rnames i.op).2.2.2.1), (6, .bool (rnames i.op).2.2.2.2), (7, .bool (rnames i.op).1)]) (fun _ => []) (fun _ => []) (fun _ => True) ?_ (fun _ _ => ?_)
 ·repeat' (first | (apply GX.s_list; first | apply GX.nil | (refine GX.o ?_; first | (apply GX.k_load; first | refine GX.lr ?_ | refine GX.lrA ?_ | refine GX.ln ?_ | refine GX.lb ?_ | refine GX.lh ?_ | (refine GX.ls ?_; intro ao cap _ _) | (refine GX.lA ?_; intro cs) | (refine GX.l0 ?_; intro cs) | refine GX.o1n ?_ | refine GX.o1b ?_ | refine GX.o1h ?_ | (refine GX.o1s ?_; intro ao cap _ _) | refine GX.omn ?_ | refine GX.omb ?_ | refine GX.omh ?_ | (refine GX.oms ?_; intro ao cap _ _) | refine GX.ofn ?_ | refine GX.ofb ?_ | refine GX.ofh ?_ | (refine GX.ofs ?_; intro ao cap _ _) | (refine GX.oA ?_; intro cs)) | (apply GX.k_move; refine GX.m ?_) | (apply GX.k_assign; refine GX.a ?_) | (apply GX.k_fieldAddr; first | refine GX.f0 ?_ | refine GX.fh ?_ | refine GX.fa ?_) | (apply GX.k_call; refine GX.c_len ?_) | (apply GX.k_pick; first | refine GX.pt ?_ | refine GX.pf ?_ | refine GX.pk ?_) | (apply GX.k_box; first | (refine GX.bxF ?_; intro _) | (refine GX.bxR ?_; intro _)) | (apply GX.k_binOp_eql; first | refine GX.b_eql ?_ | refine GX.b_pn ?_ | refine GX.b_nn ?_ | refine GX.b_snn ?_ | refine GX.b_sns ?_ | refine GX.b_eqls ?_ | refine GX.b_eqltf ?_ | refine GX.b_eqlft ?_ | refine GX.b_eqlb ?_)) | refine GX.gt ?_ | refine GX.gf ?_ | refine GX.gbt ?_ | refine GX.gbf ?_ | refine GX.un ?_ | refine GX.un0 ?_ | (refine GX.gs ?_ ?_ <;> intro _) | (refine GX.gsb ?_ ?_ <;> intro _)) | apply GX.then_normal | apply GX.seq | apply GX.region | (apply GX.s_cond; first | refine GX.ct ?_ | refine GX.cf ?_ | refine GX.cdf ?_ | refine GX.cdt ?_ | refine GX.cbt ?_ | refine GX.cbf ?_ | (refine GX.cs ?_ ?_ <;> intro _) | (refine GX.csb ?_ ?_ <;> intro _)) | apply GX.skip | apply GX.block | apply GX.inBlock_normal | apply GX.exit | apply GX.then_exit | apply GX.inBlock_exit | refine GX.ibo ?_ | apply GX.ret | apply GX.then_ret | apply GX.inBlock_ret)
  all_goals refine meet () ⟨rfl, (rfl : RX.lk _ 3 = some (.bool _)).trans ?_, (rfl : RX.lk _ 4 = some (.bool _)).trans ?_, (rfl : RX.lk _ 5 = some (.bool _)).trans ?_, (rfl : RX.lk _ 6 = some (.bool _)).trans ?_, (rfl : RX.lk _ 7 = some (.bool _)).trans ?_, trivial⟩ trivial
  all_goals (unfold rnames; simp_all)
 ·have e : Named i ↔ Only i (rnames i.op).1 (rnames i.op).2.1 (rnames i.op).2.2.1 (rnames i.op).2.2.2.1 (rnames i.op).2.2.2.2 := Iff.rfl
  generalize rnames i.op = x at *
  obtain ⟨a, c, d, n, g⟩ := x
  dsimp only at *
  have eg : (i.args.length : Int) = 0 ↔ i.args = [] := by rw [← List.length_eq_zero_iff]; omega
  repeat' (first | (apply GX.s_list; first | apply GX.nil | (refine GX.o ?_; first | (apply GX.k_load; first | refine GX.lr ?_ | refine GX.lrA ?_ | refine GX.ln ?_ | refine GX.lb ?_ | refine GX.lh ?_ | (refine GX.ls ?_; intro ao cap _ _) | (refine GX.lA ?_; intro cs) | (refine GX.l0 ?_; intro cs) | refine GX.o1n ?_ | refine GX.o1b ?_ | refine GX.o1h ?_ | (refine GX.o1s ?_; intro ao cap _ _) | refine GX.omn ?_ | refine GX.omb ?_ | refine GX.omh ?_ | (refine GX.oms ?_; intro ao cap _ _) | refine GX.ofn ?_ | refine GX.ofb ?_ | refine GX.ofh ?_ | (refine GX.ofs ?_; intro ao cap _ _) | (refine GX.oA ?_; intro cs)) | (apply GX.k_move; refine GX.m ?_) | (apply GX.k_assign; refine GX.a ?_) | (apply GX.k_fieldAddr; first | refine GX.f0 ?_ | refine GX.fh ?_ | refine GX.fa ?_) | (apply GX.k_call; refine GX.c_len ?_) | (apply GX.k_pick; first | refine GX.pt ?_ | refine GX.pf ?_ | refine GX.pk ?_) | (apply GX.k_box; first | (refine GX.bxF ?_; intro _) | (refine GX.bxR ?_; intro _)) | (apply GX.k_binOp_eql; first | refine GX.b_eql ?_ | refine GX.b_pn ?_ | refine GX.b_nn ?_ | refine GX.b_snn ?_ | refine GX.b_sns ?_ | refine GX.b_eqls ?_ | refine GX.b_eqltf ?_ | refine GX.b_eqlft ?_ | refine GX.b_eqlb ?_)) | refine GX.gt ?_ | refine GX.gf ?_ | refine GX.gbt ?_ | refine GX.gbf ?_ | refine GX.un ?_ | refine GX.un0 ?_ | (refine GX.gs ?_ ?_ <;> intro _) | (refine GX.gsb ?_ ?_ <;> intro _)) | apply GX.then_normal | apply GX.seq | apply GX.region | (apply GX.s_cond; first | refine GX.ct ?_ | refine GX.cf ?_ | refine GX.cdf ?_ | refine GX.cdt ?_ | refine GX.cbt ?_ | refine GX.cbf ?_ | (refine GX.cs ?_ ?_ <;> intro _) | (refine GX.csb ?_ ?_ <;> intro _)) | apply GX.skip | apply GX.block | apply GX.inBlock_normal | apply GX.exit | apply GX.then_exit | apply GX.inBlock_exit | refine GX.ibo ?_ | apply GX.ret | apply GX.then_ret | apply GX.inBlock_ret)
  all_goals first
   | exact rt1 () (vI (Q := ((i.args.length : Int) = 0)) (e.trans (by unfold Only; simp_all)))
   | exact rt1 () (vY (e.2 (by unfold Only; simp_all)))
   | exact rt1 () (vN (fun h => absurd (e.1 h) (by unfold Only; simp_all)))
end Go.Proofs.YtomadjefdghliaaGreat
namespace Go.RtM
open Go.RiseM Go.ReachM Go.Api
structure Hds (t : RTg) (u : Unt) : Prop where
 lay : ∀ L ∈ t.classes, LayoutOk t L
 vars : Entries t u.vars
 res : u.result = -3 ∨ IsEntry t u.result
 glob : Entries t t.globals
 units : ∀ g ∈ t.units, Entries t g.vars ∧ (g.result = -3 ∨ IsEntry t g.result) ∧ 0 ≤ g.params
section
variable {t : RTg} {u : Unt}
theorem ent {e : Int} (h : IsEntry t e) : -2 ≤ e ∧ e < (t.classes.length : Int) := (rentry_iff t e).2 h
theorem var (h : Hds t u) (n : Int) : (∃ e, -2 ≤ e ∧ e < (t.classes.length : Int) ∧ of u n = e ∧ rof u n = e) ∨ (of u n = -3 ∧ rof u n = -4) := by
 unfold of rof
 cases hg : gt u.vars n with
 | none => exact .inr ⟨rfl, rfl⟩
 | some e => have := ent (h.vars e (gt_mem hg)); exact .inl ⟨e, this.1, this.2, rfl, rfl⟩
theorem e_num (h : Hds t u) (n : Int) : of u n = -2 ↔ rof u n = -2 := by
 rcases var h n with ⟨e, _, _, h1, h2⟩ | ⟨h1, h2⟩ <;> rw [h1, h2] <;> omega
theorem e_there (h : Hds t u) (n : Int) : of u n ≠ -3 ↔ rof u n ≠ -4 := by
 rcases var h n with ⟨e, _, _, h1, h2⟩ | ⟨h1, h2⟩ <;> rw [h1, h2] <;> omega
theorem e_ref (h : Hds t u) (n : Int) : IsRef (of u n) ↔ -1 ≤ rof u n := by
 unfold IsRef
 rcases var h n with ⟨e, _, _, h1, h2⟩ | ⟨h1, h2⟩ <;> rw [h1, h2] <;> omega
theorem e_same (h : Hds t u) (n m : Int) (hm : 0 ≤ m) : of u n = m ↔ rof u n = m := by
 rcases var h n with ⟨e, _, _, h1, h2⟩ | ⟨h1, h2⟩ <;> rw [h1, h2] <;> omega
theorem e_intoL (h : Hds t u) (n : Int) {x : Int} (hx : -2 ≤ x) : Into (of u n) x ↔ rof u n ≠ -4 ∧ RInto (rof u n) x := by
 rcases var h n with ⟨e, h0, _, h1, h2⟩ | ⟨h1, h2⟩
 ·rw [h1, h2, into_iff h0 hx]
  exact ⟨fun h => ⟨by omega, h⟩, fun h => h.2⟩
 ·rw [h1, h2]
  exact ⟨fun h => absurd h none_into, fun h => absurd rfl h.1⟩
theorem e_intoR (h : Hds t u) (n : Int) {x : Int} (hx : -2 ≤ x) : Into x (of u n) ↔ rof u n ≠ -4 ∧ RInto x (rof u n) := by
 rcases var h n with ⟨e, h0, _, h1, h2⟩ | ⟨h1, h2⟩
 ·rw [h1, h2, into_iff hx h0]
  exact ⟨fun h => ⟨by omega, h⟩, fun h => h.2⟩
 ·rw [h1, h2]
  exact ⟨fun h => absurd h into_none, fun h => absurd rfl h.1⟩
theorem e_into (h : Hds t u) (n m : Int) : Into (of u n) (of u m) ↔ rof u n ≠ -4 ∧ rof u m ≠ -4 ∧ RInto (rof u n) (rof u m) := by
 rcases var h m with ⟨e, h0, _, h1, h2⟩ | ⟨h1, h2⟩
 ·rw [h1, h2, e_intoL h n h0]
  exact ⟨fun h => ⟨h.1, by omega, h.2⟩, fun h => ⟨h.1, h.2.2⟩⟩
 ·rw [h1, h2]
  exact ⟨fun h => absurd h into_none, fun h => absurd rfl h.2.1⟩
theorem e_rec (h : Hds t u) (f c : Int) : (∃ x, -2 ≤ x ∧ cell t u f false c = (x, false, true) ∧ record t (rof u f) c = (x, false)) ∨ (cell t u f false c = (0, true, true) ∧ record t (rof u f) c = (-4, true)) ∨ ((cell t u f false c).2.2 = false ∧ record t (rof u f) c = (-4, false)) := by
 have none : ∀ {e : Int}, (¬ (e = -1 ∧ 0 ≤ c ∧ c < 8)) → gt t.classes e = Option.none → record t e c = (-4, false) := fun h1 h2 => by unfold record; rw [if_neg h1, h2]
 rcases var h f with ⟨e, h0, h3, h1, h2⟩ | ⟨h1, h2⟩
 ·rw [h2]
  by_cases g1 : e = -1
  ·rw [cell_null (h1.trans g1)]
   by_cases g2 : 0 ≤ c ∧ c < 8
   ·refine .inr (.inl ⟨by rw [decide_eq_true g2], ?_⟩)
    unfold record; rw [if_pos ⟨g1, g2⟩]
   ·exact .inr (.inr ⟨decide_eq_false g2, none (fun h => g2 h.2) (gt_out (.inl (by omega)))⟩)
  ·have hn : ¬ (e = -1 ∧ 0 ≤ c ∧ c < 8) := fun h => g1 h.1
   by_cases g2 : e < 0
   ·have hg := gt_out (l := t.classes) (.inl g2)
    exact .inr (.inr ⟨by rw [cell_none (by omega) (by rw [h1]; exact hg)], none hn hg⟩)
   ·obtain ⟨L, hL, k, hk, hkl, hL2⟩ := gt_in (l := t.classes) (n := e) ⟨by omega, h3⟩
    have hLm := List.mem_of_getElem? hL2
    have hL' : gt t.classes (of u f) = some L := by rw [h1]; exact hL
    by_cases g3 : L.arr = true
    ·exact .inr (.inr ⟨by rw [cell_arr (by omega) hL' (by rw [g3]; simp)], record_arr hn hL g3⟩)
    ·have g3' : L.arr = false := by simpa using g3
     cases hx : gt L.refs c with
     | none => exact .inr (.inr ⟨by rw [cell_out (by omega) hL' g3' hx], record_out hn hL g3 hx⟩)
     | some x => exact .inl ⟨x, (ent ((h.lay L hLm).2.2 x (gt_mem hx))).1, cell_some (by omega) hL' g3' hx, record_some hn hL g3 hx⟩
 ·rw [h2]
  exact .inr (.inr ⟨by rw [cell_none (by omega) (gt_out (.inl (by omega)))], none (by omega) (gt_out (.inl (by omega)))⟩)
theorem e_arr (h : Hds t u) (f : Int) : (∃ x, -2 ≤ x ∧ cell t u f true 0 = (x, false, true) ∧ array t (rof u f) = (x, false)) ∨ (cell t u f true 0 = (0, true, true) ∧ array t (rof u f) = (-4, true)) ∨ ((cell t u f true 0).2.2 = false ∧ array t (rof u f) = (-4, false)) := by
 have none : ∀ {e : Int}, e ≠ -1 → gt t.classes e = Option.none → array t e = (-4, false) := fun h1 h2 => by unfold array; rw [if_neg h1, h2]
 rcases var h f with ⟨e, h0, h3, h1, h2⟩ | ⟨h1, h2⟩
 ·rw [h2]
  by_cases g1 : e = -1
  ·rw [cell_null (h1.trans g1)]
   refine .inr (.inl ⟨rfl, ?_⟩)
   unfold array; rw [if_pos g1]
  ·by_cases g2 : e < 0
   ·have hg := gt_out (l := t.classes) (.inl g2)
    exact .inr (.inr ⟨by rw [cell_none (by omega) (by rw [h1]; exact hg)], none g1 hg⟩)
   ·obtain ⟨L, hL, k, hk, hkl, hL2⟩ := gt_in (l := t.classes) (n := e) ⟨by omega, h3⟩
    have hLm := List.mem_of_getElem? hL2
    have hL' : gt t.classes (of u f) = some L := by rw [h1]; exact hL
    by_cases g3 : L.arr = true
    ·have hlen := (h.lay L hLm).2.1 g3
     obtain ⟨x, hx, _⟩ := gt_in (l := L.refs) (n := 0) ⟨by omega, by omega⟩
     exact .inl ⟨x, (ent ((h.lay L hLm).2.2 x (gt_mem hx))).1, cell_some (by omega) hL' g3 hx, array_some g1 hL g3 hx⟩
    ·exact .inr (.inr ⟨by rw [cell_arr (by omega) hL' g3], array_rec g1 hL g3⟩)
 ·rw [h2]
  exact .inr (.inr ⟨by rw [cell_none (by omega) (gt_out (.inl (by omega)))], none (by omega) (gt_out (.inl (by omega)))⟩)
theorem e_loads (h : Hds t u) (a : Int) {f c : Int} {arr : Bool} {r : Int × Bool} (hc : (∃ x, -2 ≤ x ∧ cell t u f arr c = (x, false, true) ∧ r = (x, false)) ∨ (cell t u f arr c = (0, true, true) ∧ r = (-4, true)) ∨ ((cell t u f arr c).2.2 = false ∧ r = (-4, false))) :
  Loads t u a f arr c ↔ rof u a ≠ -4 ∧ Has r (RInto (rof u a)) := by
 unfold Loads Has
 rcases hc with ⟨x, hx, h1, rfl⟩ | ⟨h1, rfl⟩ | ⟨h1, rfl⟩
 ·rw [h1]
  simp only [if_neg (show ¬ (false = true) by simp), e_intoL h a hx]
  exact ⟨fun h => ⟨h.2.1, .inr ⟨by omega, h.2.2⟩⟩, fun h => ⟨trivial, h.1, h.2.elim (fun h => by simp at h) (fun h => h.2)⟩⟩
 ·rw [h1]
  simp only [if_pos rfl, e_there h a]
  exact ⟨fun h => ⟨h.2, .inl trivial⟩, fun h => ⟨trivial, h.1⟩⟩
 ·rw [h1]
  exact ⟨fun h => by simp at h, fun h => by simp at h⟩
theorem e_lays (h : Hds t u) (d : Int) {f c : Int} {arr : Bool} {r : Int × Bool} (hc : (∃ x, -2 ≤ x ∧ cell t u f arr c = (x, false, true) ∧ r = (x, false)) ∨ (cell t u f arr c = (0, true, true) ∧ r = (-4, true)) ∨ ((cell t u f arr c).2.2 = false ∧ r = (-4, false))) :
  Lays t u f arr c d ↔ rof u d ≠ -4 ∧ Has r (fun e => RInto e (rof u d)) := by
 unfold Lays Has
 rcases hc with ⟨x, hx, h1, rfl⟩ | ⟨h1, rfl⟩ | ⟨h1, rfl⟩
 ·rw [h1]
  simp only [if_neg (show ¬ (false = true) by simp), e_intoR h d hx]
  exact ⟨fun h => ⟨h.2.1, .inr ⟨by omega, h.2.2⟩⟩, fun h => ⟨trivial, h.1, h.2.elim (fun h => by simp at h) (fun h => h.2)⟩⟩
 ·rw [h1]
  simp only [if_pos rfl, e_there h d]
  exact ⟨fun h => ⟨h.2, .inl trivial⟩, fun h => ⟨trivial, h.1⟩⟩
 ·rw [h1]
  exact ⟨fun h => by simp at h, fun h => by simp at h⟩
theorem e_len (h : Hds t u) (f : Int) : (cell t u f true 0).2.2 = true ↔ Has (array t (rof u f)) (fun _ => True) := by
 unfold Has
 rcases e_arr h f with ⟨x, hx, h1, h2⟩ | ⟨h1, h2⟩ | ⟨h1, h2⟩
 ·rw [h1, h2]; exact ⟨fun _ => .inr ⟨by omega, trivial⟩, fun _ => rfl⟩
 ·rw [h1, h2]; exact ⟨fun _ => .inl rfl, fun _ => rfl⟩
 ·rw [h1, h2]; exact ⟨fun h => by simp at h, fun h => by simp at h⟩
theorem e_fresh (h : Hds t u) (i : Ins) (arr : Bool) : Fresh t u i arr ↔ RClass t i.n arr ∧ rof u i.a = i.n := by
 unfold Fresh RClass
 cases hg : gt t.classes i.n with
 | none => simp
 | some L =>
  obtain ⟨k, hk, _⟩ := gt_some hg
  simp only [e_same h i.a i.n (by omega)]
theorem e_call (h : Hds t u) (i : Ins) : CallOk t u i ↔ RCall t u i := by
 unfold CallOk RCall
 cases hg : gt t.units i.c with
 | none => exact Iff.rfl
 | some g =>
  obtain ⟨hv, hr, hp⟩ := h.units g (gt_mem hg)
  simp only
  have z : (∀ p ∈ i.args.zip g.vars, Into p.2 (of u p.1)) ↔ ∀ p ∈ i.args.zip g.vars, rof u p.1 ≠ -4 ∧ RInto p.2 (rof u p.1) := by
   have key : ∀ p ∈ i.args.zip g.vars, (Into p.2 (of u p.1) ↔ rof u p.1 ≠ -4 ∧ RInto p.2 (rof u p.1)) := fun p hp => e_intoR h p.1 (ent (hv p.2 (List.of_mem_zip hp).2)).1
   exact ⟨fun h2 p hp => (key p hp).1 (h2 p hp), fun h2 p hp => (key p hp).2 (h2 p hp)⟩
  have r : Into (of u i.a) g.result ↔ rof u i.a ≠ -4 ∧ g.result ≠ -3 ∧ RInto (rof u i.a) g.result := by
   rcases hr with hr | hr
   ·rw [hr]; exact ⟨fun h => absurd h into_none, fun h => absurd rfl h.2.1⟩
   ·have := ent hr
    rw [e_intoL h i.a this.1]
    exact ⟨fun h => ⟨h.1, by omega, h.2⟩, fun h => ⟨h.1, h.2.2⟩⟩
  rw [z, r]
  exact ⟨fun h => ⟨⟨hp, h.1.2.1, h.1.1, h.1.2.2⟩, h.2⟩, fun h => ⟨⟨h.1.2.2.1, h.1.2.1, h.1.2.2.2⟩, h.2⟩⟩
theorem e_glob (h : Hds t u) (n : Int) {A B : Int → Prop} (hab : ∀ g, -2 ≤ g → (A g ↔ rof u n ≠ -4 ∧ B g)) (k : Int) : InG t k A ↔ rof u n ≠ -4 ∧ InG t k B := by
 unfold InG
 cases hg : gt t.globals k with
 | none => simp
 | some g => exact hab g (ent (h.glob g (gt_mem hg))).1
theorem e_two (h : Hds t u) (i : Ins) : Two u i ↔ (rof u i.a = -2 ∧ 14 ≤ i.n ∧ i.n ≤ 24) ∧ (if i.n = 21 ∨ i.n = 22 then rof u i.b ≠ -4 ∧ rof u i.c ≠ -4 ∧ (rof u i.b = -2 ↔ rof u i.c = -2) else rof u i.b = -2 ∧ rof u i.c = -2) := by
 unfold Two
 rw [e_num h i.a, e_num h i.b, e_num h i.c, e_ref h i.b, e_ref h i.c]
 have hb : rof u i.b = -4 ∨ -2 ≤ rof u i.b := by rcases var h i.b with ⟨e, h0, _, _, h2⟩ | ⟨_, h2⟩ <;> omega
 have hc : rof u i.c = -4 ∨ -2 ≤ rof u i.c := by rcases var h i.c with ⟨e, h0, _, _, h2⟩ | ⟨_, h2⟩ <;> omega
 split <;> rename_i hn <;> omega
theorem fits_step (h : Hds t u) (i : Ins) : (Bare i ∧ Fits t u i) ↔ Step t u i := by
 by_cases hop : i.op ∈ ([1, 2, 3, 4, 5, 6, 7, 8, 9, 10, 11, 12, 13, 14, 15, 16, 17, 18, 19, 20, 21, 22] : List Int)
 ·unfold Step
  rw [named_iff hop]
  refine and_congr_right fun _ => ?_
  simp only [List.mem_cons, List.not_mem_nil, or_false] at hop
  have L1 := e_loads h i.a (e_rec h i.b i.c)
  have L2 := e_lays h i.b (e_rec h i.a i.c)
  have L3 := e_loads h i.a (e_arr h i.b)
  have L4 := e_lays h i.c (e_arr h i.a)
  have L5 := e_len h i.b
  have L6 := e_fresh h i
  have L7 := e_call h i
  have L8 := e_two h i
  have L9 := e_into h i.a i.b
  have La := e_num h i.a
  have Lb := e_num h i.b
  have Lc := e_num h i.c
  have Lr := e_ref h i.a
  have G1 := e_glob h i.a (A := fun g => Into (of u i.a) g) (B := fun g => RInto (rof u i.a) g) (fun g hg => e_intoL h i.a hg) i.n
  have G2 := e_glob h i.a (A := fun g => Into g (of u i.a)) (B := fun g => RInto g (rof u i.a)) (fun g hg => e_intoR h i.a hg) i.n
  have R : (u.result = -3 ∧ i.a = -1 ∨ u.result ≠ -3 ∧ Into u.result (of u i.a)) ↔ (if u.result = -3 then i.a = -1 else rof u i.a ≠ -4 ∧ RInto u.result (rof u i.a)) := by
   rcases h.res with hr | hr
   ·rw [if_pos hr]; exact ⟨fun h => h.elim (fun h => h.2) (fun h => absurd hr h.1), fun h => .inl ⟨hr, h⟩⟩
   ·have := ent hr
    rw [if_neg (by omega), ← e_intoR h i.a this.1]
    exact ⟨fun h => h.elim (fun h => by omega) (fun h => h.2), fun h => .inr ⟨by omega, h⟩⟩
  unfold Fits Goes
  rcases hop with e | e | e | e | e | e | e | e | e | e | e | e | e | e | e | e | e | e | e | e | e | e <;> simp only [e, reduceCtorEq, Int.reduceEq, or_false, or_true, false_or, true_or, if_true, if_false, or_self, ↓reduceIte] <;> first
   | exact La | exact Lr | exact L9 | exact L8 | exact L1 | exact L2 | exact L7 | exact R | exact G1 | exact G2 | exact Iff.rfl
   | (rw [La, Lb]; exact ⟨fun h => ⟨h.2.1, h.2.2, h.1⟩, fun h => ⟨h.2.2, h.1, h.2.1⟩⟩)
   | (rw [Lc, L3]; exact ⟨fun h => ⟨h.2.1, h.1, h.2.2⟩, fun h => ⟨h.2.1, h.1, h.2.2⟩⟩)
   | (rw [Lb, L4]; exact ⟨fun h => ⟨h.2.1, h.1, h.2.2⟩, fun h => ⟨h.2.1, h.1, h.2.2⟩⟩)
   | (rw [L5, La]; exact ⟨fun h => ⟨h.2, h.1⟩, fun h => ⟨h.2, h.1⟩⟩)
   | exact L6 false
   | (rw [L6 true, Lb]; exact ⟨fun h => ⟨h.1.1, h.1.2, h.2⟩, fun h => ⟨⟨h.1, h.2.1⟩, h.2.2⟩⟩)
   | (rw [La])
 ·exact ⟨fun h => absurd (bare_op h.1) hop, fun h => absurd (step_op h) hop⟩
end
end Go.RtM
