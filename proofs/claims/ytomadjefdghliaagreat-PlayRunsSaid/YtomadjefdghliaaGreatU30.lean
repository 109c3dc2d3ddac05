import Derived.Test.YtomadjefdghliaaGreatU12
import Derived.Test.YtomadjefdghliaaGreatU29
import Derived.Lib.AppendZerosOnto
namespace Go.Proofs.YtomadjefdghliaaGreat
open Go Go.RR Go.RX Go.GX Go.Api Go.RtM
attribute [local irreducible] wpList Code.wp wpPlan Exit.then Exit.inBlock bodyPost NoPanic Went GX.Post GX.Again GX.Meet GX.RowR GX.Own GX.Owns GX.Box GX.Sl GX.Pt GX.Ag GX.MapR GX.Star GX.Kept GX.Pin wpT GoK AtEnd Both
def rmR : List Int → Tb → (Int → Int) → Tb × (Int → Int) × Bool
 | [], T, m => (T, m, true)
 | c :: l, T, m => if hasB T.B (m c) = true then rmR l (T.rem (m c)) (updI m c 0) else (T, m, false)
theorem RTab.make {c : RefC} {T : Tb} (h : RTab c T) (a : Option Addr) (k : Nat) : RTab (RefC.mk a k (c.B ++ [true]) c.aL c.cL c.L (max c.peak (liveN (c.B ++ [true]) : Int)) c.most) T.make := by
 obtain ⟨h1, h2, h3, h4⟩ := h
 exact ⟨by show c.B ++ _ = T.B ++ _; rw [h1], h2, by show max c.peak _ = max T.peak _; rw [h1, h3], h4⟩
theorem RTab.rem {c : RefC} {T : Tb} (h : RTab c T) (k : Nat) (hk : c.B[k]? = some true) : RTab (RefC.mk c.aR c.cR (c.B.set k false) c.aL c.cL c.L c.peak c.most) (T.rem ((k : Int) + 1)) := by
 obtain ⟨h1, h2, h3, h4⟩ := h
 unfold Tb.rem
 rw [if_pos (by rw [← h1]; exact hasB_in hk)]
 exact ⟨by show c.B.set k false = T.B.set _ false; rw [h1, show ((k : Int) + 1 - 1).toNat = k by omega], h2, h3, h4⟩
theorem Tb.rem_len (T : Tb) (r : Int) : (T.rem r).B.length = T.B.length := by
 unfold Tb.rem
 split
 ·exact List.length_set
 ·rfl
theorem hasB_k {B : List Bool} {r : Int} (h : hasB B r = true) : ∃ k : Nat, r = (k : Int) + 1 ∧ B[k]? = some true := by
 unfold hasB at h
 simp only [Bool.and_eq_true, decide_eq_true_eq] at h
 obtain ⟨h1, h2⟩ := h
 refine ⟨(r - 1).toNat, by omega, ?_⟩
 cases hx : B[(r - 1).toNat]? with
 | none => rw [hx] at h2; simp at h2
 | some b => rw [hx] at h2; simp at h2; rw [h2]
structure RegS where
 i : Nat
 c : RefC
 T : Tb
 m : Int → Int
theorem rcreate_t (tm : RTg) (km : MK) (vm : MV) (p : Nat) (q : Nat) (haf : vm.af = some ⟨q, 0, none⟩) (l : List RFr) (x : RFr) (hn : vm.nf = l.length + 1) (hb : l.length ≤ 1000) (gr : Nat) (m : Int → Int) (hrh : x.rh = (some ⟨gr, 0, none⟩, tm.classes.length, tm.classes.length))
  (aA : Option Addr) (cA : Nat) (xs : List Int) (hxl : xs.length ≤ 1000000) (hx : ∀ n ∈ xs, ∃ j : Nat, n = j ∧ j < tm.classes.length) (c : RefC) (T : Tb) (hT : RTab c T) (hB : T.B.length ≤ 900000000) (T1 : Tb) (m1 : Int → Int) (hr : crT xs T m = (T1, m1, true)) :
  Does Tryz.prog 76 [.pointer (some ⟨p, 0, none⟩), .slice aA xs.length cA] [Sl Ty.int aA cA xs] [RowR p 74 [.slice km.aC tm.classes.length km.cC, .slice km.aG tm.globals.length km.cG, .slice km.aU tm.units.length km.cU, .int .i64 tm.main, .slice km.aL (glob tm).length km.cL, .slice vm.ai vm.ni vm.ci, .slice c.aR c.B.length c.cR, .slice c.aL c.L.length c.cL, .int .i64 c.peak, .int .i64 c.most, .slice (some ⟨km.gb, 0, none⟩) tm.globals.length tm.globals.length, .slice vm.af vm.nf vm.cf, .int .i64 vm.en, .int .i64 vm.code, .slice vm.ao vm.no vm.co, .int .i64 vm.steps, .int .i64 vm.slack], GX.Own 4 Ty.bool c.aR c.cR c.B, GX.Own 139 tyThing c.aL c.cL (c.L.map thg), Owns 3 Ty.int (c.L.map (fun x : Th => x.2)), GX.Own 98 tyRFr vm.af vm.cf (l ++ [x]), GX.Own 3 Ty.int (some ⟨gr, 0, none⟩) tm.classes.length (regL tm.classes.length m)] (fun _ : {c' : RefC // RTab c' T1} => .tuple #[]) (fun _ => [])
   (fun s => [RowR p 74 [.slice km.aC tm.classes.length km.cC, .slice km.aG tm.globals.length km.cG, .slice km.aU tm.units.length km.cU, .int .i64 tm.main, .slice km.aL (glob tm).length km.cL, .slice vm.ai vm.ni vm.ci, .slice s.1.aR s.1.B.length s.1.cR, .slice s.1.aL s.1.L.length s.1.cL, .int .i64 s.1.peak, .int .i64 s.1.most, .slice (some ⟨km.gb, 0, none⟩) tm.globals.length tm.globals.length, .slice vm.af vm.nf vm.cf, .int .i64 vm.en, .int .i64 vm.code, .slice vm.ao vm.no vm.co, .int .i64 vm.steps, .int .i64 vm.slack], GX.Own 4 Ty.bool s.1.aR s.1.cR s.1.B, GX.Own 139 tyThing s.1.aL s.1.cL (s.1.L.map thg), Owns 3 Ty.int (s.1.L.map (fun x : Th => x.2)), GX.Own 98 tyRFr vm.af vm.cf (l ++ [x]), GX.Own 3 Ty.int (some ⟨gr, 0, none⟩) tm.classes.length (regL tm.classes.length m1)]) := by
 refine enter Tryz.func76 rfl Tryz.ntmps76 rfl fun _ => ?_
 obtain ⟨ai, ni, ci, af, nf, cf, bd, en, code, ao, no, co, st, sl⟩ := vm
 dsimp only at haf hn ⊢
 subst haf hn
 have hx9 : (l ++ [x])[l.length]? = some x := by simp
 refine GX.wp_R ?_; intros
 refine GX.loop (σ := RegS) (fun s => [(0, .pointer (some ⟨p, 0, none⟩)), (1, .slice aA xs.length cA), (4, .int .i64 (s.i : Int))]) (fun _ => []) (fun s => [RowR p 74 [.slice km.aC tm.classes.length km.cC, .slice km.aG tm.globals.length km.cG, .slice km.aU tm.units.length km.cU, .int .i64 tm.main, .slice km.aL (glob tm).length km.cL, .slice ai ni ci, .slice s.c.aR s.c.B.length s.c.cR, .slice s.c.aL s.c.L.length s.c.cL, .int .i64 s.c.peak, .int .i64 s.c.most, .slice (some ⟨km.gb, 0, none⟩) tm.globals.length tm.globals.length, .slice (some ⟨q, 0, none⟩) (l.length + 1) cf, .int .i64 en, .int .i64 code, .slice ao no co, .int .i64 st, .int .i64 sl], GX.Own 4 Ty.bool s.c.aR s.c.cR s.c.B, GX.Own 139 tyThing s.c.aL s.c.cL (s.c.L.map thg), Owns 3 Ty.int (s.c.L.map (fun x : Th => x.2)), GX.Own 98 tyRFr (some ⟨q, 0, none⟩) cf (l ++ [x]), GX.Own 3 Ty.int (some ⟨gr, 0, none⟩) tm.classes.length (regL tm.classes.length s.m)])
  (fun s => s.i ≤ xs.length ∧ RTab s.c s.T ∧ s.T.B.length ≤ 900000000 + s.i ∧ crT (xs.drop s.i) s.T s.m = (T1, m1, true)) (fun s => xs.length - s.i) ⟨0, c, T, m⟩ ⟨rfl, rfl, rfl, trivial⟩ ⟨Nat.zero_le _, hT, by show _ ≤ _ + 0; omega, hr⟩ (fun s hs => ?_)
 obtain ⟨hi, hT1, hB1, he⟩ := hs
 by_cases hlt : s.i < xs.length
 ·obtain ⟨y, hy⟩ := GX.get_lt hlt
  obtain ⟨j, hj, hjl⟩ := hx y (List.mem_of_getElem? hy)
  have hd9 : xs.drop s.i = y :: xs.drop (s.i + 1) := by
   obtain ⟨h1, h2⟩ := List.getElem?_eq_some_iff.1 hy
   rw [List.drop_eq_getElem_cons h1, h2]
  have hrg := regL_get (nc := tm.classes.length) (m := s.m) hjl
  have hrl := regL_len tm.classes.length s.m
  rw [hd9] at he
  subst hj
  refine GX.wp_R ?_; intros
  refine GX.drawn2 (GX.Own 98 tyRFr (some ⟨q, 0, none⟩) _ _) (GX.Own 3 Ty.int (some ⟨gr, 0, none⟩) _ _) (fun j => !(List.contains [] j)) [(0, true), (5, true), (6, true), (7, true), (8, true), (1, false), (2, true), (3, true), (4, true), (9, true), (10, true), (11, true)] rfl (by kernel_rfl) (by kernel_rfl) GX.sA ?_; intro wd F hW hR
  refine GX.wp_T ?_; intros
  refine GX.gow ?_
  refine (cl (rtop_spec tm km (⟨ai, ni, ci, some ⟨q, 0, none⟩, l.length + 1, cf, bd, en, code, ao, no, co, st, sl⟩ : MV) p s.c q rfl l.length rfl hb) fun _ => ?_)
  refine GX.wp_T ?_; intros
  try rw [hrh]
  refine GX.wp_T ?_; intros
  refine GX.unpin (GX.Own 98 tyRFr (some ⟨q, 0, none⟩) _ _) ?_
  refine GX.unpin (GX.Own 3 Ty.int (some ⟨gr, 0, none⟩) _ _) ?_
  by_cases hz : s.m (j : Int) = 0
  ·refine GX.wp_R ?_; intros
   refine GX.drawn1 (GX.Own 98 tyRFr (some ⟨q, 0, none⟩) _ _) (fun j => !(List.contains [14] j)) [(0, true), (5, true), (6, true), (7, true), (8, true), (9, true), (10, true), (11, true), (1, false), (2, true), (3, true), (4, true), (12, false), (13, true), (14, false)] rfl (by kernel_rfl) (by kernel_rfl) GX.sA ?_; intro wd F hW hR
   refine GX.wp_T ?_; intros
   refine GX.gow ?_
   refine (cl (rtop_spec tm km (⟨ai, ni, ci, some ⟨q, 0, none⟩, l.length + 1, cf, bd, en, code, ao, no, co, st, sl⟩ : MV) p s.c q rfl l.length rfl hb) fun _ => ?_)
   refine GX.wp_T ?_; intros
   try rw [hrh]
   refine GX.wp_T ?_; intros
   refine GX.gow ?_
   refine (cl (mmake_spec tm km (⟨ai, ni, ci, some ⟨q, 0, none⟩, l.length + 1, cf, bd, en, code, ao, no, co, st, sl⟩ : MV) p s.c (by rw [hT1.B]; omega)) fun s2 => ?_)
   try dsimp only
   refine GX.wp_T ?_; intros
   refine GX.unpin (GX.Own 98 tyRFr (some ⟨q, 0, none⟩) _ _) ?_
   refine GX.wp_T ?_; intros
   rw [regL_set]
   refine GX.wp_R ?_; intros
   refine again ⟨s.i + 1, RefC.mk s2.1 s2.2 (s.c.B ++ [true]) s.c.aL s.c.cL s.c.L (max s.c.peak (liveN (s.c.B ++ [true]) : Int)) s.c.most, s.T.make, updI s.m (j : Int) ((s.c.B.length + 1 : Nat) : Int)⟩ ⟨rfl, rfl, rfl, trivial⟩ ⟨by show s.i + 1 ≤ _; omega, hT1.make _ _, by show (s.T.B ++ [true]).length ≤ 900000000 + (s.i + 1); rw [List.length_append]; show _ + 1 ≤ _; omega, ?_⟩ (by show xs.length - (s.i + 1) < _; omega)
   rw [show crT ((j : Int) :: xs.drop (s.i + 1)) s.T s.m = crT (xs.drop (s.i + 1)) s.T.make (updI s.m (j : Int) ((s.T.B.length + 1 : Nat) : Int)) by show (if s.m (j : Int) ≠ 0 then _ else _) = _; rw [if_neg (fun h => h hz)]] at he
   show crT (xs.drop (s.i + 1)) s.T.make (updI s.m (j : Int) ((s.c.B.length + 1 : Nat) : Int)) = _
   rw [hT1.B]
   exact he
  have he2 : crT ((j : Int) :: xs.drop (s.i + 1)) s.T s.m = (s.T, s.m, false) := if_pos hz
  exact absurd (he2.symm.trans he) (by simp)
 ·obtain hie : s.i = xs.length := by omega
  have he2 : crT (xs.drop s.i) s.T s.m = (s.T, s.m, true) := by rw [hie, List.drop_length]; rfl
  obtain ⟨rfl, rfl⟩ : T1 = s.T ∧ m1 = s.m := by have h := he2.symm.trans he; exact ⟨(congrArg (·.1) h).symm, (congrArg (·.2.1) h).symm⟩
  refine GX.wp_R ?_; intros
  exact en0 ⟨s.c, hT1⟩
theorem rcreate_f (tm : RTg) (km : MK) (vm : MV) (p : Nat) (q : Nat) (haf : vm.af = some ⟨q, 0, none⟩) (l : List RFr) (x : RFr) (hn : vm.nf = l.length + 1) (hb : l.length ≤ 1000) (gr : Nat) (m : Int → Int) (hrh : x.rh = (some ⟨gr, 0, none⟩, tm.classes.length, tm.classes.length))
  (aA : Option Addr) (cA : Nat) (xs : List Int) (hxl : xs.length ≤ 1000000) (hx : ∀ n ∈ xs, ∃ j : Nat, n = j ∧ j < tm.classes.length) (c : RefC) (T : Tb) (hT : RTab c T) (hB : T.B.length ≤ 900000000) (T1 : Tb) (m1 : Int → Int) (hr : crT xs T m = (T1, m1, false)) :
  Does Tryz.prog 76 [.pointer (some ⟨p, 0, none⟩), .slice aA xs.length cA] [Sl Ty.int aA cA xs] [RowR p 74 [.slice km.aC tm.classes.length km.cC, .slice km.aG tm.globals.length km.cG, .slice km.aU tm.units.length km.cU, .int .i64 tm.main, .slice km.aL (glob tm).length km.cL, .slice vm.ai vm.ni vm.ci, .slice c.aR c.B.length c.cR, .slice c.aL c.L.length c.cL, .int .i64 c.peak, .int .i64 c.most, .slice (some ⟨km.gb, 0, none⟩) tm.globals.length tm.globals.length, .slice vm.af vm.nf vm.cf, .int .i64 vm.en, .int .i64 vm.code, .slice vm.ao vm.no vm.co, .int .i64 vm.steps, .int .i64 vm.slack], GX.Own 4 Ty.bool c.aR c.cR c.B, GX.Own 139 tyThing c.aL c.cL (c.L.map thg), Owns 3 Ty.int (c.L.map (fun x : Th => x.2)), GX.Own 98 tyRFr vm.af vm.cf (l ++ [x]), GX.Own 3 Ty.int (some ⟨gr, 0, none⟩) tm.classes.length (regL tm.classes.length m)] (fun _ : {c' : RefC // RTab c' T1} => .tuple #[]) (fun _ => [])
   (fun s => [RowR p 74 [.slice km.aC tm.classes.length km.cC, .slice km.aG tm.globals.length km.cG, .slice km.aU tm.units.length km.cU, .int .i64 tm.main, .slice km.aL (glob tm).length km.cL, .slice vm.ai vm.ni vm.ci, .slice s.1.aR s.1.B.length s.1.cR, .slice s.1.aL s.1.L.length s.1.cL, .int .i64 s.1.peak, .int .i64 s.1.most, .slice (some ⟨km.gb, 0, none⟩) tm.globals.length tm.globals.length, .slice vm.af vm.nf vm.cf, .int .i64 4, .int .i64 vm.code, .slice vm.ao vm.no vm.co, .int .i64 vm.steps, .int .i64 vm.slack], GX.Own 4 Ty.bool s.1.aR s.1.cR s.1.B, GX.Own 139 tyThing s.1.aL s.1.cL (s.1.L.map thg), Owns 3 Ty.int (s.1.L.map (fun x : Th => x.2)), GX.Own 98 tyRFr vm.af vm.cf (l ++ [x]), GX.Own 3 Ty.int (some ⟨gr, 0, none⟩) tm.classes.length (regL tm.classes.length m1)]) := by
 refine enter Tryz.func76 rfl Tryz.ntmps76 rfl fun _ => ?_
 obtain ⟨ai, ni, ci, af, nf, cf, bd, en, code, ao, no, co, st, sl⟩ := vm
 dsimp only at haf hn ⊢
 subst haf hn
 have hx9 : (l ++ [x])[l.length]? = some x := by simp
 refine GX.wp_R ?_; intros
 refine GX.loop (σ := RegS) (fun s => [(0, .pointer (some ⟨p, 0, none⟩)), (1, .slice aA xs.length cA), (4, .int .i64 (s.i : Int))]) (fun _ => []) (fun s => [RowR p 74 [.slice km.aC tm.classes.length km.cC, .slice km.aG tm.globals.length km.cG, .slice km.aU tm.units.length km.cU, .int .i64 tm.main, .slice km.aL (glob tm).length km.cL, .slice ai ni ci, .slice s.c.aR s.c.B.length s.c.cR, .slice s.c.aL s.c.L.length s.c.cL, .int .i64 s.c.peak, .int .i64 s.c.most, .slice (some ⟨km.gb, 0, none⟩) tm.globals.length tm.globals.length, .slice (some ⟨q, 0, none⟩) (l.length + 1) cf, .int .i64 en, .int .i64 code, .slice ao no co, .int .i64 st, .int .i64 sl], GX.Own 4 Ty.bool s.c.aR s.c.cR s.c.B, GX.Own 139 tyThing s.c.aL s.c.cL (s.c.L.map thg), Owns 3 Ty.int (s.c.L.map (fun x : Th => x.2)), GX.Own 98 tyRFr (some ⟨q, 0, none⟩) cf (l ++ [x]), GX.Own 3 Ty.int (some ⟨gr, 0, none⟩) tm.classes.length (regL tm.classes.length s.m)])
  (fun s => s.i ≤ xs.length ∧ RTab s.c s.T ∧ s.T.B.length ≤ 900000000 + s.i ∧ crT (xs.drop s.i) s.T s.m = (T1, m1, false)) (fun s => xs.length - s.i) ⟨0, c, T, m⟩ ⟨rfl, rfl, rfl, trivial⟩ ⟨Nat.zero_le _, hT, by show _ ≤ _ + 0; omega, hr⟩ (fun s hs => ?_)
 obtain ⟨hi, hT1, hB1, he⟩ := hs
 by_cases hlt : s.i < xs.length
 ·obtain ⟨y, hy⟩ := GX.get_lt hlt
  obtain ⟨j, hj, hjl⟩ := hx y (List.mem_of_getElem? hy)
  have hd9 : xs.drop s.i = y :: xs.drop (s.i + 1) := by
   obtain ⟨h1, h2⟩ := List.getElem?_eq_some_iff.1 hy
   rw [List.drop_eq_getElem_cons h1, h2]
  have hrg := regL_get (nc := tm.classes.length) (m := s.m) hjl
  have hrl := regL_len tm.classes.length s.m
  rw [hd9] at he
  subst hj
  refine GX.wp_R ?_; intros
  refine GX.drawn2 (GX.Own 98 tyRFr (some ⟨q, 0, none⟩) _ _) (GX.Own 3 Ty.int (some ⟨gr, 0, none⟩) _ _) (fun j => !(List.contains [] j)) [(0, true), (5, true), (6, true), (7, true), (8, true), (1, false), (2, true), (3, true), (4, true), (9, true), (10, true), (11, true)] rfl (by kernel_rfl) (by kernel_rfl) GX.sA ?_; intro wd F hW hR
  refine GX.wp_T ?_; intros
  refine GX.gow ?_
  refine (cl (rtop_spec tm km (⟨ai, ni, ci, some ⟨q, 0, none⟩, l.length + 1, cf, bd, en, code, ao, no, co, st, sl⟩ : MV) p s.c q rfl l.length rfl hb) fun _ => ?_)
  refine GX.wp_T ?_; intros
  try rw [hrh]
  refine GX.wp_T ?_; intros
  refine GX.unpin (GX.Own 98 tyRFr (some ⟨q, 0, none⟩) _ _) ?_
  refine GX.unpin (GX.Own 3 Ty.int (some ⟨gr, 0, none⟩) _ _) ?_
  by_cases hz : s.m (j : Int) = 0
  ·refine GX.wp_R ?_; intros
   refine GX.drawn1 (GX.Own 98 tyRFr (some ⟨q, 0, none⟩) _ _) (fun j => !(List.contains [14] j)) [(0, true), (5, true), (6, true), (7, true), (8, true), (9, true), (10, true), (11, true), (1, false), (2, true), (3, true), (4, true), (12, false), (13, true), (14, false)] rfl (by kernel_rfl) (by kernel_rfl) GX.sA ?_; intro wd F hW hR
   refine GX.wp_T ?_; intros
   refine GX.gow ?_
   refine (cl (rtop_spec tm km (⟨ai, ni, ci, some ⟨q, 0, none⟩, l.length + 1, cf, bd, en, code, ao, no, co, st, sl⟩ : MV) p s.c q rfl l.length rfl hb) fun _ => ?_)
   refine GX.wp_T ?_; intros
   try rw [hrh]
   refine GX.wp_T ?_; intros
   refine GX.gow ?_
   refine (cl (mmake_spec tm km (⟨ai, ni, ci, some ⟨q, 0, none⟩, l.length + 1, cf, bd, en, code, ao, no, co, st, sl⟩ : MV) p s.c (by rw [hT1.B]; omega)) fun s2 => ?_)
   try dsimp only
   refine GX.wp_T ?_; intros
   refine GX.unpin (GX.Own 98 tyRFr (some ⟨q, 0, none⟩) _ _) ?_
   refine GX.wp_T ?_; intros
   rw [regL_set]
   refine GX.wp_R ?_; intros
   refine again ⟨s.i + 1, RefC.mk s2.1 s2.2 (s.c.B ++ [true]) s.c.aL s.c.cL s.c.L (max s.c.peak (liveN (s.c.B ++ [true]) : Int)) s.c.most, s.T.make, updI s.m (j : Int) ((s.c.B.length + 1 : Nat) : Int)⟩ ⟨rfl, rfl, rfl, trivial⟩ ⟨by show s.i + 1 ≤ _; omega, hT1.make _ _, by show (s.T.B ++ [true]).length ≤ 900000000 + (s.i + 1); rw [List.length_append]; show _ + 1 ≤ _; omega, ?_⟩ (by show xs.length - (s.i + 1) < _; omega)
   rw [show crT ((j : Int) :: xs.drop (s.i + 1)) s.T s.m = crT (xs.drop (s.i + 1)) s.T.make (updI s.m (j : Int) ((s.T.B.length + 1 : Nat) : Int)) by show (if s.m (j : Int) ≠ 0 then _ else _) = _; rw [if_neg (fun h => h hz)]] at he
   show crT (xs.drop (s.i + 1)) s.T.make (updI s.m (j : Int) ((s.c.B.length + 1 : Nat) : Int)) = _
   rw [hT1.B]
   exact he
  have he2 : crT ((j : Int) :: xs.drop (s.i + 1)) s.T s.m = (s.T, s.m, false) := if_pos hz
  obtain ⟨rfl, rfl⟩ : T1 = s.T ∧ m1 = s.m := by have h := he2.symm.trans he; exact ⟨(congrArg (·.1) h).symm, (congrArg (·.2.1) h).symm⟩
  refine GX.wp_R ?_; intros
  refine GX.o (cl (rfault_spec tm km (⟨ai, ni, ci, some ⟨q, 0, none⟩, l.length + 1, cf, bd, en, code, ao, no, co, st, sl⟩ : MV) p s.c) fun _ => ?_)
  refine GX.wp_R ?_; intros
  exact rt0 ⟨s.c, hT1⟩
 ·obtain hie : s.i = xs.length := by omega
  have he2 : crT (xs.drop s.i) s.T s.m = (s.T, s.m, true) := by rw [hie, List.drop_length]; rfl
  exact absurd (he2.symm.trans he) (by simp)
theorem rremove_t (tm : RTg) (km : MK) (vm : MV) (p : Nat) (q : Nat) (haf : vm.af = some ⟨q, 0, none⟩) (l : List RFr) (x : RFr) (hn : vm.nf = l.length + 1) (hb : l.length ≤ 1000) (gr : Nat) (m : Int → Int) (hrh : x.rh = (some ⟨gr, 0, none⟩, tm.classes.length, tm.classes.length))
  (aA : Option Addr) (cA : Nat) (xs : List Int) (hxl : xs.length ≤ 1000000) (hx : ∀ n ∈ xs, ∃ j : Nat, n = j ∧ j < tm.classes.length) (c : RefC) (T : Tb) (hT : RTab c T) (hB : T.B.length ≤ 900000000) (T1 : Tb) (m1 : Int → Int) (hr : rmR xs T m = (T1, m1, true)) :
  Does Tryz.prog 77 [.pointer (some ⟨p, 0, none⟩), .slice aA xs.length cA] [Sl Ty.int aA cA xs] [RowR p 74 [.slice km.aC tm.classes.length km.cC, .slice km.aG tm.globals.length km.cG, .slice km.aU tm.units.length km.cU, .int .i64 tm.main, .slice km.aL (glob tm).length km.cL, .slice vm.ai vm.ni vm.ci, .slice c.aR c.B.length c.cR, .slice c.aL c.L.length c.cL, .int .i64 c.peak, .int .i64 c.most, .slice (some ⟨km.gb, 0, none⟩) tm.globals.length tm.globals.length, .slice vm.af vm.nf vm.cf, .int .i64 vm.en, .int .i64 vm.code, .slice vm.ao vm.no vm.co, .int .i64 vm.steps, .int .i64 vm.slack], GX.Own 4 Ty.bool c.aR c.cR c.B, GX.Own 139 tyThing c.aL c.cL (c.L.map thg), Owns 3 Ty.int (c.L.map (fun x : Th => x.2)), GX.Own 98 tyRFr vm.af vm.cf (l ++ [x]), GX.Own 3 Ty.int (some ⟨gr, 0, none⟩) tm.classes.length (regL tm.classes.length m)] (fun _ : {c' : RefC // RTab c' T1} => .tuple #[]) (fun _ => [])
   (fun s => [RowR p 74 [.slice km.aC tm.classes.length km.cC, .slice km.aG tm.globals.length km.cG, .slice km.aU tm.units.length km.cU, .int .i64 tm.main, .slice km.aL (glob tm).length km.cL, .slice vm.ai vm.ni vm.ci, .slice s.1.aR s.1.B.length s.1.cR, .slice s.1.aL s.1.L.length s.1.cL, .int .i64 s.1.peak, .int .i64 s.1.most, .slice (some ⟨km.gb, 0, none⟩) tm.globals.length tm.globals.length, .slice vm.af vm.nf vm.cf, .int .i64 vm.en, .int .i64 vm.code, .slice vm.ao vm.no vm.co, .int .i64 vm.steps, .int .i64 vm.slack], GX.Own 4 Ty.bool s.1.aR s.1.cR s.1.B, GX.Own 139 tyThing s.1.aL s.1.cL (s.1.L.map thg), Owns 3 Ty.int (s.1.L.map (fun x : Th => x.2)), GX.Own 98 tyRFr vm.af vm.cf (l ++ [x]), GX.Own 3 Ty.int (some ⟨gr, 0, none⟩) tm.classes.length (regL tm.classes.length m1)]) := by
 refine enter Tryz.func77 rfl Tryz.ntmps77 rfl fun _ => ?_
 obtain ⟨ai, ni, ci, af, nf, cf, bd, en, code, ao, no, co, st, sl⟩ := vm
 dsimp only at haf hn ⊢
 subst haf hn
 have hx9 : (l ++ [x])[l.length]? = some x := by simp
 refine GX.wp_R ?_; intros
 refine GX.loop (σ := RegS) (fun s => [(0, .pointer (some ⟨p, 0, none⟩)), (1, .slice aA xs.length cA), (4, .int .i64 (s.i : Int))]) (fun _ => []) (fun s => [RowR p 74 [.slice km.aC tm.classes.length km.cC, .slice km.aG tm.globals.length km.cG, .slice km.aU tm.units.length km.cU, .int .i64 tm.main, .slice km.aL (glob tm).length km.cL, .slice ai ni ci, .slice s.c.aR s.c.B.length s.c.cR, .slice s.c.aL s.c.L.length s.c.cL, .int .i64 s.c.peak, .int .i64 s.c.most, .slice (some ⟨km.gb, 0, none⟩) tm.globals.length tm.globals.length, .slice (some ⟨q, 0, none⟩) (l.length + 1) cf, .int .i64 en, .int .i64 code, .slice ao no co, .int .i64 st, .int .i64 sl], GX.Own 4 Ty.bool s.c.aR s.c.cR s.c.B, GX.Own 139 tyThing s.c.aL s.c.cL (s.c.L.map thg), Owns 3 Ty.int (s.c.L.map (fun x : Th => x.2)), GX.Own 98 tyRFr (some ⟨q, 0, none⟩) cf (l ++ [x]), GX.Own 3 Ty.int (some ⟨gr, 0, none⟩) tm.classes.length (regL tm.classes.length s.m)])
  (fun s => s.i ≤ xs.length ∧ RTab s.c s.T ∧ s.T.B.length ≤ 900000000 + s.i ∧ rmR (xs.drop s.i) s.T s.m = (T1, m1, true)) (fun s => xs.length - s.i) ⟨0, c, T, m⟩ ⟨rfl, rfl, rfl, trivial⟩ ⟨Nat.zero_le _, hT, by show _ ≤ _ + 0; omega, hr⟩ (fun s hs => ?_)
 obtain ⟨hi, hT1, hB1, he⟩ := hs
 by_cases hlt : s.i < xs.length
 ·obtain ⟨y, hy⟩ := GX.get_lt hlt
  obtain ⟨j, hj, hjl⟩ := hx y (List.mem_of_getElem? hy)
  have hd9 : xs.drop s.i = y :: xs.drop (s.i + 1) := by
   obtain ⟨h1, h2⟩ := List.getElem?_eq_some_iff.1 hy
   rw [List.drop_eq_getElem_cons h1, h2]
  have hrg := regL_get (nc := tm.classes.length) (m := s.m) hjl
  have hrl := regL_len tm.classes.length s.m
  rw [hd9] at he
  subst hj
  refine GX.wp_R ?_; intros
  refine GX.drawn2 (GX.Own 98 tyRFr (some ⟨q, 0, none⟩) _ _) (GX.Own 3 Ty.int (some ⟨gr, 0, none⟩) _ _) (fun j => !(List.contains [14] j)) [(0, true), (1, true), (2, true), (3, true), (8, true), (9, true), (10, true), (11, true), (4, false), (5, true), (6, true), (7, true), (12, true), (13, true), (14, false), (15, true)] rfl (by kernel_rfl) (by kernel_rfl) GX.sA ?_; intro wd F hW hR
  refine GX.wp_T ?_; intros
  refine GX.gow ?_
  refine (cl (rtop_spec tm km (⟨ai, ni, ci, some ⟨q, 0, none⟩, l.length + 1, cf, bd, en, code, ao, no, co, st, sl⟩ : MV) p s.c q rfl l.length rfl hb) fun _ => ?_)
  refine GX.wp_T ?_; intros
  try rw [hrh]
  refine GX.wp_T ?_; intros
  by_cases hz : hasB s.T.B (s.m (j : Int)) = true
  ·obtain ⟨k, hk, hkb⟩ := hasB_k hz
   rw [← hT1.B] at hkb
   refine GX.gow ?_
   rw [hk]
   refine (cl (mrem_yes tm km (⟨ai, ni, ci, some ⟨q, 0, none⟩, l.length + 1, cf, bd, en, code, ao, no, co, st, sl⟩ : MV) p s.c k hkb) fun s2 => ?_)
   try dsimp only
   refine GX.wp_T ?_; intros
   refine GX.unpin (GX.Own 98 tyRFr (some ⟨q, 0, none⟩) _ _) ?_
   refine GX.unpin (GX.Own 3 Ty.int (some ⟨gr, 0, none⟩) _ _) ?_
   refine GX.wp_R ?_; intros
   refine GX.drawn1 (GX.Own 98 tyRFr (some ⟨q, 0, none⟩) _ _) (fun j => !(List.contains [10] j)) [(0, true), (5, true), (6, true), (7, true), (8, true), (1, false), (2, true), (3, true), (4, true), (9, true), (10, false)] rfl (by kernel_rfl) (by kernel_rfl) GX.sA ?_; intro wd F hW hR
   refine GX.wp_T ?_; intros
   refine GX.gow ?_
   refine (cl (rtop_spec tm km (⟨ai, ni, ci, some ⟨q, 0, none⟩, l.length + 1, cf, bd, en, code, ao, no, co, st, sl⟩ : MV) p (RefC.mk s.c.aR s.c.cR (s.c.B.set k false) s.c.aL s.c.cL s.c.L s.c.peak s.c.most) q rfl l.length rfl hb) fun _ => ?_)
   refine GX.wp_T ?_; intros
   try rw [hrh]
   refine GX.wp_T ?_; intros
   refine GX.unpin (GX.Own 98 tyRFr (some ⟨q, 0, none⟩) _ _) ?_
   refine GX.wp_T ?_; intros
   rw [regL_set]
   refine GX.wp_R ?_; intros
   refine again ⟨s.i + 1, RefC.mk s.c.aR s.c.cR (s.c.B.set k false) s.c.aL s.c.cL s.c.L s.c.peak s.c.most, s.T.rem (s.m (j : Int)), updI s.m (j : Int) 0⟩ ⟨rfl, rfl, rfl, trivial⟩ ⟨by show s.i + 1 ≤ _; omega, by rw [hk]; exact hT1.rem k hkb, by show (s.T.rem _).B.length ≤ 900000000 + (s.i + 1); rw [Tb.rem_len]; omega, ?_⟩ (by show xs.length - (s.i + 1) < _; omega)
   rw [← he]
   exact (if_pos hz).symm
  have he2 : rmR ((j : Int) :: xs.drop (s.i + 1)) s.T s.m = (s.T, s.m, false) := if_neg hz
  exact absurd (he2.symm.trans he) (by simp)
 ·obtain hie : s.i = xs.length := by omega
  have he2 : rmR (xs.drop s.i) s.T s.m = (s.T, s.m, true) := by rw [hie, List.drop_length]; rfl
  obtain ⟨rfl, rfl⟩ : T1 = s.T ∧ m1 = s.m := by have h := he2.symm.trans he; exact ⟨(congrArg (·.1) h).symm, (congrArg (·.2.1) h).symm⟩
  refine GX.wp_R ?_; intros
  exact en0 ⟨s.c, hT1⟩
theorem rremove_f (tm : RTg) (km : MK) (vm : MV) (p : Nat) (q : Nat) (haf : vm.af = some ⟨q, 0, none⟩) (l : List RFr) (x : RFr) (hn : vm.nf = l.length + 1) (hb : l.length ≤ 1000) (gr : Nat) (m : Int → Int) (hrh : x.rh = (some ⟨gr, 0, none⟩, tm.classes.length, tm.classes.length))
  (aA : Option Addr) (cA : Nat) (xs : List Int) (hxl : xs.length ≤ 1000000) (hx : ∀ n ∈ xs, ∃ j : Nat, n = j ∧ j < tm.classes.length) (c : RefC) (T : Tb) (hT : RTab c T) (hB : T.B.length ≤ 900000000) (T1 : Tb) (m1 : Int → Int) (hr : rmR xs T m = (T1, m1, false)) :
  Does Tryz.prog 77 [.pointer (some ⟨p, 0, none⟩), .slice aA xs.length cA] [Sl Ty.int aA cA xs] [RowR p 74 [.slice km.aC tm.classes.length km.cC, .slice km.aG tm.globals.length km.cG, .slice km.aU tm.units.length km.cU, .int .i64 tm.main, .slice km.aL (glob tm).length km.cL, .slice vm.ai vm.ni vm.ci, .slice c.aR c.B.length c.cR, .slice c.aL c.L.length c.cL, .int .i64 c.peak, .int .i64 c.most, .slice (some ⟨km.gb, 0, none⟩) tm.globals.length tm.globals.length, .slice vm.af vm.nf vm.cf, .int .i64 vm.en, .int .i64 vm.code, .slice vm.ao vm.no vm.co, .int .i64 vm.steps, .int .i64 vm.slack], GX.Own 4 Ty.bool c.aR c.cR c.B, GX.Own 139 tyThing c.aL c.cL (c.L.map thg), Owns 3 Ty.int (c.L.map (fun x : Th => x.2)), GX.Own 98 tyRFr vm.af vm.cf (l ++ [x]), GX.Own 3 Ty.int (some ⟨gr, 0, none⟩) tm.classes.length (regL tm.classes.length m)] (fun _ : {c' : RefC // RTab c' T1} => .tuple #[]) (fun _ => [])
   (fun s => [RowR p 74 [.slice km.aC tm.classes.length km.cC, .slice km.aG tm.globals.length km.cG, .slice km.aU tm.units.length km.cU, .int .i64 tm.main, .slice km.aL (glob tm).length km.cL, .slice vm.ai vm.ni vm.ci, .slice s.1.aR s.1.B.length s.1.cR, .slice s.1.aL s.1.L.length s.1.cL, .int .i64 s.1.peak, .int .i64 s.1.most, .slice (some ⟨km.gb, 0, none⟩) tm.globals.length tm.globals.length, .slice vm.af vm.nf vm.cf, .int .i64 4, .int .i64 vm.code, .slice vm.ao vm.no vm.co, .int .i64 vm.steps, .int .i64 vm.slack], GX.Own 4 Ty.bool s.1.aR s.1.cR s.1.B, GX.Own 139 tyThing s.1.aL s.1.cL (s.1.L.map thg), Owns 3 Ty.int (s.1.L.map (fun x : Th => x.2)), GX.Own 98 tyRFr vm.af vm.cf (l ++ [x]), GX.Own 3 Ty.int (some ⟨gr, 0, none⟩) tm.classes.length (regL tm.classes.length m1)]) := by
 refine enter Tryz.func77 rfl Tryz.ntmps77 rfl fun _ => ?_
 obtain ⟨ai, ni, ci, af, nf, cf, bd, en, code, ao, no, co, st, sl⟩ := vm
 dsimp only at haf hn ⊢
 subst haf hn
 have hx9 : (l ++ [x])[l.length]? = some x := by simp
 refine GX.wp_R ?_; intros
 refine GX.loop (σ := RegS) (fun s => [(0, .pointer (some ⟨p, 0, none⟩)), (1, .slice aA xs.length cA), (4, .int .i64 (s.i : Int))]) (fun _ => []) (fun s => [RowR p 74 [.slice km.aC tm.classes.length km.cC, .slice km.aG tm.globals.length km.cG, .slice km.aU tm.units.length km.cU, .int .i64 tm.main, .slice km.aL (glob tm).length km.cL, .slice ai ni ci, .slice s.c.aR s.c.B.length s.c.cR, .slice s.c.aL s.c.L.length s.c.cL, .int .i64 s.c.peak, .int .i64 s.c.most, .slice (some ⟨km.gb, 0, none⟩) tm.globals.length tm.globals.length, .slice (some ⟨q, 0, none⟩) (l.length + 1) cf, .int .i64 en, .int .i64 code, .slice ao no co, .int .i64 st, .int .i64 sl], GX.Own 4 Ty.bool s.c.aR s.c.cR s.c.B, GX.Own 139 tyThing s.c.aL s.c.cL (s.c.L.map thg), Owns 3 Ty.int (s.c.L.map (fun x : Th => x.2)), GX.Own 98 tyRFr (some ⟨q, 0, none⟩) cf (l ++ [x]), GX.Own 3 Ty.int (some ⟨gr, 0, none⟩) tm.classes.length (regL tm.classes.length s.m)])
  (fun s => s.i ≤ xs.length ∧ RTab s.c s.T ∧ s.T.B.length ≤ 900000000 + s.i ∧ rmR (xs.drop s.i) s.T s.m = (T1, m1, false)) (fun s => xs.length - s.i) ⟨0, c, T, m⟩ ⟨rfl, rfl, rfl, trivial⟩ ⟨Nat.zero_le _, hT, by show _ ≤ _ + 0; omega, hr⟩ (fun s hs => ?_)
 obtain ⟨hi, hT1, hB1, he⟩ := hs
 by_cases hlt : s.i < xs.length
 ·obtain ⟨y, hy⟩ := GX.get_lt hlt
  obtain ⟨j, hj, hjl⟩ := hx y (List.mem_of_getElem? hy)
  have hd9 : xs.drop s.i = y :: xs.drop (s.i + 1) := by
   obtain ⟨h1, h2⟩ := List.getElem?_eq_some_iff.1 hy
   rw [List.drop_eq_getElem_cons h1, h2]
  have hrg := regL_get (nc := tm.classes.length) (m := s.m) hjl
  have hrl := regL_len tm.classes.length s.m
  rw [hd9] at he
  subst hj
  refine GX.wp_R ?_; intros
  refine GX.drawn2 (GX.Own 98 tyRFr (some ⟨q, 0, none⟩) _ _) (GX.Own 3 Ty.int (some ⟨gr, 0, none⟩) _ _) (fun j => !(List.contains [14] j)) [(0, true), (1, true), (2, true), (3, true), (8, true), (9, true), (10, true), (11, true), (4, false), (5, true), (6, true), (7, true), (12, true), (13, true), (14, false), (15, true)] rfl (by kernel_rfl) (by kernel_rfl) GX.sA ?_; intro wd F hW hR
  refine GX.wp_T ?_; intros
  refine GX.gow ?_
  refine (cl (rtop_spec tm km (⟨ai, ni, ci, some ⟨q, 0, none⟩, l.length + 1, cf, bd, en, code, ao, no, co, st, sl⟩ : MV) p s.c q rfl l.length rfl hb) fun _ => ?_)
  refine GX.wp_T ?_; intros
  try rw [hrh]
  refine GX.wp_T ?_; intros
  by_cases hz : hasB s.T.B (s.m (j : Int)) = true
  ·obtain ⟨k, hk, hkb⟩ := hasB_k hz
   rw [← hT1.B] at hkb
   refine GX.gow ?_
   rw [hk]
   refine (cl (mrem_yes tm km (⟨ai, ni, ci, some ⟨q, 0, none⟩, l.length + 1, cf, bd, en, code, ao, no, co, st, sl⟩ : MV) p s.c k hkb) fun s2 => ?_)
   try dsimp only
   refine GX.wp_T ?_; intros
   refine GX.unpin (GX.Own 98 tyRFr (some ⟨q, 0, none⟩) _ _) ?_
   refine GX.unpin (GX.Own 3 Ty.int (some ⟨gr, 0, none⟩) _ _) ?_
   refine GX.wp_R ?_; intros
   refine GX.drawn1 (GX.Own 98 tyRFr (some ⟨q, 0, none⟩) _ _) (fun j => !(List.contains [10] j)) [(0, true), (5, true), (6, true), (7, true), (8, true), (1, false), (2, true), (3, true), (4, true), (9, true), (10, false)] rfl (by kernel_rfl) (by kernel_rfl) GX.sA ?_; intro wd F hW hR
   refine GX.wp_T ?_; intros
   refine GX.gow ?_
   refine (cl (rtop_spec tm km (⟨ai, ni, ci, some ⟨q, 0, none⟩, l.length + 1, cf, bd, en, code, ao, no, co, st, sl⟩ : MV) p (RefC.mk s.c.aR s.c.cR (s.c.B.set k false) s.c.aL s.c.cL s.c.L s.c.peak s.c.most) q rfl l.length rfl hb) fun _ => ?_)
   refine GX.wp_T ?_; intros
   try rw [hrh]
   refine GX.wp_T ?_; intros
   refine GX.unpin (GX.Own 98 tyRFr (some ⟨q, 0, none⟩) _ _) ?_
   refine GX.wp_T ?_; intros
   rw [regL_set]
   refine GX.wp_R ?_; intros
   refine again ⟨s.i + 1, RefC.mk s.c.aR s.c.cR (s.c.B.set k false) s.c.aL s.c.cL s.c.L s.c.peak s.c.most, s.T.rem (s.m (j : Int)), updI s.m (j : Int) 0⟩ ⟨rfl, rfl, rfl, trivial⟩ ⟨by show s.i + 1 ≤ _; omega, by rw [hk]; exact hT1.rem k hkb, by show (s.T.rem _).B.length ≤ 900000000 + (s.i + 1); rw [Tb.rem_len]; omega, ?_⟩ (by show xs.length - (s.i + 1) < _; omega)
   rw [← he]
   exact (if_pos hz).symm
  have he2 : rmR ((j : Int) :: xs.drop (s.i + 1)) s.T s.m = (s.T, s.m, false) := if_neg hz
  obtain ⟨rfl, rfl⟩ : T1 = s.T ∧ m1 = s.m := by have h := he2.symm.trans he; exact ⟨(congrArg (·.1) h).symm, (congrArg (·.2.1) h).symm⟩
  rw [← hT1.B, Bool.not_eq_true] at hz
  refine GX.gow ?_
  refine (cl (mrem_no tm km (⟨ai, ni, ci, some ⟨q, 0, none⟩, l.length + 1, cf, bd, en, code, ao, no, co, st, sl⟩ : MV) p s.c _ hz) fun s2 => ?_)
  try dsimp only
  refine GX.wp_T ?_; intros
  refine GX.unpin (GX.Own 98 tyRFr (some ⟨q, 0, none⟩) _ _) ?_
  refine GX.unpin (GX.Own 3 Ty.int (some ⟨gr, 0, none⟩) _ _) ?_
  refine GX.wp_R ?_; intros
  refine GX.o (cl (rfault_spec tm km (⟨ai, ni, ci, some ⟨q, 0, none⟩, l.length + 1, cf, bd, en, code, ao, no, co, st, sl⟩ : MV) p s.c) fun _ => ?_)
  refine GX.wp_R ?_; intros
  exact rt0 ⟨s.c, hT1⟩
 ·obtain hie : s.i = xs.length := by omega
  have he2 : rmR (xs.drop s.i) s.T s.m = (s.T, s.m, true) := by rw [hie, List.drop_length]; rfl
  exact absurd (he2.symm.trans he) (by simp)
end Go.Proofs.YtomadjefdghliaaGreat
namespace Go.GX
open Go Go.RowKit Go.RR Go.RX
section
variable {P : Program} {n : Nat} {env : Env} {b : Base} {ps : List Pf} {hp : List Res} {Q : Exit → Act → World → Prop} {K : Act → World → Prop}
theorem zero_made (z : Array Value) (k : Nat) : (Builtin.zeroCells z k).toList = (madeCells z (k * z.size)).toList := rfl
theorem run_zeros_none {t tn et : TypeId} {zv : Value} {size bytes : Nat} [ht : USlice P t et] [hn : UInt P tn .i64] [hi : UElem P et zv size bytes] (w : World) (ty : TypeId) (ao : Option Addr) (m cap : Nat) (hm : m ≤ cap) :
  (Builtin.append_ #[t, tn] ty #[.slice ao m cap, .int .i64 0]).run P w = .ok (.slice ao m cap) w := by
 obtain ⟨ii, i0, i1, i2, i3⟩ := info_parts hi.i
 have hw : IntKind.i64.wrap 0 = 0 := by rw [IntKind.wrap_i64]; omega
 cases ao with
 | none => simp [Builtin.append_, run_underlying ht.u, run_underlying hn.u, sizeOf, typeInfo, i0, asInt, asIntOf, hw, hm]
 | some a => simp [Builtin.append_, run_underlying ht.u, run_underlying hn.u, sizeOf, typeInfo, i0, asInt, asIntOf, hw, hm, storeCells]
theorem run_zeros_room {t tn et : TypeId} {zv : Value} {size bytes : Nat} [ht : USlice P t et] [hn : UInt P tn .i64] [hi : UElem P et zv size bytes] (w : World) (ty : TypeId) (g m cap : Nat) (cur : Array Value) (hg : w.heap[g]? = some (.cells cur et (0, 0))) (k : Nat) (hk : 0 < k) (hsz : 0 < size) (hzs : zv.cells.size = size)
  (hz1 : ∀ u ∈ zv.cells, u.oneCell' = true) (hroom : m + k ≤ cap) (hcs : cur.size = cap * size) (h63 : k ≤ 9223372036854775807) (h48 : k * bytes ≤ 281474976710656) :
  (Builtin.append_ #[t, tn] ty #[.slice (some ⟨g, 0, none⟩) m cap, .int .i64 (k : Int)]).run P w =
   .ok (.slice (some ⟨g, 0, none⟩) (m + k) cap) (w.setRow g (cur.toList.take (m * size) ++ (Builtin.zeroCells zv.cells k).toList ++ cur.toList.drop (m * size + k * size)).toArray) := by
 obtain ⟨ii, i0, i1, i2, i3⟩ := info_parts hi.i
 subst i2; subst i3
 have hw : IntKind.i64.wrap (k : Int) = k := by rw [IntKind.wrap_i64]; omega
 have hneg : ¬ ((k : Int) < 0) := by omega
 have h48i : ¬ (281474976710656 < (k : Int) * (ii.bytes : Int)) := by rw [← Int.natCast_mul]; omega
 have hns : ¬ (k * ii.size = 0) := Nat.mul_ne_zero (by omega) (by omega)
 have hlen : (Builtin.zeroCells zv.cells k).toList.length = k * ii.size := by rw [Array.length_toList, size_zeroCells, hzs]
 have hone : ∀ u ∈ (Builtin.zeroCells zv.cells k).toList, u.oneCell' = true := by
  intro u hu
  rw [zero_made, hzs, made_flat hzs] at hu
  obtain ⟨l, hl, hul⟩ := List.mem_flatten.1 hu
  obtain rfl := List.eq_of_mem_replicate hl
  exact hz1 u (by simpa using hul)
 have hfit : m * ii.size + (Builtin.zeroCells zv.cells k).toList.length ≤ cur.size := by rw [hlen, hcs, ← Nat.add_mul]; exact Nat.mul_le_mul_right _ hroom
 have hst := run_storeCells_at P g (m * ii.size) et (Builtin.zeroCells zv.cells k).toList 0 cur w hg (by simpa using hfit) hone
 simp only [Nat.add_zero, hlen] at hst
 simp [Builtin.append_, run_underlying ht.u, run_underlying hn.u, sizeOf, typeInfo, zeroValue, i0, i1, asInt, asIntOf, hw, hneg, h48i, hns, hroom, Addr.add_lit] at hst ⊢
 simp [hst]
theorem apzs_acts {d : Nat} {ty : TypeId} {pos : String} {aft : Array Edge} {gd : Option (Nat × Bool)} {t tn et : TypeId} {x y : Operand} {α : Type} {e : Ty α} {zv : Value} {z : α} {size bytes c m cap : Nat} {i : Int} {ao : Option Addr} {xs : List α} [ht : USlice P t et] [hn : UInt P tn .i64] [hi : UElem P et zv size bytes] [hz : UTy P et e z zv]
  (hx : ev env x = some (.slice ao m cap)) (hy : ev env y = some (.int .i64 i)) (hm : m = xs.length) (hc : i = (c : Int)) (hb : (xs.length + c) * bytes ≤ 140737488355328) (h63 : xs.length + c ≤ 4611686018427387904) (hsz : e.size = size) (hzs : zv.cells.size = size) (hpos : Nat.blt 0 size = true) (hd : Nat.blt d n = true) :
  Acts P n env ps [Own et e ao cap xs] ⟨some d, .call { callee := .builtin .append, args := #[x, y], argTypes := #[t, tn] }, ty, pos, aft, gd⟩ (fun q : Option Addr × Nat => .slice q.1 (xs ++ List.replicate c z).length q.2) (fun _ => []) (fun q => [Own et e q.1 q.2 (xs ++ List.replicate c z)]) := by
 subst hm; subst hc; subst hsz
 intro F w K Q b s hk
 obtain ⟨cs, h1, h2⟩ : (Own et e ao cap xs).says F w := s.rs _ (by simp)
 have hpos' : 0 < e.size := by simpa [Nat.blt_eq] using hpos
 have hcap : xs.length ≤ cap := by
  rcases h1.2 with ⟨h3, h4⟩ | ⟨g', cap', cur, h3, _, _, h5, _⟩
  ·omega
  ·simp at h3; omega
 have hrl : (List.replicate c z).length = c := List.length_replicate
 have hlen : (xs ++ List.replicate c z).length = xs.length + c := by rw [List.length_append, hrl]
 by_cases h0 : c = 0
 ·subst h0
  refine RX.eff (v := .slice ao xs.length cap) (w' := w) (fun a ha => ?_) hd ?_
  ·have hrun := run_zeros_none (P := P) (t := t) (tn := tn) (et := et) (zv := zv) (size := e.size) (bytes := bytes) w ty ao xs.length cap hcap
   simp [execOp, ha.ev hx, ha.ev hy, resolve, invoke, builtin, hrun]
  ·have := hk (ao, cap) w (mkOk1 s (Upd.refl _ _) (by rw [List.replicate_zero, List.append_nil]; exact ⟨cs, h1, h2⟩) (fun k hk _ => by simpa using hk))
   simpa using this
 have hzr := hz.rd F w
 obtain ⟨ii, i0, i1, i2, i3⟩ := info_parts hi.i
 have hzl : (Builtin.zeroCells zv.cells c).toList.length = c * e.size := by rw [Array.length_toList, size_zeroCells, hzs]
 have hze : ∀ F w, Els e F w (Builtin.zeroCells zv.cells c).toList (List.replicate c z) := fun F w => by rw [zero_made, hzs, made_flat hzs]; exact els_rep (hz.rd F w) c
 have hz1 : ∀ u ∈ zv.cells, u.oneCell' = true := by
  intro u hu
  have h9 : Els e F w zv.cells.toList [z] := Els.single hzr
  exact h9.one u (by simpa using hu)
 have hgrow : ∀ old : Nat, old < xs.length + c → (w.drew.alloc (.cells (cs.toArray ++ Builtin.zeroCells zv.cells c ++ Builtin.zeroCells zv.cells (grownCap w (xs.length + c) old et - (xs.length + c))) et)).ownsRow 0 et e.size (.slice (some ⟨w.heap.size, 0, none⟩) (xs.length + c) (grownCap w (xs.length + c) old et)) (xs.length + c) (cs ++ (Builtin.zeroCells zv.cells c).toList) := by
  intro old _
  have hge := grownCap_ge w (xs.length + c) old et
  have hcm : grownCap w (xs.length + c) old et ≤ maxLen := grownCap_le_maxLen w _ _ et (by simp only [maxLen]; omega)
  refine ⟨by rw [List.length_append, h1.1, hzl, Nat.add_mul], .inr ⟨w.heap.size, _, _, rfl, Nat.zero_le _, heap_alloc_new w.drew _, hge, hcm, ?_, ?_⟩⟩
  ·simp only [Array.size_append, List.size_toArray, size_zeroCells, hzs, h1.1, ← Nat.add_mul]
   congr 1
   omega
  ·simp only [Array.toList_append]
   rw [show (xs.length + c) * e.size = (cs ++ (Builtin.zeroCells zv.cells c).toList).length by rw [List.length_append, h1.1, hzl, Nat.add_mul]]
   exact List.take_left
 have hnew : ∀ (g0 cp : Nat) (w' : World), w'.ownsRow 0 et e.size (.slice (some ⟨g0, 0, none⟩) (xs.length + c) cp) (xs.length + c) (cs ++ (Builtin.zeroCells zv.cells c).toList) → Upd (fun k => (Value.slice ao xs.length cap).ownBlock = some k) w w' → (g0 = w.heap.size ∨ (Value.slice ao xs.length cap).ownBlock = some g0) → E n ((d, .slice (some ⟨g0, 0, none⟩) (xs.length + c) cp) :: env) w' K := by
  intro g0 cp w' ho hu hg0
  have := hk (some ⟨g0, 0, none⟩, cp) w' (mkOk1 s hu ⟨cs ++ (Builtin.zeroCells zv.cells c).toList, by rw [hlen]; exact ho, (h2.append (hze F w)).move (fun _ _ h => h) (agF s (hu.mono fun k _ hk => ⟨Own et e ao cap xs, by simp, hk⟩))⟩ (fun k hk hlt => ?_))
  ·rwa [hlen] at this
  ·have hk : (some g0 : Option Nat) = some k := hk
   cases hk
   rcases hg0 with h | h
   ·omega
   ·exact h
 rcases h1.2 with ⟨h3, h4⟩ | ⟨g, cap', cur, h3, hbg, hg, h5, h6, hcs, htake⟩
 ·obtain ⟨rfl, h7, h8⟩ : ao = none ∧ xs.length = 0 ∧ cap = 0 := by simpa using h3
  have hcs0 : cs = [] := List.eq_nil_of_length_eq_zero (by rw [h1.1, h7]; simp)
  have hold : (Builtin.firstCells ii.size 0 (.slice none 0 0)).run P w.drew = .ok (#[] : Array Value) w.drew := run_firstCells_none w.drew ii.size 0 0 0
  have hr := Lib.run_append_grow_zeros (P := P) w t tn ty et ii zv .i64 .i64 ht.u hn.u i0 i1 none 0 0 [] hold c (by omega) (by omega) (by omega) (by omega) (by rw [i3]; rw [h7, Nat.zero_add] at hb; omega) (by rw [i3]; exact growslice_fits (by omega) (by rw [h7] at hb; simpa using hb))
  have hgr := hgrow 0 (by omega)
  rw [h7, Nat.zero_add] at hgr hnew
  simp only [Nat.zero_add] at hr
  subst hcs0
  refine RX.eff (w' := w.drew.alloc (.cells (([] : List Value).toArray ++ Builtin.zeroCells zv.cells c ++ Builtin.zeroCells zv.cells (grownCap w c 0 et - c)) et)) (fun a ha => ?_) hd (hnew w.heap.size (grownCap w c 0 et) _ hgr ⟨rfl, rfl, rfl, by simp, fun k hk _ => heap_alloc_old w.drew _ hk⟩ (.inl rfl))
  subst h8
  simp [execOp, ha.ev hx, ha.ev hy, resolve, invoke, builtin, h7, hr]
 ·obtain ⟨rfl, rfl⟩ : ao = some ⟨g, 0, none⟩ ∧ cap = cap' := by simpa using h3
  by_cases hroom : xs.length + c ≤ cap
  ·have hr := run_zeros_room (P := P) (t := t) (tn := tn) (et := et) (zv := zv) (size := e.size) (bytes := bytes) w ty g xs.length cap cur hg c (by omega) hpos' hzs hz1 hroom hcs (by omega) (by have := Nat.mul_le_mul_right bytes (show c ≤ xs.length + c by omega); omega)
   refine RX.eff (w' := w.setRow g (cur.toList.take (xs.length * e.size) ++ (Builtin.zeroCells zv.cells c).toList ++ cur.toList.drop (xs.length * e.size + c * e.size)).toArray) (fun a ha => ?_) hd (hnew g cap _ ⟨by rw [List.length_append, h1.1, hzl, Nat.add_mul], .inr ⟨g, cap, _, rfl, hbg, setRow_heap w g cur _ et _ hg, hroom, h6, ?_, ?_⟩⟩ ⟨rfl, rfl, rfl, by simp, fun k _ hk => setRow_other w g k _ (fun e => hk (by simp [Value.ownBlock, e]))⟩ (.inr rfl))
   ·simp [execOp, ha.ev hx, ha.ev hy, resolve, invoke, builtin, hr]
   ·have hfit : xs.length * e.size + c * e.size ≤ cap * e.size := by rw [← Nat.add_mul]; exact Nat.mul_le_mul_right _ hroom
    simp only [List.size_toArray, List.length_append, List.length_take, List.length_drop, Array.length_toList, size_zeroCells, hzs]
    omega
   ·rw [htake, show (xs.length + c) * e.size = (cs ++ (Builtin.zeroCells zv.cells c).toList).length by rw [List.length_append, h1.1, hzl, Nat.add_mul]]
    exact List.take_left
  ·have hl2 : cs.length = xs.length * ii.size := by rw [h1.1, i2]
   have hold : (Builtin.firstCells ii.size xs.length (.slice (some ⟨g, 0, none⟩) xs.length cap)).run P w.drew = .ok cs.toArray w.drew := by
    exact run_firstCells_some (P := P) w.drew ii.size xs.length ⟨g, 0, none⟩ xs.length cap cs hl2 (fun j u hj => by have := h1.cells (g := g) rfl j u hj; exact this)
   have hr := Lib.run_append_grow_zeros (P := P) w t tn ty et ii zv .i64 .i64 ht.u hn.u i0 i1 (some ⟨g, 0, none⟩) xs.length cap cs hold c (by omega) (by omega) (by omega) (by omega) (by rw [i3]; have := Nat.mul_le_mul_right bytes (show c ≤ xs.length + c by omega); omega) (by rw [i3]; exact growslice_fits (by omega) hb)
   refine RX.eff (w' := w.drew.alloc (.cells (cs.toArray ++ Builtin.zeroCells zv.cells c ++ Builtin.zeroCells zv.cells (grownCap w (xs.length + c) cap et - (xs.length + c))) et)) (fun a ha => ?_) hd (hnew w.heap.size (grownCap w (xs.length + c) cap et) _ (hgrow cap (by omega)) ⟨rfl, rfl, rfl, by simp, fun k hk _ => heap_alloc_old w.drew _ hk⟩ (.inl rfl))
   simp [execOp, ha.ev hx, ha.ev hy, resolve, invoke, builtin, hr]
theorem apzs {d : Nat} {ty : TypeId} {pos : String} {aft : Array Edge} {gd : Option (Nat × Bool)} {t tn et : TypeId} {x y : Operand} {α : Type} {e : Ty α} {zv : Value} {z : α} {size bytes m cap : Nat} {i : Int} {ao : Option Addr} {xs : List α} {rest : List Res} (c : Nat) [ht : USlice P t et] [hn : UInt P tn .i64] [hi : UElem P et zv size bytes]
  (h : ∀ ao' cap', G n ((d, .slice ao' (xs ++ List.replicate c z).length cap') :: env) b ps (Own et e ao' cap' (xs ++ List.replicate c z) :: rest) K) (hx : ev env x = some (.slice ao m cap) := by exact rfl) (hy : ev env y = some (.int .i64 i) := by exact rfl) (hf : FOwn ao hp et e cap xs rest := by exact inferInstance) (hz : UTy P et e z zv := by exact inferInstance) (hm : m = xs.length := by first | rfl | omega | (simp; done)) (hc : i = (c : Int) := by first | rfl | omega) (hb : (xs.length + c) * bytes ≤ 140737488355328 := by omega) (h63 : xs.length + c ≤ 4611686018427387904 := by omega) (hsz : e.size = size := by exact rfl) (hzs : zv.cells.size = size := by exact rfl) (hpos : Nat.blt 0 size = true := by exact rfl) (hd : Nat.blt d n = true := by exact rfl) :
  GO P n env b ps hp ⟨some d, .call { callee := .builtin .append, args := #[x, y], argTypes := #[t, tn] }, ty, pos, aft, gd⟩ K Q := act (apzs_acts hx hy hm hc hb h63 hsz hzs hpos hd) hf.p (fun q => h q.1 q.2)
end
end Go.GX
namespace Go.Proofs.YtomadjefdghliaaGreat
open Go Go.RR Go.RX Go.GX Go.Api Go.RtM
attribute [local irreducible] wpList Code.wp wpPlan Exit.then Exit.inBlock bodyPost NoPanic Went GX.Post GX.Again GX.Meet GX.RowR GX.Own GX.Owns GX.Box GX.Sl GX.Pt GX.Ag GX.MapR GX.Star GX.Kept GX.Pin wpT GoK AtEnd Both
theorem renter_spec (tm : RTg) (km : MK) (vm : MV) (p : Nat) (c : RefC) (l : List RFr) (hn : vm.nf = l.length) (hb : l.length ≤ 1000) (j : Nat) (u : Unt) (hu : tm.units[j]? = some u) (hv : u.vars.length ≤ 1000000) (to : Int) (aA : Option Addr) (cA : Nat) (xs : List Int) (hx : xs.length ≤ u.vars.length) (gr : Nat) :
  Does Tryz.prog 31 [.pointer (some ⟨p, 0, none⟩), .int .i64 (j : Int), .int .i64 to, .slice aA xs.length cA, .slice (some ⟨gr, 0, none⟩) tm.classes.length tm.classes.length] [Sl Ty.int aA cA xs, Sl tyUnt km.aU km.cU tm.units] [RowR p 74 [.slice km.aC tm.classes.length km.cC, .slice km.aG tm.globals.length km.cG, .slice km.aU tm.units.length km.cU, .int .i64 tm.main, .slice km.aL (glob tm).length km.cL, .slice vm.ai vm.ni vm.ci, .slice c.aR c.B.length c.cR, .slice c.aL c.L.length c.cL, .int .i64 c.peak, .int .i64 c.most, .slice (some ⟨km.gb, 0, none⟩) tm.globals.length tm.globals.length, .slice vm.af vm.nf vm.cf, .int .i64 vm.en, .int .i64 vm.code, .slice vm.ao vm.no vm.co, .int .i64 vm.steps, .int .i64 vm.slack], GX.Own 4 Ty.bool c.aR c.cR c.B, GX.Own 139 tyThing c.aL c.cL (c.L.map thg), Owns 3 Ty.int (c.L.map (fun x : Th => x.2)), GX.Own 98 tyRFr vm.af vm.cf l]
   (fun _ : (Option Addr × Nat) × Option Addr × Nat => .tuple #[]) (fun _ => [])
   (fun s => [RowR p 74 [.slice km.aC tm.classes.length km.cC, .slice km.aG tm.globals.length km.cG, .slice km.aU tm.units.length km.cU, .int .i64 tm.main, .slice km.aL (glob tm).length km.cL, .slice vm.ai vm.ni vm.ci, .slice c.aR c.B.length c.cR, .slice c.aL c.L.length c.cL, .int .i64 c.peak, .int .i64 c.most, .slice (some ⟨km.gb, 0, none⟩) tm.globals.length tm.globals.length, .slice s.2.1 (l.length + 1) s.2.2, .int .i64 vm.en, .int .i64 vm.code, .slice vm.ao vm.no vm.co, .int .i64 vm.steps, .int .i64 vm.slack], GX.Own 4 Ty.bool c.aR c.cR c.B, GX.Own 139 tyThing c.aL c.cL (c.L.map thg), Owns 3 Ty.int (c.L.map (fun x : Th => x.2)), GX.Own 98 tyRFr s.2.1 s.2.2 (l ++ [⟨(j : Int), 0, to, (s.1.1, u.vars.length, s.1.2), (some ⟨gr, 0, none⟩, tm.classes.length, tm.classes.length)⟩]), GX.Own 3 Ty.int s.1.1 s.1.2 (xs ++ List.replicate (u.vars.length - xs.length) 0)]) := by
 refine enter Tryz.func31 rfl Tryz.ntmps31 rfl fun _ => ?_
 obtain ⟨ai, ni, ci, af, nf, cf, bd, en, code, ao, no, co, st, sl⟩ := vm
 dsimp only at hn ⊢
 subst hn
 refine GX.wp_R ?_; intros
 refine GX.nmP 10 ?_; rintro b10 rfl
 refine frzB b10 ?_
 refine GX.drawn1 (RowR p 74 _) (fun j => !(List.contains [19, 22] j)) [(0, true), (1, true), (2, true), (3, true), (4, true), (5, true), (6, true), (7, true), (9, true), (10, true), (11, true), (12, true), (13, true), (14, true), (16, true), (8, false), (15, false), (17, true), (18, false), (19, false), (20, true), (21, true), (22, false)] rfl (by kernel_rfl) (by kernel_rfl) GX.sA ?_; intro wd F hW hR
 refine GX.wp_T ?_; intros
 have hlen : (xs ++ List.replicate (u.vars.length - xs.length) (0 : Int)).length = u.vars.length := by rw [List.length_append, List.length_replicate]; omega
 refine GX.gow ?_
 refine apzs (e := Ty.int) (z := (0 : Int)) (u.vars.length - xs.length) (fun av cv => ?_)
 rw [hlen]
 refine GX.wp_T ?_; intros
 refine GX.unpin (RowR p 74 _) ?_
 refine GX.wp_T ?_; intros
 refine GX.wp_R ?_; intros
 refine GX.nmS 38 ?_; rintro a38 c38 rfl rfl
 rw [show (l ++ [(⟨(j : Int), 0, to, (av, u.vars.length, cv), (some ⟨gr, 0, none⟩, tm.classes.length, tm.classes.length)⟩ : RFr)]).length = l.length + 1 by simp]
 exact en0 ((av, cv), a38, c38)
end Go.Proofs.YtomadjefdghliaaGreat
