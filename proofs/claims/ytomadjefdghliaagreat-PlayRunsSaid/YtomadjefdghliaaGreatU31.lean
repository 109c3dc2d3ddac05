import Derived.Test.YtomadjefdghliaaGreatU29
import Derived.Test.YtomadjefdghliaaGreatU30
namespace Go.Proofs.YtomadjefdghliaaGreat
open Go Go.RR Go.RX Go.GX Go.Api Go.RtM
attribute [local irreducible] wpList Code.wp wpPlan Exit.then Exit.inBlock bodyPost NoPanic Went GX.Post GX.Again GX.Meet GX.RowR GX.Own GX.Owns GX.Box GX.Sl GX.Pt GX.Ag GX.MapR GX.Star GX.Kept GX.Pin wpT GoK AtEnd Both
theorem regL_zero (nc : Nat) : List.replicate nc (0 : Int) = regL nc (fun _ => 0) := by
 apply List.ext_getElem?
 intro i
 by_cases h : i < nc
 ·rw [regL_get h, List.getElem?_replicate, if_pos h]
 ·rw [List.getElem?_eq_none (by rw [List.length_replicate]; omega), List.getElem?_eq_none (by rw [regL_len]; omega)]
theorem rcall_deep (tm : RTg) (km : MK) (vm : MV) (p : Nat) (c : RefC) (cs : List Value) (i : Ins) (h : 40 ≤ vm.nf) (hb : vm.nf ≤ 1000) :
  Does Tryz.prog 74 [.pointer (some ⟨p, 0, none⟩), .agg cs.toArray] [Ag tyIns cs i] [RowR p 74 [.slice km.aC tm.classes.length km.cC, .slice km.aG tm.globals.length km.cG, .slice km.aU tm.units.length km.cU, .int .i64 tm.main, .slice km.aL (glob tm).length km.cL, .slice vm.ai vm.ni vm.ci, .slice c.aR c.B.length c.cR, .slice c.aL c.L.length c.cL, .int .i64 c.peak, .int .i64 c.most, .slice (some ⟨km.gb, 0, none⟩) tm.globals.length tm.globals.length, .slice vm.af vm.nf vm.cf, .int .i64 vm.en, .int .i64 vm.code, .slice vm.ao vm.no vm.co, .int .i64 vm.steps, .int .i64 vm.slack], GX.Own 4 Ty.bool c.aR c.cR c.B, GX.Own 139 tyThing c.aL c.cL (c.L.map thg), Owns 3 Ty.int (c.L.map (fun x : Th => x.2))] (fun _ : Unit => .tuple #[]) (fun _ => []) (fun _ => [RowR p 74 [.slice km.aC tm.classes.length km.cC, .slice km.aG tm.globals.length km.cG, .slice km.aU tm.units.length km.cU, .int .i64 tm.main, .slice km.aL (glob tm).length km.cL, .slice (rtrapV vm 6).ai (rtrapV vm 6).ni (rtrapV vm 6).ci, .slice c.aR c.B.length c.cR, .slice c.aL c.L.length c.cL, .int .i64 c.peak, .int .i64 c.most, .slice (some ⟨km.gb, 0, none⟩) tm.globals.length tm.globals.length, .slice (rtrapV vm 6).af (rtrapV vm 6).nf (rtrapV vm 6).cf, .int .i64 (rtrapV vm 6).en, .int .i64 (rtrapV vm 6).code, .slice (rtrapV vm 6).ao (rtrapV vm 6).no (rtrapV vm 6).co, .int .i64 (rtrapV vm 6).steps, .int .i64 (rtrapV vm 6).slack], GX.Own 4 Ty.bool c.aR c.cR c.B, GX.Own 139 tyThing c.aL c.cL (c.L.map thg), Owns 3 Ty.int (c.L.map (fun x : Th => x.2))]) := by
 refine enter Tryz.func74 rfl Tryz.ntmps74 rfl fun _ => ?_
 refine GX.wp_R ?_; intros
 refine GX.o (cl (rtrap_spec tm km vm p c 6) fun _ => ?_)
 refine GX.wp_R ?_; intros
 exact rt0 ()
structure CalS where
 k : Nat
 m : Int → Int
structure ArgS where
 k : Nat
 a : Option Addr
 c : Nat
theorem rcall_no (tm : RTg) (km : MK) (vm : MV) (p : Nat) (c : RefC) (q : Nat) (haf : vm.af = some ⟨q, 0, none⟩) (l : List RFr) (av : Option Addr) (cv gr : Nat) (f : Fr) (hn : vm.nf = l.length + 1) (hb : l.length ≤ 900) (hd : l.length + 1 < 40) (cs : List Value) (i : Ins) (j : Nat) (g : Unt) (hg : tm.units[j]? = some g) (hj : i.c = (j : Int)) (hv : g.vars.length ≤ 1000000) (ht : ∀ n ∈ g.takes, ∃ d : Nat, n = d ∧ d < tm.classes.length) (htl : g.takes.length ≤ 1000000) (hnc : tm.classes.length ≤ 1000000) (hargs : ∀ n ∈ i.args, Vok f n) (hal : i.args.length ≤ g.vars.length) (hm : takeR (glob tm) c.B f g.takes (fun _ => 0) = none) :
  Does Tryz.prog 74 [.pointer (some ⟨p, 0, none⟩), .agg cs.toArray] [Ag tyIns cs i, Sl Ty.int km.aL km.cL (glob tm), Sl tyLayout km.aC km.cC tm.classes, Sl tyUnt km.aU km.cU tm.units] [RowR p 74 [.slice km.aC tm.classes.length km.cC, .slice km.aG tm.globals.length km.cG, .slice km.aU tm.units.length km.cU, .int .i64 tm.main, .slice km.aL (glob tm).length km.cL, .slice vm.ai vm.ni vm.ci, .slice c.aR c.B.length c.cR, .slice c.aL c.L.length c.cL, .int .i64 c.peak, .int .i64 c.most, .slice (some ⟨km.gb, 0, none⟩) tm.globals.length tm.globals.length, .slice vm.af vm.nf vm.cf, .int .i64 vm.en, .int .i64 vm.code, .slice vm.ao vm.no vm.co, .int .i64 vm.steps, .int .i64 vm.slack], GX.Own 4 Ty.bool c.aR c.cR c.B, GX.Own 139 tyThing c.aL c.cL (c.L.map thg), Owns 3 Ty.int (c.L.map (fun x : Th => x.2)), GX.Own 98 tyRFr vm.af vm.cf (l ++ [(rfr tm.classes.length ⟨av, cv, gr⟩ f)]), GX.Own 3 Ty.int av cv f.vars, GX.Own 3 Ty.int (some ⟨gr, 0, none⟩) tm.classes.length (regL tm.classes.length f.regs)] (fun _ : Unit => .tuple #[]) (fun _ => [])
   (fun s => [RowR p 74 [.slice km.aC tm.classes.length km.cC, .slice km.aG tm.globals.length km.cG, .slice km.aU tm.units.length km.cU, .int .i64 tm.main, .slice km.aL (glob tm).length km.cL, .slice vm.ai vm.ni vm.ci, .slice c.aR c.B.length c.cR, .slice c.aL c.L.length c.cL, .int .i64 c.peak, .int .i64 c.most, .slice (some ⟨km.gb, 0, none⟩) tm.globals.length tm.globals.length, .slice vm.af vm.nf vm.cf, .int .i64 4, .int .i64 vm.code, .slice vm.ao vm.no vm.co, .int .i64 vm.steps, .int .i64 vm.slack], GX.Own 4 Ty.bool c.aR c.cR c.B, GX.Own 139 tyThing c.aL c.cL (c.L.map thg), Owns 3 Ty.int (c.L.map (fun x : Th => x.2)), GX.Own 98 tyRFr vm.af vm.cf (l ++ [(rfr tm.classes.length ⟨av, cv, gr⟩ f)]), GX.Own 3 Ty.int av cv f.vars, GX.Own 3 Ty.int (some ⟨gr, 0, none⟩) tm.classes.length (regL tm.classes.length f.regs)]) := by
 refine enter Tryz.func74 rfl Tryz.ntmps74 rfl fun _ => ?_
 obtain ⟨ai, ni, ci, af, nf, cf, bd, en, code, ao, no, co, st, sl⟩ := vm
 dsimp only at haf hn ⊢
 subst haf hn
 have hd40 : ¬ (40 : Int) ≤ ((l.length + 1 : Nat) : Int) := by omega
 obtain ⟨X, hX⟩ : ∃ X : RFr, X = (rfr tm.classes.length ⟨av, cv, gr⟩ f) := ⟨_, rfl⟩
 rw [← hX]
 have hXv : X.vh = (av, f.vars.length, cv) := by rw [hX]; rfl
 have hXr : X.rh = (some ⟨gr, 0, none⟩, (regL tm.classes.length f.regs).length, (regL tm.classes.length f.regs).length) := by rw [hX, regL_len]; rfl
 have hx9 : (l ++ [X])[l.length]? = some X := by simp
 refine GX.wp_R ?_; intros
 refine GX.nmP 3 ?_; rintro b3 rfl
 refine GX.drawn1 (RowR p 74 _) (fun j => !(List.contains [10] j)) [(0, true), (1, true), (2, true), (3, true), (4, true), (5, true), (6, true), (7, true), (8, true), (9, false), (10, false)] rfl (by kernel_rfl) (by kernel_rfl) GX.sA ?_; intro wd F hW hR
 refine GX.wp_T ?_; intros
 rw [hj]
 refine GX.wp_T ?_; intros
 refine GX.unpin (RowR p 74 _) ?_
 refine GX.wp_T ?_; intros
 refine GX.wp_R ?_; intros
 refine GX.nmP 4 ?_; rintro b4 rfl
 refine frzB b4 ?_
 refine GX.wp_R ?_; intros
 refine GX.nmB 33 ?_; rintro b5 rfl
 rw [regL_zero]
 refine GX.loop (σ := CalS) (fun s => [(0, .pointer (some ⟨p, 0, none⟩)), (3, .pointer (some ⟨b3, 0, none⟩)), (4, .pointer (some ⟨b4, 0, none⟩)), (5, .slice (some ⟨b5, 0, none⟩) tm.classes.length tm.classes.length), (6, .int .i64 (s.k : Int))]) (fun _ => []) (fun s => [GX.Own 3 Ty.int (some ⟨b5, 0, none⟩) tm.classes.length (regL tm.classes.length s.m), RowR p 74 [.slice km.aC tm.classes.length km.cC, .slice km.aG tm.globals.length km.cG, .slice km.aU tm.units.length km.cU, .int .i64 tm.main, .slice km.aL (glob tm).length km.cL, .slice ai ni ci, .slice c.aR c.B.length c.cR, .slice c.aL c.L.length c.cL, .int .i64 c.peak, .int .i64 c.most, .slice (some ⟨km.gb, 0, none⟩) tm.globals.length tm.globals.length, .slice (some ⟨q, 0, none⟩) (l.length + 1) cf, .int .i64 en, .int .i64 code, .slice ao no co, .int .i64 st, .int .i64 sl], GX.Own 4 Ty.bool c.aR c.cR c.B, GX.Own 139 tyThing c.aL c.cL (c.L.map thg), Owns 3 Ty.int (c.L.map (fun x : Th => x.2)), GX.Own 98 tyRFr (some ⟨q, 0, none⟩) cf (l ++ [X]), GX.Own 3 Ty.int av cv f.vars, GX.Own 3 Ty.int (some ⟨gr, 0, none⟩) tm.classes.length (regL tm.classes.length f.regs)])
  (fun s => s.k ≤ g.takes.length ∧ takeR (glob tm) c.B f (g.takes.drop s.k) s.m = none) (fun s => g.takes.length - s.k) ⟨0, fun _ => 0⟩ ⟨rfl, rfl, rfl, rfl, rfl, trivial⟩ ⟨Nat.zero_le _, hm⟩ (fun s hs => ?_)
 obtain ⟨hi, he⟩ := hs
 by_cases hlt : s.k < g.takes.length
 ·obtain ⟨y, hy⟩ := GX.get_lt hlt
  obtain ⟨d, hd9, hdl⟩ := ht y (List.mem_of_getElem? hy)
  have hdr : g.takes.drop s.k = y :: g.takes.drop (s.k + 1) := by
   obtain ⟨h1, h2⟩ := List.getElem?_eq_some_iff.1 hy
   rw [List.drop_eq_getElem_cons h1, h2]
  have hrg := regL_get (nc := tm.classes.length) (m := f.regs) hdl
  have hrl := regL_len tm.classes.length s.m
  rw [hdr] at he
  subst hd9
  have hrc := rregion_spec tm km (⟨ai, ni, ci, some ⟨q, 0, none⟩, l.length + 1, cf, bd, en, code, ao, no, co, st, sl⟩ : MV) p c q rfl l X rfl (by omega) gr (regL tm.classes.length f.regs) hXr d (f.regs (d : Int)) hrg
  rw [regL_len] at hrc
  refine GX.wp_R ?_; intros
  refine GX.o (cl hrc fun _ => ?_)
  refine GX.wp_R ?_; intros
  refine GX.o (cl (mhas_spec tm km (⟨ai, ni, ci, some ⟨q, 0, none⟩, l.length + 1, cf, bd, en, code, ao, no, co, st, sl⟩ : MV) p c _) fun _ => ?_)
  cases hh : hasB c.B (if (d : Int) ∈ glob tm then 1 else f.regs (d : Int)) with
  | false =>
   have he2 : takeR (glob tm) c.B f ((d : Int) :: g.takes.drop (s.k + 1)) s.m = none := by
    show (if hasB c.B (reg (glob tm) f (d : Int)) = true then _ else none) = none
    unfold reg
    rw [hh]; rfl
   refine GX.wp_R ?_; intros
   refine GX.o (cl (rfault_spec tm km (⟨ai, ni, ci, some ⟨q, 0, none⟩, l.length + 1, cf, bd, en, code, ao, no, co, st, sl⟩ : MV) p c) fun _ => ?_)
   refine GX.wp_R ?_; intros
   exact rt0 ()
  | true =>
   rw [show takeR (glob tm) c.B f ((d : Int) :: g.takes.drop (s.k + 1)) s.m = takeR (glob tm) c.B f (g.takes.drop (s.k + 1)) (updI s.m (d : Int) (reg (glob tm) f (d : Int))) by
    show (if hasB c.B (reg (glob tm) f (d : Int)) = true then _ else none) = _
    rw [if_pos (by unfold reg; exact hh)]] at he
   refine GX.wp_R ?_; intros
   rw [regL_set]
   refine GX.wp_R ?_; intros
   exact again ⟨s.k + 1, updI s.m (d : Int) (reg (glob tm) f (d : Int))⟩ ⟨rfl, rfl, rfl, rfl, rfl, trivial⟩ ⟨by show s.k + 1 ≤ _; omega, he⟩ (by show g.takes.length - (s.k + 1) < _; omega)
 ·clear hm
  exact absurd he (by rw [show s.k = g.takes.length by omega, List.drop_length]; simp [takeR])
theorem rcall_yes (tm : RTg) (km : MK) (vm : MV) (p : Nat) (c : RefC) (q : Nat) (haf : vm.af = some ⟨q, 0, none⟩) (l : List RFr) (av : Option Addr) (cv gr : Nat) (f : Fr) (hn : vm.nf = l.length + 1) (hb : l.length ≤ 900) (hd : l.length + 1 < 40) (cs : List Value) (i : Ins) (j : Nat) (g : Unt) (hg : tm.units[j]? = some g) (hj : i.c = (j : Int)) (hv : g.vars.length ≤ 1000000) (ht : ∀ n ∈ g.takes, ∃ d : Nat, n = d ∧ d < tm.classes.length) (htl : g.takes.length ≤ 1000000) (hnc : tm.classes.length ≤ 1000000) (hargs : ∀ n ∈ i.args, Vok f n) (hal : i.args.length ≤ g.vars.length) (m' : Int → Int) (hm : takeR (glob tm) c.B f g.takes (fun _ => 0) = some m') :
  Does Tryz.prog 74 [.pointer (some ⟨p, 0, none⟩), .agg cs.toArray] [Ag tyIns cs i, Sl Ty.int km.aL km.cL (glob tm), Sl tyLayout km.aC km.cC tm.classes, Sl tyUnt km.aU km.cU tm.units] [RowR p 74 [.slice km.aC tm.classes.length km.cC, .slice km.aG tm.globals.length km.cG, .slice km.aU tm.units.length km.cU, .int .i64 tm.main, .slice km.aL (glob tm).length km.cL, .slice vm.ai vm.ni vm.ci, .slice c.aR c.B.length c.cR, .slice c.aL c.L.length c.cL, .int .i64 c.peak, .int .i64 c.most, .slice (some ⟨km.gb, 0, none⟩) tm.globals.length tm.globals.length, .slice vm.af vm.nf vm.cf, .int .i64 vm.en, .int .i64 vm.code, .slice vm.ao vm.no vm.co, .int .i64 vm.steps, .int .i64 vm.slack], GX.Own 4 Ty.bool c.aR c.cR c.B, GX.Own 139 tyThing c.aL c.cL (c.L.map thg), Owns 3 Ty.int (c.L.map (fun x : Th => x.2)), GX.Own 98 tyRFr vm.af vm.cf (l ++ [(rfr tm.classes.length ⟨av, cv, gr⟩ f)]), GX.Own 3 Ty.int av cv f.vars, GX.Own 3 Ty.int (some ⟨gr, 0, none⟩) tm.classes.length (regL tm.classes.length f.regs)] (fun _ : Nat × (Option Addr × Nat) × Option Addr × Nat => .tuple #[]) (fun _ => [])
   (fun s => [RowR p 74 [.slice km.aC tm.classes.length km.cC, .slice km.aG tm.globals.length km.cG, .slice km.aU tm.units.length km.cU, .int .i64 tm.main, .slice km.aL (glob tm).length km.cL, .slice vm.ai vm.ni vm.ci, .slice c.aR c.B.length c.cR, .slice c.aL c.L.length c.cL, .int .i64 c.peak, .int .i64 c.most, .slice (some ⟨km.gb, 0, none⟩) tm.globals.length tm.globals.length, .slice s.2.2.1 (l.length + 2) s.2.2.2, .int .i64 vm.en, .int .i64 vm.code, .slice vm.ao vm.no vm.co, .int .i64 vm.steps, .int .i64 vm.slack], GX.Own 4 Ty.bool c.aR c.cR c.B, GX.Own 139 tyThing c.aL c.cL (c.L.map thg), Owns 3 Ty.int (c.L.map (fun x : Th => x.2)), GX.Own 98 tyRFr s.2.2.1 s.2.2.2 (l ++ [(rfr tm.classes.length ⟨av, cv, gr⟩ f)] ++ [⟨(j : Int), 0, i.a, (s.2.1.1, g.vars.length, s.2.1.2), (some ⟨s.1, 0, none⟩, tm.classes.length, tm.classes.length)⟩]), GX.Own 3 Ty.int s.2.1.1 s.2.1.2 (argsV f i g.vars.length), GX.Own 3 Ty.int (some ⟨s.1, 0, none⟩) tm.classes.length (regL tm.classes.length m'), GX.Own 3 Ty.int av cv f.vars, GX.Own 3 Ty.int (some ⟨gr, 0, none⟩) tm.classes.length (regL tm.classes.length f.regs)]) := by
 refine enter Tryz.func74 rfl Tryz.ntmps74 rfl fun _ => ?_
 obtain ⟨ai, ni, ci, af, nf, cf, bd, en, code, ao, no, co, st, sl⟩ := vm
 dsimp only at haf hn ⊢
 subst haf hn
 have hd40 : ¬ (40 : Int) ≤ ((l.length + 1 : Nat) : Int) := by omega
 obtain ⟨X, hX⟩ : ∃ X : RFr, X = (rfr tm.classes.length ⟨av, cv, gr⟩ f) := ⟨_, rfl⟩
 rw [← hX]
 have hXv : X.vh = (av, f.vars.length, cv) := by rw [hX]; rfl
 have hXr : X.rh = (some ⟨gr, 0, none⟩, (regL tm.classes.length f.regs).length, (regL tm.classes.length f.regs).length) := by rw [hX, regL_len]; rfl
 have hx9 : (l ++ [X])[l.length]? = some X := by simp
 refine GX.wp_R ?_; intros
 refine GX.nmP 3 ?_; rintro b3 rfl
 refine GX.drawn1 (RowR p 74 _) (fun j => !(List.contains [10] j)) [(0, true), (1, true), (2, true), (3, true), (4, true), (5, true), (6, true), (7, true), (8, true), (9, false), (10, false)] rfl (by kernel_rfl) (by kernel_rfl) GX.sA ?_; intro wd F hW hR
 refine GX.wp_T ?_; intros
 rw [hj]
 refine GX.wp_T ?_; intros
 refine GX.unpin (RowR p 74 _) ?_
 refine GX.wp_T ?_; intros
 refine GX.wp_R ?_; intros
 refine GX.nmP 4 ?_; rintro b4 rfl
 refine frzB b4 ?_
 refine GX.wp_R ?_; intros
 refine GX.nmB 33 ?_; rintro b5 rfl
 rw [regL_zero]
 refine GX.loop (σ := CalS) (fun s => [(0, .pointer (some ⟨p, 0, none⟩)), (3, .pointer (some ⟨b3, 0, none⟩)), (4, .pointer (some ⟨b4, 0, none⟩)), (5, .slice (some ⟨b5, 0, none⟩) tm.classes.length tm.classes.length), (6, .int .i64 (s.k : Int))]) (fun _ => []) (fun s => [GX.Own 3 Ty.int (some ⟨b5, 0, none⟩) tm.classes.length (regL tm.classes.length s.m), RowR p 74 [.slice km.aC tm.classes.length km.cC, .slice km.aG tm.globals.length km.cG, .slice km.aU tm.units.length km.cU, .int .i64 tm.main, .slice km.aL (glob tm).length km.cL, .slice ai ni ci, .slice c.aR c.B.length c.cR, .slice c.aL c.L.length c.cL, .int .i64 c.peak, .int .i64 c.most, .slice (some ⟨km.gb, 0, none⟩) tm.globals.length tm.globals.length, .slice (some ⟨q, 0, none⟩) (l.length + 1) cf, .int .i64 en, .int .i64 code, .slice ao no co, .int .i64 st, .int .i64 sl], GX.Own 4 Ty.bool c.aR c.cR c.B, GX.Own 139 tyThing c.aL c.cL (c.L.map thg), Owns 3 Ty.int (c.L.map (fun x : Th => x.2)), GX.Own 98 tyRFr (some ⟨q, 0, none⟩) cf (l ++ [X]), GX.Own 3 Ty.int av cv f.vars, GX.Own 3 Ty.int (some ⟨gr, 0, none⟩) tm.classes.length (regL tm.classes.length f.regs)])
  (fun s => s.k ≤ g.takes.length ∧ takeR (glob tm) c.B f (g.takes.drop s.k) s.m = some m') (fun s => g.takes.length - s.k) ⟨0, fun _ => 0⟩ ⟨rfl, rfl, rfl, rfl, rfl, trivial⟩ ⟨Nat.zero_le _, hm⟩ (fun s hs => ?_)
 obtain ⟨hi, he⟩ := hs
 by_cases hlt : s.k < g.takes.length
 ·obtain ⟨y, hy⟩ := GX.get_lt hlt
  obtain ⟨d, hd9, hdl⟩ := ht y (List.mem_of_getElem? hy)
  have hdr : g.takes.drop s.k = y :: g.takes.drop (s.k + 1) := by
   obtain ⟨h1, h2⟩ := List.getElem?_eq_some_iff.1 hy
   rw [List.drop_eq_getElem_cons h1, h2]
  have hrg := regL_get (nc := tm.classes.length) (m := f.regs) hdl
  have hrl := regL_len tm.classes.length s.m
  rw [hdr] at he
  subst hd9
  have hrc := rregion_spec tm km (⟨ai, ni, ci, some ⟨q, 0, none⟩, l.length + 1, cf, bd, en, code, ao, no, co, st, sl⟩ : MV) p c q rfl l X rfl (by omega) gr (regL tm.classes.length f.regs) hXr d (f.regs (d : Int)) hrg
  rw [regL_len] at hrc
  refine GX.wp_R ?_; intros
  refine GX.o (cl hrc fun _ => ?_)
  refine GX.wp_R ?_; intros
  refine GX.o (cl (mhas_spec tm km (⟨ai, ni, ci, some ⟨q, 0, none⟩, l.length + 1, cf, bd, en, code, ao, no, co, st, sl⟩ : MV) p c _) fun _ => ?_)
  cases hh : hasB c.B (if (d : Int) ∈ glob tm then 1 else f.regs (d : Int)) with
  | false =>
   have he2 : takeR (glob tm) c.B f ((d : Int) :: g.takes.drop (s.k + 1)) s.m = none := by
    show (if hasB c.B (reg (glob tm) f (d : Int)) = true then _ else none) = none
    unfold reg
    rw [hh]; rfl
   exact absurd (he2.symm.trans he) (by simp)
  | true =>
   rw [show takeR (glob tm) c.B f ((d : Int) :: g.takes.drop (s.k + 1)) s.m = takeR (glob tm) c.B f (g.takes.drop (s.k + 1)) (updI s.m (d : Int) (reg (glob tm) f (d : Int))) by
    show (if hasB c.B (reg (glob tm) f (d : Int)) = true then _ else none) = _
    rw [if_pos (by unfold reg; exact hh)]] at he
   refine GX.wp_R ?_; intros
   rw [regL_set]
   refine GX.wp_R ?_; intros
   exact again ⟨s.k + 1, updI s.m (d : Int) (reg (glob tm) f (d : Int))⟩ ⟨rfl, rfl, rfl, rfl, rfl, trivial⟩ ⟨by show s.k + 1 ≤ _; omega, he⟩ (by show g.takes.length - (s.k + 1) < _; omega)
 ·clear hm
  obtain rfl : m' = s.m := by
   rw [show s.k = g.takes.length by omega, List.drop_length] at he
   exact (Option.some.inj he).symm
  generalize s.m = m2
  refine GX.wp_R ?_; intros
  refine ownNil 3 Ty.int ?_
  refine GX.loop (σ := ArgS) (fun s => [(0, .pointer (some ⟨p, 0, none⟩)), (3, .pointer (some ⟨b3, 0, none⟩)), (5, .slice (some ⟨b5, 0, none⟩) tm.classes.length tm.classes.length), (8, .slice s.a (i.args.take s.k |>.map (lkv f.vars)).length s.c), (9, .int .i64 (s.k : Int))]) (fun _ => []) (fun s => [GX.Own 3 Ty.int s.a s.c (i.args.take s.k |>.map (lkv f.vars)), RowR p 74 [.slice km.aC tm.classes.length km.cC, .slice km.aG tm.globals.length km.cG, .slice km.aU tm.units.length km.cU, .int .i64 tm.main, .slice km.aL (glob tm).length km.cL, .slice ai ni ci, .slice c.aR c.B.length c.cR, .slice c.aL c.L.length c.cL, .int .i64 c.peak, .int .i64 c.most, .slice (some ⟨km.gb, 0, none⟩) tm.globals.length tm.globals.length, .slice (some ⟨q, 0, none⟩) (l.length + 1) cf, .int .i64 en, .int .i64 code, .slice ao no co, .int .i64 st, .int .i64 sl], GX.Own 4 Ty.bool c.aR c.cR c.B, GX.Own 139 tyThing c.aL c.cL (c.L.map thg), Owns 3 Ty.int (c.L.map (fun x : Th => x.2)), GX.Own 98 tyRFr (some ⟨q, 0, none⟩) cf (l ++ [X]), GX.Own 3 Ty.int av cv f.vars, GX.Own 3 Ty.int (some ⟨gr, 0, none⟩) tm.classes.length (regL tm.classes.length f.regs), GX.Own 3 Ty.int (some ⟨b5, 0, none⟩) tm.classes.length (regL tm.classes.length m2)])
   (fun s => s.k ≤ i.args.length) (fun s => i.args.length - s.k) ⟨0, none, 0⟩ ⟨rfl, rfl, rfl, rfl, rfl, trivial⟩ (Nat.zero_le _) (fun s hs => ?_)
  have hs : s.k ≤ i.args.length := hs
  have htl : (i.args.take s.k |>.map (lkv f.vars)).length = s.k := by rw [List.length_map, List.length_take]; omega
  by_cases hlt : s.k < i.args.length
  ·obtain ⟨y, hy⟩ := GX.get_lt hlt
   obtain ⟨d, hd, hdl⟩ := hargs y (List.mem_of_getElem? hy)
   refine GX.opn av fun _ _ ha => ?_
   obtain ⟨h9, _⟩ | ⟨ga, rfl⟩ := ha
   ·exact absurd h9 (by omega)
   obtain ⟨wd9, hwd9⟩ := GX.get_lt hdl
   have hnx : (i.args.take (s.k + 1) |>.map (lkv f.vars)) = (i.args.take s.k |>.map (lkv f.vars)) ++ [wd9] := by
    rw [List.take_add_one, hy]
    show List.map (lkv f.vars) (i.args.take s.k ++ [y]) = _
    rw [List.map_append]
    show _ ++ [lkv f.vars y] = _
    rw [hd, show lkv f.vars (d : Int) = wd9 by unfold lkv; rw [gt_nat, hwd9]; rfl]
   subst hd
   refine GX.wp_R ?_; intros
   refine GX.drawn2 (GX.Own 98 tyRFr (some ⟨q, 0, none⟩) _ _) (GX.Own 3 Ty.int (some ⟨ga, 0, none⟩) cv f.vars) (fun j => !(List.contains [13, 14] j)) [(0, true), (1, true), (6, true), (7, true), (8, true), (9, true), (10, true), (2, false), (3, true), (4, true), (5, true), (11, true), (12, true), (13, false), (14, false), (15, true)] rfl (by kernel_rfl) (by kernel_rfl) GX.sA ?_; intro wd F hW hR
   refine GX.wp_T ?_; intros
   refine GX.gow ?_
   refine (cl (rtop_spec tm km (⟨ai, ni, ci, some ⟨q, 0, none⟩, l.length + 1, cf, bd, en, code, ao, no, co, st, sl⟩ : MV) p c q rfl l.length rfl (by omega)) fun _ => ?_)
   refine GX.wp_T ?_; intros
   try rw [hXv]
   refine GX.wp_T ?_; intros
   refine GX.unpin (GX.Own 98 tyRFr (some ⟨q, 0, none⟩) _ _) ?_
   refine GX.unpin (GX.Own 3 Ty.int (some ⟨ga, 0, none⟩) cv f.vars) ?_
   refine GX.wp_T ?_; intros
   refine GX.wp_R ?_; intros
   refine GX.nmS 85 ?_; rintro a8 c8 rfl rfl
   rw [← hnx]
   exact again ⟨s.k + 1, a8, c8⟩ ⟨rfl, rfl, rfl, rfl, rfl, trivial⟩ (by show s.k + 1 ≤ _; omega) (by show i.args.length - (s.k + 1) < _; omega)
  ·obtain hk : s.k = i.args.length := by omega
   rw [show List.take s.k i.args = i.args by rw [hk, List.take_length]]
   obtain ⟨k0, a8, c8⟩ := s
   dsimp only at hk hlt htl ⊢
   have hel : (i.args.map (lkv f.vars)).length = i.args.length := List.length_map _
   refine frz a8 ?_
   refine GX.wp_R ?_; intros
   rw [hj]
   refine GX.o (cl (renter_spec tm km (⟨ai, ni, ci, some ⟨q, 0, none⟩, l.length + 1, cf, bd, en, code, ao, no, co, st, sl⟩ : MV) p c (l ++ [X]) (by simp) (by simp; omega) j g hg (by omega) i.a a8 c8 (i.args.map (lkv f.vars)) (by omega) b5) fun s => ?_)
   obtain ⟨⟨a1, c1⟩, a2, c2⟩ := s
   dsimp only
   refine GX.wp_R ?_; intros
   rw [show (l ++ [X]).length + 1 = l.length + 2 by simp]
   rw [show i.args.map (lkv f.vars) ++ List.replicate (g.vars.length - (i.args.map (lkv f.vars)).length) (0 : Int) = argsV f i g.vars.length by unfold argsV; rw [hel, List.drop_replicate]]
   exact en0 (b5, (a1, c1), a2, c2)
theorem rstep21t (tm : RTg) (km : MK) (p : Nat) (v : MV) (y : RCl) (ys : List RCl) (f : Fr) (r : List Fr) (c : RefC) (M : Ms) (u : Unt) (i : Ins) (hp : RPre tm v (y :: ys) f r c M u i) (ho : i.op = 21) (hcl : ∀ n ∈ i.args, ∃ j : Nat, n = j ∧ j < tm.classes.length) (T1 : Tb) (m1 : Int → Int) (hr : crT i.args M.tb f.regs = (T1, m1, true)) : RSt tm km p v y ys f r c M (fun _ : {c1 : RefC // RTab c1 T1} => v) (fun s => s.1) { f with pc := f.pc + 1, regs := m1 } M.inp M.out M.gl := by
 obtain ⟨ai, ni, ci, af, nf, cf, bd, en, code, ao, no, co, st, sl⟩ := v
 obtain ⟨av, cv, gr⟩ := y
 refine rstep_pre tm km p _ _ _ f _ c M u i _ hp fun _ q ju jp b3 ll hll haf hnf hnb hju hjp => ?_
 dsimp only at haf hnf ⊢
 subst haf hnf
 try rw [hll]
 rw [show rfr tm.classes.length ⟨av, cv, gr⟩ ({ f with pc := f.pc + 1, regs := m1 } : Fr) = ⟨(ju : Int), ((jp + 1 : Nat) : Int), f.into, (av, f.vars.length, cv), (some ⟨gr, 0, none⟩, tm.classes.length, tm.classes.length)⟩ by unfold rfr; dsimp only; rw [hju, hjp]; try rfl]
 refine GX.wp_R ?_; intros
 refine GX.nmS 224 ?_; rintro aA cA rfl rfl
 refine GX.o (cl (rcreate_t tm km (⟨ai, ni, ci, some ⟨q, 0, none⟩, ll.length + 1, cf, bd, en, code, ao, no, co, st, sl⟩ : MV) p q rfl ll (⟨(ju : Int), ((jp + 1 : Nat) : Int), f.into, (av, f.vars.length, cv), (some ⟨gr, 0, none⟩, tm.classes.length, tm.classes.length)⟩) rfl (by omega) gr f.regs rfl aA cA i.args hp.hA hcl c M.tb hp.hI.tab hp.hB T1 m1 hr) fun s => ?_)
 try dsimp only
 refine GX.wp_R ?_; intros
 refine GX.o (cl (rtrap_spec tm km (⟨ai, ni, ci, some ⟨q, 0, none⟩, ll.length + 1, cf, bd, en, code, ao, no, co, st, sl⟩ : MV) p s.1 0) fun _ => ?_)
 rw [rtrapV_zero]
 dsimp only
 refine GX.wp_R ?_; intros
 exact en0 s
theorem rstep21f (tm : RTg) (km : MK) (p : Nat) (v : MV) (y : RCl) (ys : List RCl) (f : Fr) (r : List Fr) (c : RefC) (M : Ms) (u : Unt) (i : Ins) (hp : RPre tm v (y :: ys) f r c M u i) (ho : i.op = 21) (hcl : ∀ n ∈ i.args, ∃ j : Nat, n = j ∧ j < tm.classes.length) (T1 : Tb) (m1 : Int → Int) (hr : crT i.args M.tb f.regs = (T1, m1, false)) : RSt tm km p v y ys f r c M (fun _ : {c1 : RefC // RTab c1 T1} => { v with en := 4 }) (fun s => s.1) { f with pc := f.pc + 1, regs := m1 } M.inp M.out M.gl := by
 obtain ⟨ai, ni, ci, af, nf, cf, bd, en, code, ao, no, co, st, sl⟩ := v
 obtain ⟨av, cv, gr⟩ := y
 refine rstep_pre tm km p _ _ _ f _ c M u i _ hp fun _ q ju jp b3 ll hll haf hnf hnb hju hjp => ?_
 dsimp only at haf hnf ⊢
 subst haf hnf
 try rw [hll]
 rw [show rfr tm.classes.length ⟨av, cv, gr⟩ ({ f with pc := f.pc + 1, regs := m1 } : Fr) = ⟨(ju : Int), ((jp + 1 : Nat) : Int), f.into, (av, f.vars.length, cv), (some ⟨gr, 0, none⟩, tm.classes.length, tm.classes.length)⟩ by unfold rfr; dsimp only; rw [hju, hjp]; try rfl]
 refine GX.wp_R ?_; intros
 refine GX.nmS 224 ?_; rintro aA cA rfl rfl
 refine GX.o (cl (rcreate_f tm km (⟨ai, ni, ci, some ⟨q, 0, none⟩, ll.length + 1, cf, bd, en, code, ao, no, co, st, sl⟩ : MV) p q rfl ll (⟨(ju : Int), ((jp + 1 : Nat) : Int), f.into, (av, f.vars.length, cv), (some ⟨gr, 0, none⟩, tm.classes.length, tm.classes.length)⟩) rfl (by omega) gr f.regs rfl aA cA i.args hp.hA hcl c M.tb hp.hI.tab hp.hB T1 m1 hr) fun s => ?_)
 try dsimp only
 refine GX.wp_R ?_; intros
 refine GX.o (cl (rtrap_spec tm km (⟨ai, ni, ci, some ⟨q, 0, none⟩, ll.length + 1, cf, bd, 4, code, ao, no, co, st, sl⟩ : MV) p s.1 0) fun _ => ?_)
 rw [rtrapV_zero]
 dsimp only
 refine GX.wp_R ?_; intros
 exact en0 s
theorem rstep22t (tm : RTg) (km : MK) (p : Nat) (v : MV) (y : RCl) (ys : List RCl) (f : Fr) (r : List Fr) (c : RefC) (M : Ms) (u : Unt) (i : Ins) (hp : RPre tm v (y :: ys) f r c M u i) (ho : i.op = 22) (hcl : ∀ n ∈ i.args, ∃ j : Nat, n = j ∧ j < tm.classes.length) (T1 : Tb) (m1 : Int → Int) (hr : rmR i.args M.tb f.regs = (T1, m1, true)) : RSt tm km p v y ys f r c M (fun _ : {c1 : RefC // RTab c1 T1} => v) (fun s => s.1) { f with pc := f.pc + 1, regs := m1 } M.inp M.out M.gl := by
 obtain ⟨ai, ni, ci, af, nf, cf, bd, en, code, ao, no, co, st, sl⟩ := v
 obtain ⟨av, cv, gr⟩ := y
 refine rstep_pre tm km p _ _ _ f _ c M u i _ hp fun _ q ju jp b3 ll hll haf hnf hnb hju hjp => ?_
 dsimp only at haf hnf ⊢
 subst haf hnf
 try rw [hll]
 rw [show rfr tm.classes.length ⟨av, cv, gr⟩ ({ f with pc := f.pc + 1, regs := m1 } : Fr) = ⟨(ju : Int), ((jp + 1 : Nat) : Int), f.into, (av, f.vars.length, cv), (some ⟨gr, 0, none⟩, tm.classes.length, tm.classes.length)⟩ by unfold rfr; dsimp only; rw [hju, hjp]; try rfl]
 refine GX.wp_R ?_; intros
 refine GX.nmS 230 ?_; rintro aA cA rfl rfl
 refine GX.o (cl (rremove_t tm km (⟨ai, ni, ci, some ⟨q, 0, none⟩, ll.length + 1, cf, bd, en, code, ao, no, co, st, sl⟩ : MV) p q rfl ll (⟨(ju : Int), ((jp + 1 : Nat) : Int), f.into, (av, f.vars.length, cv), (some ⟨gr, 0, none⟩, tm.classes.length, tm.classes.length)⟩) rfl (by omega) gr f.regs rfl aA cA i.args hp.hA hcl c M.tb hp.hI.tab hp.hB T1 m1 hr) fun s => ?_)
 try dsimp only
 refine GX.wp_R ?_; intros
 refine GX.o (cl (rtrap_spec tm km (⟨ai, ni, ci, some ⟨q, 0, none⟩, ll.length + 1, cf, bd, en, code, ao, no, co, st, sl⟩ : MV) p s.1 0) fun _ => ?_)
 rw [rtrapV_zero]
 dsimp only
 refine GX.wp_R ?_; intros
 exact en0 s
theorem rstep22f (tm : RTg) (km : MK) (p : Nat) (v : MV) (y : RCl) (ys : List RCl) (f : Fr) (r : List Fr) (c : RefC) (M : Ms) (u : Unt) (i : Ins) (hp : RPre tm v (y :: ys) f r c M u i) (ho : i.op = 22) (hcl : ∀ n ∈ i.args, ∃ j : Nat, n = j ∧ j < tm.classes.length) (T1 : Tb) (m1 : Int → Int) (hr : rmR i.args M.tb f.regs = (T1, m1, false)) : RSt tm km p v y ys f r c M (fun _ : {c1 : RefC // RTab c1 T1} => { v with en := 4 }) (fun s => s.1) { f with pc := f.pc + 1, regs := m1 } M.inp M.out M.gl := by
 obtain ⟨ai, ni, ci, af, nf, cf, bd, en, code, ao, no, co, st, sl⟩ := v
 obtain ⟨av, cv, gr⟩ := y
 refine rstep_pre tm km p _ _ _ f _ c M u i _ hp fun _ q ju jp b3 ll hll haf hnf hnb hju hjp => ?_
 dsimp only at haf hnf ⊢
 subst haf hnf
 try rw [hll]
 rw [show rfr tm.classes.length ⟨av, cv, gr⟩ ({ f with pc := f.pc + 1, regs := m1 } : Fr) = ⟨(ju : Int), ((jp + 1 : Nat) : Int), f.into, (av, f.vars.length, cv), (some ⟨gr, 0, none⟩, tm.classes.length, tm.classes.length)⟩ by unfold rfr; dsimp only; rw [hju, hjp]; try rfl]
 refine GX.wp_R ?_; intros
 refine GX.nmS 230 ?_; rintro aA cA rfl rfl
 refine GX.o (cl (rremove_f tm km (⟨ai, ni, ci, some ⟨q, 0, none⟩, ll.length + 1, cf, bd, en, code, ao, no, co, st, sl⟩ : MV) p q rfl ll (⟨(ju : Int), ((jp + 1 : Nat) : Int), f.into, (av, f.vars.length, cv), (some ⟨gr, 0, none⟩, tm.classes.length, tm.classes.length)⟩) rfl (by omega) gr f.regs rfl aA cA i.args hp.hA hcl c M.tb hp.hI.tab hp.hB T1 m1 hr) fun s => ?_)
 try dsimp only
 refine GX.wp_R ?_; intros
 refine GX.o (cl (rtrap_spec tm km (⟨ai, ni, ci, some ⟨q, 0, none⟩, ll.length + 1, cf, bd, 4, code, ao, no, co, st, sl⟩ : MV) p s.1 0) fun _ => ?_)
 rw [rtrapV_zero]
 dsimp only
 refine GX.wp_R ?_; intros
 exact en0 s
theorem rstep13d (tm : RTg) (km : MK) (p : Nat) (v : MV) (y : RCl) (ys : List RCl) (f : Fr) (r : List Fr) (c : RefC) (M : Ms) (u : Unt) (i : Ins) (hp : RPre tm v (y :: ys) f r c M u i) (ho : i.op = 13) (hdp : 40 ≤ v.nf) : RSt tm km p v y ys f r c M (fun _ : Unit => { v with en := rtE v 6, code := rtC v 6 }) (fun _ => c) { f with pc := f.pc + 1 } M.inp M.out M.gl := by
 obtain ⟨ai, ni, ci, af, nf, cf, bd, en, code, ao, no, co, st, sl⟩ := v
 obtain ⟨av, cv, gr⟩ := y
 refine rstep_pre tm km p _ _ _ f _ c M u i _ hp fun _ q ju jp b3 ll hll haf hnf hnb hju hjp => ?_
 dsimp only at haf hnf ⊢
 subst haf hnf
 try rw [hll]
 rw [show rfr tm.classes.length ⟨av, cv, gr⟩ ({ f with pc := f.pc + 1 } : Fr) = ⟨(ju : Int), ((jp + 1 : Nat) : Int), f.into, (av, f.vars.length, cv), (some ⟨gr, 0, none⟩, tm.classes.length, tm.classes.length)⟩ by unfold rfr; dsimp only; rw [hju, hjp]; try rfl]
 refine GX.wp_R ?_; intros
 refine GX.nmA 107 ?_; rintro cs49 rfl
 refine GX.o (cl (rcall_deep tm km (⟨ai, ni, ci, some ⟨q, 0, none⟩, ll.length + 1, cf, bd, en, code, ao, no, co, st, sl⟩ : MV) p c cs49 i (by exact hdp) (by show ll.length + 1 ≤ 1000; omega)) fun _ => ?_)
 rw [rtrapV_eq]
 dsimp only
 refine GX.wp_R ?_; intros
 refine GX.o (cl (rtrap_spec tm km (⟨ai, ni, ci, some ⟨q, 0, none⟩, ll.length + 1, cf, bd, rtE (⟨ai, ni, ci, some ⟨q, 0, none⟩, ll.length + 1, cf, bd, en, code, ao, no, co, st, sl⟩ : MV) 6, rtC (⟨ai, ni, ci, some ⟨q, 0, none⟩, ll.length + 1, cf, bd, en, code, ao, no, co, st, sl⟩ : MV) 6, ao, no, co, st, sl⟩ : MV) p c 0) fun _ => ?_)
 rw [rtrapV_zero]
 dsimp only
 refine GX.wp_R ?_; intros
 exact en0 ()
theorem rstep13n (tm : RTg) (km : MK) (p : Nat) (v : MV) (y : RCl) (ys : List RCl) (f : Fr) (r : List Fr) (c : RefC) (M : Ms) (u : Unt) (i : Ins) (hp : RPre tm v (y :: ys) f r c M u i) (ho : i.op = 13) (j : Nat) (g : Unt) (hg : tm.units[j]? = some g) (hj : i.c = (j : Int)) (hgv : g.vars.length ≤ 1000000) (ht : ∀ n ∈ g.takes, ∃ d : Nat, n = d ∧ d < tm.classes.length) (htl : g.takes.length ≤ 1000000) (hnc : tm.classes.length ≤ 1000000) (hargs : ∀ n ∈ i.args, Vok f n) (hal : i.args.length ≤ g.vars.length) (hdp : v.nf < 40) (hm : takeR (glob tm) c.B { f with pc := f.pc + 1 } g.takes (fun _ => 0) = none) : RSt tm km p v y ys f r c M (fun _ : Unit => { v with en := 4 }) (fun _ => c) { f with pc := f.pc + 1 } M.inp M.out M.gl := by
 obtain ⟨ai, ni, ci, af, nf, cf, bd, en, code, ao, no, co, st, sl⟩ := v
 obtain ⟨av, cv, gr⟩ := y
 refine rstep_pre tm km p _ _ _ f _ c M u i _ hp fun _ q ju jp b3 ll hll haf hnf hnb hju hjp => ?_
 dsimp only at haf hnf ⊢
 subst haf hnf
 try rw [hll]
 rw [show rfr tm.classes.length ⟨av, cv, gr⟩ ({ f with pc := f.pc + 1 } : Fr) = ⟨(ju : Int), ((jp + 1 : Nat) : Int), f.into, (av, f.vars.length, cv), (some ⟨gr, 0, none⟩, tm.classes.length, tm.classes.length)⟩ by unfold rfr; dsimp only; rw [hju, hjp]; try rfl]
 have hrf2 : rfr tm.classes.length ⟨av, cv, gr⟩ ({ f with pc := f.pc + 1 } : Fr) = (⟨(ju : Int), ((jp + 1 : Nat) : Int), f.into, (av, f.vars.length, cv), (some ⟨gr, 0, none⟩, tm.classes.length, tm.classes.length)⟩) := by unfold rfr; dsimp only; rw [hju, hjp]; try rfl
 have hcc := fun cs => rcall_no tm km (⟨ai, ni, ci, some ⟨q, 0, none⟩, ll.length + 1, cf, bd, en, code, ao, no, co, st, sl⟩ : MV) p c q rfl ll av cv gr ({ f with pc := f.pc + 1 } : Fr) rfl (by omega) (by exact hdp) cs i j g hg hj hgv ht htl hnc hargs hal hm
 rw [hrf2] at hcc
 refine GX.wp_R ?_; intros
 refine GX.nmA 107 ?_; rintro cs49 rfl
 refine GX.o (cl (hcc cs49) fun s => ?_)
 try dsimp only
 refine GX.wp_R ?_; intros
 refine GX.o (cl (rtrap_spec tm km (⟨ai, ni, ci, some ⟨q, 0, none⟩, ll.length + 1, cf, bd, 4, code, ao, no, co, st, sl⟩ : MV) p c 0) fun _ => ?_)
 rw [rtrapV_zero]
 dsimp only
 refine GX.wp_R ?_; intros
 exact en0 ()
theorem rstep13y (tm : RTg) (km : MK) (p : Nat) (v : MV) (y : RCl) (ys : List RCl) (f : Fr) (r : List Fr) (c : RefC) (M : Ms) (u : Unt) (i : Ins) (hp : RPre tm v (y :: ys) f r c M u i) (ho : i.op = 13) (j : Nat) (g : Unt) (hg : tm.units[j]? = some g) (hj : i.c = (j : Int)) (hgv : g.vars.length ≤ 1000000) (ht : ∀ n ∈ g.takes, ∃ d : Nat, n = d ∧ d < tm.classes.length) (htl : g.takes.length ≤ 1000000) (hnc : tm.classes.length ≤ 1000000) (hargs : ∀ n ∈ i.args, Vok f n) (hal : i.args.length ≤ g.vars.length) (hdp : v.nf < 40) (m' : Int → Int) (hm : takeR (glob tm) c.B { f with pc := f.pc + 1 } g.takes (fun _ => 0) = some m') :
  Does Tryz.prog 33 [.pointer (some ⟨p, 0, none⟩)] [Sl Ty.int km.aL km.cL (glob tm), Sl tyLayout km.aC km.cC tm.classes, Sl tyUnt km.aU km.cU tm.units, Sl Ty.int v.ai v.ci M.inp] [RowR p 74 [.slice km.aC tm.classes.length km.cC, .slice km.aG tm.globals.length km.cG, .slice km.aU tm.units.length km.cU, .int .i64 tm.main, .slice km.aL (glob tm).length km.cL, .slice v.ai v.ni v.ci, .slice c.aR c.B.length c.cR, .slice c.aL c.L.length c.cL, .int .i64 c.peak, .int .i64 c.most, .slice (some ⟨km.gb, 0, none⟩) tm.globals.length tm.globals.length, .slice v.af v.nf v.cf, .int .i64 v.en, .int .i64 v.code, .slice v.ao v.no v.co, .int .i64 v.steps, .int .i64 v.slack], GX.Own 4 Ty.bool c.aR c.cR c.B, GX.Own 139 tyThing c.aL c.cL (c.L.map thg), Owns 3 Ty.int (c.L.map (fun x : Th => x.2)), GX.Own 98 tyRFr v.af v.cf (rfrs tm.classes.length ys r ++ [rfr tm.classes.length y f]), GX.Own 3 Ty.int y.av y.cv f.vars, GX.Own 3 Ty.int (some ⟨y.gr, 0, none⟩) tm.classes.length (regL tm.classes.length f.regs), GX.Star (rres tm.classes.length ys r), GX.Own 3 Ty.int v.ao v.co M.out, GX.Own 3 Ty.int (some ⟨km.gb, 0, none⟩) tm.globals.length M.gl] (fun _ : Nat × (Option Addr × Nat) × Option Addr × Nat => .tuple #[]) (fun _ => [Sl Ty.int v.ai v.ci M.inp])
   (fun s => [RowR p 74 [.slice km.aC tm.classes.length km.cC, .slice km.aG tm.globals.length km.cG, .slice km.aU tm.units.length km.cU, .int .i64 tm.main, .slice km.aL (glob tm).length km.cL, .slice v.ai v.ni v.ci, .slice c.aR c.B.length c.cR, .slice c.aL c.L.length c.cL, .int .i64 c.peak, .int .i64 c.most, .slice (some ⟨km.gb, 0, none⟩) tm.globals.length tm.globals.length, .slice s.2.2.1 (v.nf + 1) s.2.2.2, .int .i64 v.en, .int .i64 v.code, .slice v.ao v.no v.co, .int .i64 v.steps, .int .i64 v.slack], GX.Own 4 Ty.bool c.aR c.cR c.B, GX.Own 139 tyThing c.aL c.cL (c.L.map thg), Owns 3 Ty.int (c.L.map (fun x : Th => x.2)), GX.Own 98 tyRFr s.2.2.1 s.2.2.2 (rfrs tm.classes.length ys r ++ [rfr tm.classes.length y ({ f with pc := f.pc + 1 } : Fr)] ++ [rfr tm.classes.length ⟨s.2.1.1, s.2.1.2, s.1⟩ (⟨i.c, 0, argsV { f with pc := f.pc + 1 } i g.vars.length, i.a, m'⟩ : Fr)]), GX.Own 3 Ty.int s.2.1.1 s.2.1.2 (argsV { f with pc := f.pc + 1 } i g.vars.length), GX.Own 3 Ty.int (some ⟨s.1, 0, none⟩) tm.classes.length (regL tm.classes.length m'), GX.Own 3 Ty.int y.av y.cv f.vars, GX.Own 3 Ty.int (some ⟨y.gr, 0, none⟩) tm.classes.length (regL tm.classes.length f.regs), GX.Star (rres tm.classes.length ys r), GX.Own 3 Ty.int v.ao v.co M.out, GX.Own 3 Ty.int (some ⟨km.gb, 0, none⟩) tm.globals.length M.gl]) := by
 have hvl : (argsV { f with pc := f.pc + 1 } i g.vars.length).length = g.vars.length := argsV_len { f with pc := f.pc + 1 } i g.vars.length hal
 obtain ⟨ai, ni, ci, af, nf, cf, bd, en, code, ao, no, co, st, sl⟩ := v
 obtain ⟨av, cv, gr⟩ := y
 refine rstep_pre tm km p _ _ _ f _ c M u i _ hp fun _ q ju jp b3 ll hll haf hnf hnb hju hjp => ?_
 dsimp only at haf hnf ⊢
 subst haf hnf
 try rw [hll]
 rw [show rfr tm.classes.length ⟨av, cv, gr⟩ ({ f with pc := f.pc + 1 } : Fr) = ⟨(ju : Int), ((jp + 1 : Nat) : Int), f.into, (av, f.vars.length, cv), (some ⟨gr, 0, none⟩, tm.classes.length, tm.classes.length)⟩ by unfold rfr; dsimp only; rw [hju, hjp]; try rfl]
 have hrf2 : rfr tm.classes.length ⟨av, cv, gr⟩ ({ f with pc := f.pc + 1 } : Fr) = (⟨(ju : Int), ((jp + 1 : Nat) : Int), f.into, (av, f.vars.length, cv), (some ⟨gr, 0, none⟩, tm.classes.length, tm.classes.length)⟩) := by unfold rfr; dsimp only; rw [hju, hjp]; try rfl
 have hcc := fun cs => rcall_yes tm km (⟨ai, ni, ci, some ⟨q, 0, none⟩, ll.length + 1, cf, bd, en, code, ao, no, co, st, sl⟩ : MV) p c q rfl ll av cv gr ({ f with pc := f.pc + 1 } : Fr) rfl (by omega) (by exact hdp) cs i j g hg hj hgv ht htl hnc hargs hal m' hm
 rw [hrf2] at hcc
 refine GX.wp_R ?_; intros
 refine GX.nmA 107 ?_; rintro cs49 rfl
 refine GX.o (cl (hcc cs49) fun s => ?_)
 try dsimp only
 refine GX.wp_R ?_; intros
 obtain ⟨s1, ⟨a1, c1⟩, a2, c2⟩ := s
 dsimp only
 refine GX.wp_R ?_; intros
 refine GX.o (cl (rtrap_spec tm km (⟨ai, ni, ci, a2, ll.length + 2, c2, bd, en, code, ao, no, co, st, sl⟩ : MV) p c 0) fun _ => ?_)
 rw [rtrapV_zero]
 dsimp only
 refine GX.wp_R ?_; intros
 rw [← hrf2, show (⟨(j : Int), 0, i.a, (a1, g.vars.length, c1), (some ⟨s1, 0, none⟩, tm.classes.length, tm.classes.length)⟩ : RFr) = rfr tm.classes.length ⟨a1, c1, s1⟩ (⟨i.c, 0, argsV { f with pc := f.pc + 1 } i g.vars.length, i.a, m'⟩ : Fr) by unfold rfr; dsimp only; rw [hvl, hj]]
 exact en0 (s1, (a1, c1), a2, c2)
theorem rstep18l (tm : RTg) (km : MK) (p : Nat) (v : MV) (y : RCl) (f : Fr) (c : RefC) (M : Ms) (u : Unt) (i : Ins) (hp : RPre tm v (y :: []) f [] c M u i) (ho : i.op = 18) (hia0 : i.a = -1 ∨ Vok f i.a) :
  Does Tryz.prog 33 [.pointer (some ⟨p, 0, none⟩)] [Sl Ty.int km.aL km.cL (glob tm), Sl tyLayout km.aC km.cC tm.classes, Sl tyUnt km.aU km.cU tm.units, Sl Ty.int v.ai v.ci M.inp] [RowR p 74 [.slice km.aC tm.classes.length km.cC, .slice km.aG tm.globals.length km.cG, .slice km.aU tm.units.length km.cU, .int .i64 tm.main, .slice km.aL (glob tm).length km.cL, .slice v.ai v.ni v.ci, .slice c.aR c.B.length c.cR, .slice c.aL c.L.length c.cL, .int .i64 c.peak, .int .i64 c.most, .slice (some ⟨km.gb, 0, none⟩) tm.globals.length tm.globals.length, .slice v.af v.nf v.cf, .int .i64 v.en, .int .i64 v.code, .slice v.ao v.no v.co, .int .i64 v.steps, .int .i64 v.slack], GX.Own 4 Ty.bool c.aR c.cR c.B, GX.Own 139 tyThing c.aL c.cL (c.L.map thg), Owns 3 Ty.int (c.L.map (fun x : Th => x.2)), GX.Own 98 tyRFr v.af v.cf (rfrs tm.classes.length [] [] ++ [rfr tm.classes.length y f]), GX.Own 3 Ty.int y.av y.cv f.vars, GX.Own 3 Ty.int (some ⟨y.gr, 0, none⟩) tm.classes.length (regL tm.classes.length f.regs), GX.Star (rres tm.classes.length [] []), GX.Own 3 Ty.int v.ao v.co M.out, GX.Own 3 Ty.int (some ⟨km.gb, 0, none⟩) tm.globals.length M.gl] (fun _ : Unit => .tuple #[]) (fun _ => [Sl Ty.int v.ai v.ci M.inp])
   (fun s => [RowR p 74 [.slice km.aC tm.classes.length km.cC, .slice km.aG tm.globals.length km.cG, .slice km.aU tm.units.length km.cU, .int .i64 tm.main, .slice km.aL (glob tm).length km.cL, .slice v.ai v.ni v.ci, .slice c.aR c.B.length c.cR, .slice c.aL c.L.length c.cL, .int .i64 c.peak, .int .i64 c.most, .slice (some ⟨km.gb, 0, none⟩) tm.globals.length tm.globals.length, .slice v.af 0 v.cf, .int .i64 1, .int .i64 v.code, .slice v.ao v.no v.co, .int .i64 v.steps, .int .i64 v.slack], GX.Own 4 Ty.bool c.aR c.cR c.B, GX.Own 139 tyThing c.aL c.cL (c.L.map thg), Owns 3 Ty.int (c.L.map (fun x : Th => x.2)), GX.Own 98 tyRFr v.af v.cf (rfrs tm.classes.length [] []), GX.Star (rres tm.classes.length [] []), GX.Own 3 Ty.int v.ao v.co M.out, GX.Own 3 Ty.int (some ⟨km.gb, 0, none⟩) tm.globals.length M.gl]) := by
 obtain ⟨ai, ni, ci, af, nf, cf, bd, en, code, ao, no, co, st, sl⟩ := v
 obtain ⟨av, cv, gr⟩ := y
 refine rstep_pre tm km p _ _ _ f _ c M u i _ hp fun _ q ju jp b3 ll hll haf hnf hnb hju hjp => ?_
 dsimp only at haf hnf ⊢
 subst haf hnf
 try rw [hll]
 have hll0 : ll = [] := hll.symm
 have hll1 : ll.length = 0 := by rw [hll0]; rfl
 have hlv := fun (AW : Option Addr) (z : Int) => rleave_last tm km (⟨ai, ni, ci, some ⟨q, 0, none⟩, ll.length + 1, cf, bd, en, code, ao, no, co, st, sl⟩ : MV) p c q rfl (⟨(ju : Int), ((jp + 1 : Nat) : Int), f.into, (AW, f.vars.length, cv), (some ⟨gr, 0, none⟩, tm.classes.length, tm.classes.length)⟩ : RFr) ll hll1 rfl z
 by_cases hia : 0 ≤ i.a
 ·obtain ⟨ka, hka, hla⟩ : Vok f i.a := (hia0.resolve_left (by omega))
  refine GX.opn av fun _ _ ha9 => ?_
  obtain ⟨h9, _⟩ | ⟨g, rfl⟩ := ha9
  ·exact absurd h9 (by omega)
  obtain ⟨wa, hwa⟩ := GX.get_lt hla
  have hia2 : ¬ i.a < 0 := by omega
  refine GX.wp_R ?_; intros
  try rw [hka]
  refine GX.wp_R ?_; intros
  refine GX.o (cl (hlv (some ⟨g, 0, none⟩) wa) fun _ => ?_)
  try dsimp only
  refine GX.wp_R ?_; intros
  refine GX.o (cl (rtrap_spec tm km (⟨ai, ni, ci, some ⟨q, 0, none⟩, ll.length, cf, bd, 1, code, ao, no, co, st, sl⟩ : MV) p c 0) fun _ => ?_)
  rw [rtrapV_zero]
  dsimp only
  refine GX.wp_R ?_; intros
  rw [hll0]
  exact en0 ()
 ·have hia2 : i.a < 0 := by omega
  refine GX.wp_R ?_; intros
  refine GX.o (cl (hlv av 0) fun _ => ?_)
  try dsimp only
  refine GX.wp_R ?_; intros
  refine GX.o (cl (rtrap_spec tm km (⟨ai, ni, ci, some ⟨q, 0, none⟩, ll.length, cf, bd, 1, code, ao, no, co, st, sl⟩ : MV) p c 0) fun _ => ?_)
  rw [rtrapV_zero]
  dsimp only
  refine GX.wp_R ?_; intros
  rw [hll0]
  exact en0 ()
theorem rstep18m (tm : RTg) (km : MK) (p : Nat) (v : MV) (y y2 : RCl) (ys : List RCl) (f h : Fr) (r : List Fr) (c : RefC) (M : Ms) (u : Unt) (i : Ins) (hp : RPre tm v (y :: y2 :: ys) f (h :: r) c M u i) (ho : i.op = 18) (hia0 : i.a = -1 ∨ Vok f i.a) :
  Does Tryz.prog 33 [.pointer (some ⟨p, 0, none⟩)] [Sl Ty.int km.aL km.cL (glob tm), Sl tyLayout km.aC km.cC tm.classes, Sl tyUnt km.aU km.cU tm.units, Sl Ty.int v.ai v.ci M.inp] [RowR p 74 [.slice km.aC tm.classes.length km.cC, .slice km.aG tm.globals.length km.cG, .slice km.aU tm.units.length km.cU, .int .i64 tm.main, .slice km.aL (glob tm).length km.cL, .slice v.ai v.ni v.ci, .slice c.aR c.B.length c.cR, .slice c.aL c.L.length c.cL, .int .i64 c.peak, .int .i64 c.most, .slice (some ⟨km.gb, 0, none⟩) tm.globals.length tm.globals.length, .slice v.af v.nf v.cf, .int .i64 v.en, .int .i64 v.code, .slice v.ao v.no v.co, .int .i64 v.steps, .int .i64 v.slack], GX.Own 4 Ty.bool c.aR c.cR c.B, GX.Own 139 tyThing c.aL c.cL (c.L.map thg), Owns 3 Ty.int (c.L.map (fun x : Th => x.2)), GX.Own 98 tyRFr v.af v.cf (rfrs tm.classes.length (y2 :: ys) (h :: r) ++ [rfr tm.classes.length y f]), GX.Own 3 Ty.int y.av y.cv f.vars, GX.Own 3 Ty.int (some ⟨y.gr, 0, none⟩) tm.classes.length (regL tm.classes.length f.regs), GX.Own 3 Ty.int y2.av y2.cv h.vars, GX.Own 3 Ty.int (some ⟨y2.gr, 0, none⟩) tm.classes.length (regL tm.classes.length h.regs), GX.Star (rres tm.classes.length ys r), GX.Own 3 Ty.int v.ao v.co M.out, GX.Own 3 Ty.int (some ⟨km.gb, 0, none⟩) tm.globals.length M.gl] (fun _ : Unit => .tuple #[]) (fun _ => [Sl Ty.int v.ai v.ci M.inp])
   (fun s => [RowR p 74 [.slice km.aC tm.classes.length km.cC, .slice km.aG tm.globals.length km.cG, .slice km.aU tm.units.length km.cU, .int .i64 tm.main, .slice km.aL (glob tm).length km.cL, .slice v.ai v.ni v.ci, .slice c.aR c.B.length c.cR, .slice c.aL c.L.length c.cL, .int .i64 c.peak, .int .i64 c.most, .slice (some ⟨km.gb, 0, none⟩) tm.globals.length tm.globals.length, .slice v.af ((rfrs tm.classes.length ys r).length + 1) v.cf, .int .i64 v.en, .int .i64 v.code, .slice v.ao v.no v.co, .int .i64 v.steps, .int .i64 v.slack], GX.Own 4 Ty.bool c.aR c.cR c.B, GX.Own 139 tyThing c.aL c.cL (c.L.map thg), Owns 3 Ty.int (c.L.map (fun x : Th => x.2)), GX.Own 98 tyRFr v.af v.cf (rfrs tm.classes.length ys r ++ [rfr tm.classes.length y2 ({ h with vars := if 0 ≤ f.into then setv h.vars f.into (if 0 ≤ i.a then lkv f.vars i.a else 0) else h.vars } : Fr)]), GX.Own 3 Ty.int y2.av y2.cv (if 0 ≤ f.into then setv h.vars f.into (if 0 ≤ i.a then lkv f.vars i.a else 0) else h.vars), GX.Own 3 Ty.int (some ⟨y2.gr, 0, none⟩) tm.classes.length (regL tm.classes.length h.regs), GX.Star (rres tm.classes.length ys r), GX.Own 3 Ty.int v.ao v.co M.out, GX.Own 3 Ty.int (some ⟨km.gb, 0, none⟩) tm.globals.length M.gl]) := by
 have hin : 0 ≤ f.into → ∃ j : Nat, f.into = j ∧ j < h.vars.length := fun h0 => by
  rcases hp.into with h1 | h1
  ·omega
  ·exact h1 h r rfl
 obtain ⟨ai, ni, ci, af, nf, cf, bd, en, code, ao, no, co, st, sl⟩ := v
 obtain ⟨av, cv, gr⟩ := y
 refine rstep_pre tm km p _ _ _ f _ c M u i _ hp fun _ q ju jp b3 ll hll haf hnf hnb hju hjp => ?_
 dsimp only at haf hnf ⊢
 subst haf hnf
 try rw [hll]
 obtain ⟨l0, hl0⟩ : ∃ l0 : List RFr, l0 = rfrs tm.classes.length ys r := ⟨_, rfl⟩
 have hll2 : ll = l0 ++ [rfr tm.classes.length y2 h] := by rw [← hll, hl0]; rfl
 have hllen : ll.length = l0.length + 1 := by rw [hll2]; simp
 rw [← hl0]
 have hlv := fun (AW : Option Addr) (z : Int) => rleave_more tm km (⟨ai, ni, ci, some ⟨q, 0, none⟩, ll.length + 1, cf, bd, en, code, ao, no, co, st, sl⟩ : MV) p c q rfl (⟨(ju : Int), ((jp + 1 : Nat) : Int), f.into, (AW, f.vars.length, cv), (some ⟨gr, 0, none⟩, tm.classes.length, tm.classes.length)⟩ : RFr) l0 (rfr tm.classes.length y2 h) (by omega) y2.av y2.cv h.vars rfl hin (by show ll.length + 1 = _; omega) z
 dsimp only at hlv
 rw [← hll2] at hlv
 by_cases hia : 0 ≤ i.a
 ·obtain ⟨ka, hka, hla⟩ : Vok f i.a := (hia0.resolve_left (by omega))
  rw [if_pos hia, hka]
  refine GX.opn av fun _ _ ha9 => ?_
  obtain ⟨h9, _⟩ | ⟨g, rfl⟩ := ha9
  ·exact absurd h9 (by omega)
  obtain ⟨wa, hwa⟩ := GX.get_lt hla
  rw [show lkv f.vars (ka : Int) = wa by unfold lkv; rw [gt_nat, hwa]; rfl]
  have hia2 : ¬ i.a < 0 := by omega
  refine GX.wp_R ?_; intros
  try rw [hka]
  refine GX.wp_R ?_; intros
  refine GX.o (cl (hlv (some ⟨g, 0, none⟩) (wa)) fun _ => ?_)
  try dsimp only
  refine GX.wp_R ?_; intros
  refine GX.o (cl (rtrap_spec tm km (⟨ai, ni, ci, some ⟨q, 0, none⟩, l0.length + 1, cf, bd, en, code, ao, no, co, st, sl⟩ : MV) p c 0) fun _ => ?_)
  rw [rtrapV_zero]
  dsimp only
  refine GX.wp_R ?_; intros
  rw [hll2]
  rw [show (if 0 ≤ f.into then h.vars.set f.into.toNat (wa) else h.vars) = (if 0 ≤ f.into then setv h.vars f.into (wa) else h.vars) from rfl, show rfr tm.classes.length y2 h = rfr tm.classes.length y2 ({ h with vars := if 0 ≤ f.into then setv h.vars f.into (wa) else h.vars } : Fr) by unfold rfr; dsimp only; rw [show (if 0 ≤ f.into then setv h.vars f.into (wa) else h.vars).length = h.vars.length by split; exact setv_len _ _ _; rfl]]
  exact en0 ()
 ·rw [if_neg hia]
  have hia2 : i.a < 0 := by omega
  refine GX.wp_R ?_; intros
  refine GX.o (cl (hlv (av) (0)) fun _ => ?_)
  try dsimp only
  refine GX.wp_R ?_; intros
  refine GX.o (cl (rtrap_spec tm km (⟨ai, ni, ci, some ⟨q, 0, none⟩, l0.length + 1, cf, bd, en, code, ao, no, co, st, sl⟩ : MV) p c 0) fun _ => ?_)
  rw [rtrapV_zero]
  dsimp only
  refine GX.wp_R ?_; intros
  rw [hll2]
  rw [show (if 0 ≤ f.into then h.vars.set f.into.toNat (0) else h.vars) = (if 0 ≤ f.into then setv h.vars f.into (0) else h.vars) from rfl, show rfr tm.classes.length y2 h = rfr tm.classes.length y2 ({ h with vars := if 0 ≤ f.into then setv h.vars f.into (0) else h.vars } : Fr) by unfold rfr; dsimp only; rw [show (if 0 ≤ f.into then setv h.vars f.into (0) else h.vars).length = h.vars.length by split; exact setv_len _ _ _; rfl]]
  exact en0 ()
end Go.Proofs.YtomadjefdghliaaGreat
