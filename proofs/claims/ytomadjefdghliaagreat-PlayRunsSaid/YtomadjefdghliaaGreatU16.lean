import Derived.Test.YtomadjefdghliaaGreatU14
import Derived.Test.YtomadjefdghliaaGreatU15
namespace Go.Proofs.YtomadjefdghliaaGreat
open Go Go.RR Go.RX Go.GX Go.Api Go.RtM
attribute [local irreducible] wpList Code.wp wpPlan Exit.then Exit.inBlock bodyPost NoPanic Went GX.Post GX.Again GX.Meet GX.RowR GX.Own GX.Owns GX.Box GX.Sl GX.Pt GX.Ag GX.MapR GX.Star GX.Kept GX.Pin wpT GoK AtEnd Both
theorem vI_spec (t : RTg) (p : Nat) (k : MK) (v : MV) (l : List (Option Addr)) (x : FrC) (f : Fr) (n : Int) (hn : v.nf = l.length + 1) (hb : l.length ≤ 1000) (hl : f.vars.length = x.n) (hv : Vok f n) :
  Does Tryz.prog 101 [.pointer (some ⟨p, 0, none⟩), .int .i64 n] [] [RowR p 57 [.slice k.aC t.classes.length k.cC, .slice k.aG t.globals.length k.cG, .slice k.aU t.units.length k.cU, .int .i64 t.main, .slice k.aL (glob t).length k.cL, .pointer (some ⟨k.tp, 0, none⟩), .int .i64 1, .slice v.ai v.ni v.ci, .slice (some ⟨k.gb, 0, none⟩) t.globals.length t.globals.length, .slice v.af v.nf v.cf, .int .i64 v.bound, .map (some k.om), .int .i64 v.en, .int .i64 v.code, .slice v.ao v.no v.co, .int .i64 v.steps, .int .i64 0, .int .i64 0, .int .i64 0, .int .i64 0, .int .i64 v.slack, .int .i64 0], GX.Own 60 Ty.ptr v.af v.cf (l ++ [some ⟨x.bl, 0, none⟩]), RowR x.bl 93 [.int .i64 f.u, .int .i64 f.pc, .slice (some ⟨x.vb, 0, none⟩) x.n x.n, .int .i64 f.into, .map (some x.mb)], GX.Own 3 Ty.int (some ⟨x.vb, 0, none⟩) x.n f.vars] (fun _ : Unit => .int .i64 (lkv f.vars n)) (fun _ => []) (fun _ => [RowR p 57 [.slice k.aC t.classes.length k.cC, .slice k.aG t.globals.length k.cG, .slice k.aU t.units.length k.cU, .int .i64 t.main, .slice k.aL (glob t).length k.cL, .pointer (some ⟨k.tp, 0, none⟩), .int .i64 1, .slice v.ai v.ni v.ci, .slice (some ⟨k.gb, 0, none⟩) t.globals.length t.globals.length, .slice v.af v.nf v.cf, .int .i64 v.bound, .map (some k.om), .int .i64 v.en, .int .i64 v.code, .slice v.ao v.no v.co, .int .i64 v.steps, .int .i64 0, .int .i64 0, .int .i64 0, .int .i64 0, .int .i64 v.slack, .int .i64 0], GX.Own 60 Ty.ptr v.af v.cf (l ++ [some ⟨x.bl, 0, none⟩]), RowR x.bl 93 [.int .i64 f.u, .int .i64 f.pc, .slice (some ⟨x.vb, 0, none⟩) x.n x.n, .int .i64 f.into, .map (some x.mb)], GX.Own 3 Ty.int (some ⟨x.vb, 0, none⟩) x.n f.vars]) := by
 obtain ⟨i, rfl, hi⟩ := hv
 obtain ⟨y, hy⟩ := GX.get_lt hi
 have := v_spec t p k v l x f i y hn hb hy hl
 rwa [show y = lkv f.vars (i : Int) by unfold lkv; rw [gt_nat, hy]; rfl] at this
theorem setI_spec (t : RTg) (p : Nat) (k : MK) (v : MV) (l : List (Option Addr)) (x : FrC) (f : Fr) (n y : Int) (hn : v.nf = l.length + 1) (hb : l.length ≤ 1000) (hl : f.vars.length = x.n) (hv : Vok f n) :
  Does Tryz.prog 100 [.pointer (some ⟨p, 0, none⟩), .int .i64 n, .int .i64 y] [] [RowR p 57 [.slice k.aC t.classes.length k.cC, .slice k.aG t.globals.length k.cG, .slice k.aU t.units.length k.cU, .int .i64 t.main, .slice k.aL (glob t).length k.cL, .pointer (some ⟨k.tp, 0, none⟩), .int .i64 1, .slice v.ai v.ni v.ci, .slice (some ⟨k.gb, 0, none⟩) t.globals.length t.globals.length, .slice v.af v.nf v.cf, .int .i64 v.bound, .map (some k.om), .int .i64 v.en, .int .i64 v.code, .slice v.ao v.no v.co, .int .i64 v.steps, .int .i64 0, .int .i64 0, .int .i64 0, .int .i64 0, .int .i64 v.slack, .int .i64 0], GX.Own 60 Ty.ptr v.af v.cf (l ++ [some ⟨x.bl, 0, none⟩]), RowR x.bl 93 [.int .i64 f.u, .int .i64 f.pc, .slice (some ⟨x.vb, 0, none⟩) x.n x.n, .int .i64 f.into, .map (some x.mb)], GX.Own 3 Ty.int (some ⟨x.vb, 0, none⟩) x.n f.vars] (fun _ : Unit => .tuple #[]) (fun _ => []) (fun _ => [RowR p 57 [.slice k.aC t.classes.length k.cC, .slice k.aG t.globals.length k.cG, .slice k.aU t.units.length k.cU, .int .i64 t.main, .slice k.aL (glob t).length k.cL, .pointer (some ⟨k.tp, 0, none⟩), .int .i64 1, .slice v.ai v.ni v.ci, .slice (some ⟨k.gb, 0, none⟩) t.globals.length t.globals.length, .slice v.af v.nf v.cf, .int .i64 v.bound, .map (some k.om), .int .i64 v.en, .int .i64 v.code, .slice v.ao v.no v.co, .int .i64 v.steps, .int .i64 0, .int .i64 0, .int .i64 0, .int .i64 0, .int .i64 v.slack, .int .i64 0], GX.Own 60 Ty.ptr v.af v.cf (l ++ [some ⟨x.bl, 0, none⟩]), RowR x.bl 93 [.int .i64 f.u, .int .i64 f.pc, .slice (some ⟨x.vb, 0, none⟩) x.n x.n, .int .i64 f.into, .map (some x.mb)], GX.Own 3 Ty.int (some ⟨x.vb, 0, none⟩) x.n (setv f.vars n y)]) := by
 obtain ⟨i, rfl, hi⟩ := hv
 have := set_spec t p k v l x f i y hn hb (by omega) hl
 rwa [show f.vars.set i y = setv f.vars (i : Int) y by unfold setv; rw [Int.toNat_natCast]] at this
theorem got_spec (p : Nat) (n : Int) : Does Tryz.prog 102 [.pointer (some ⟨p, 0, none⟩), .int .i64 n] [] []
  (fun s : Nat × Nat => .func (.func 135) #[] #[.pointer (some ⟨s.1, 0, none⟩), .pointer (some ⟨s.2, 0, none⟩)]) (fun _ => []) (fun s => [RowR s.1 49 [.pointer (some ⟨p, 0, none⟩)], RowR s.2 3 [.int .i64 n]]) := by
 refine enter Tryz.func102 rfl Tryz.ntmps102 rfl fun _ => ?_
 refine GX.wp_RA ?_; intros
 refine GX.nmP 2 ?_; rintro b2 rfl
 refine GX.nmP 3 ?_; rintro b3 rfl
 exact rt1 (b2, b3) rfl
theorem got1_spec (t : RTg) (p : Nat) (k : MK) (v : MV) (l : List (Option Addr)) (x : FrC) (f : Fr) (n y c : Int) (b2 b3 : Nat) (hn : v.nf = l.length + 1) (hb : l.length ≤ 1000) (hl : f.vars.length = x.n) (hv : Vok f n) :
  Does Tryz.prog 135 [.int .i64 y, .int .i64 c, .pointer (some ⟨b2, 0, none⟩), .pointer (some ⟨b3, 0, none⟩)] [] [RowR b2 49 [.pointer (some ⟨p, 0, none⟩)], RowR b3 3 [.int .i64 n], RowR p 57 [.slice k.aC t.classes.length k.cC, .slice k.aG t.globals.length k.cG, .slice k.aU t.units.length k.cU, .int .i64 t.main, .slice k.aL (glob t).length k.cL, .pointer (some ⟨k.tp, 0, none⟩), .int .i64 1, .slice v.ai v.ni v.ci, .slice (some ⟨k.gb, 0, none⟩) t.globals.length t.globals.length, .slice v.af v.nf v.cf, .int .i64 v.bound, .map (some k.om), .int .i64 v.en, .int .i64 v.code, .slice v.ao v.no v.co, .int .i64 v.steps, .int .i64 0, .int .i64 0, .int .i64 0, .int .i64 0, .int .i64 v.slack, .int .i64 0], GX.Own 60 Ty.ptr v.af v.cf (l ++ [some ⟨x.bl, 0, none⟩]), RowR x.bl 93 [.int .i64 f.u, .int .i64 f.pc, .slice (some ⟨x.vb, 0, none⟩) x.n x.n, .int .i64 f.into, .map (some x.mb)], GX.Own 3 Ty.int (some ⟨x.vb, 0, none⟩) x.n f.vars]
   (fun _ : Unit => .tuple #[]) (fun _ => []) (fun _ => [RowR p 57 [.slice k.aC t.classes.length k.cC, .slice k.aG t.globals.length k.cG, .slice k.aU t.units.length k.cU, .int .i64 t.main, .slice k.aL (glob t).length k.cL, .pointer (some ⟨k.tp, 0, none⟩), .int .i64 1, .slice (trapV v c).ai (trapV v c).ni (trapV v c).ci, .slice (some ⟨k.gb, 0, none⟩) t.globals.length t.globals.length, .slice (trapV v c).af (trapV v c).nf (trapV v c).cf, .int .i64 (trapV v c).bound, .map (some k.om), .int .i64 (trapV v c).en, .int .i64 (trapV v c).code, .slice (trapV v c).ao (trapV v c).no (trapV v c).co, .int .i64 (trapV v c).steps, .int .i64 0, .int .i64 0, .int .i64 0, .int .i64 0, .int .i64 (trapV v c).slack, .int .i64 0], GX.Own 60 Ty.ptr v.af v.cf (l ++ [some ⟨x.bl, 0, none⟩]), RowR x.bl 93 [.int .i64 f.u, .int .i64 f.pc, .slice (some ⟨x.vb, 0, none⟩) x.n x.n, .int .i64 f.into, .map (some x.mb)], GX.Own 3 Ty.int (some ⟨x.vb, 0, none⟩) x.n (if c = 0 then setv f.vars n y else f.vars)]) := by
 refine enter Tryz.func135 rfl Tryz.ntmps135 rfl fun _ => ?_
 by_cases hc : c = 0
 ·rw [if_pos hc]
  refine GX.wp_R ?_; intros
  refine GX.o (cl (trap_spec t p k v c) fun _ => ?_)
  rw [show trapV v c = v from if_pos hc]
  refine GX.wp_R ?_; intros
  refine GX.o (cl (setI_spec t p k v l x f n y hn hb hl hv) fun _ => ?_)
  refine GX.wp_R ?_; intros
  exact en0 ()
 ·rw [if_neg hc]
  refine GX.wp_R ?_; intros
  refine GX.o (cl (trap_spec t p k v c) fun _ => ?_)
  refine GX.wp_R ?_; intros
  exact en0 ()
theorem trapV_nfs (v : MV) (c : Int) : (trapV v c).nf = v.nf ∧ (trapV v c).af = v.af ∧ (trapV v c).cf = v.cf := by
 unfold trapV
 split
 ·exact ⟨rfl, rfl, rfl⟩
 ·split <;> exact ⟨rfl, rfl, rfl⟩
theorem trapV_af (v : MV) (c : Int) : (trapV v c).af = v.af := (trapV_nfs v c).2.1
theorem trapV_cf (v : MV) (c : Int) : (trapV v c).cf = v.cf := (trapV_nfs v c).2.2
theorem constant_spec (t : RTg) (p : Nat) (k : MK) (v : MV) (l : List (Option Addr)) (x : FrC) (f : Fr) (i : Ins) (cs : List Value) (hn : v.nf = l.length + 1) (hb : l.length ≤ 1000) (hl : f.vars.length = x.n) (va : Vok f i.a) :
  Does Tryz.prog 43 [.pointer (some ⟨p, 0, none⟩), .agg cs.toArray] [Ag tyIns cs i] [RowR p 57 [.slice k.aC t.classes.length k.cC, .slice k.aG t.globals.length k.cG, .slice k.aU t.units.length k.cU, .int .i64 t.main, .slice k.aL (glob t).length k.cL, .pointer (some ⟨k.tp, 0, none⟩), .int .i64 1, .slice v.ai v.ni v.ci, .slice (some ⟨k.gb, 0, none⟩) t.globals.length t.globals.length, .slice v.af v.nf v.cf, .int .i64 v.bound, .map (some k.om), .int .i64 v.en, .int .i64 v.code, .slice v.ao v.no v.co, .int .i64 v.steps, .int .i64 0, .int .i64 0, .int .i64 0, .int .i64 0, .int .i64 v.slack, .int .i64 0], GX.Own 60 Ty.ptr v.af v.cf (l ++ [some ⟨x.bl, 0, none⟩]), RowR x.bl 93 [.int .i64 f.u, .int .i64 f.pc, .slice (some ⟨x.vb, 0, none⟩) x.n x.n, .int .i64 f.into, .map (some x.mb)], GX.Own 3 Ty.int (some ⟨x.vb, 0, none⟩) x.n f.vars] (fun _ : Unit => .tuple #[]) (fun _ => []) (fun _ => [RowR p 57 [.slice k.aC t.classes.length k.cC, .slice k.aG t.globals.length k.cG, .slice k.aU t.units.length k.cU, .int .i64 t.main, .slice k.aL (glob t).length k.cL, .pointer (some ⟨k.tp, 0, none⟩), .int .i64 1, .slice v.ai v.ni v.ci, .slice (some ⟨k.gb, 0, none⟩) t.globals.length t.globals.length, .slice v.af v.nf v.cf, .int .i64 v.bound, .map (some k.om), .int .i64 v.en, .int .i64 v.code, .slice v.ao v.no v.co, .int .i64 v.steps, .int .i64 0, .int .i64 0, .int .i64 0, .int .i64 0, .int .i64 v.slack, .int .i64 0], GX.Own 60 Ty.ptr v.af v.cf (l ++ [some ⟨x.bl, 0, none⟩]), RowR x.bl 93 [.int .i64 f.u, .int .i64 f.pc, .slice (some ⟨x.vb, 0, none⟩) x.n x.n, .int .i64 f.into, .map (some x.mb)], GX.Own 3 Ty.int (some ⟨x.vb, 0, none⟩) x.n (setv f.vars i.a i.n)]) := by
 refine enter Tryz.func43 rfl Tryz.ntmps43 rfl fun _ => ?_
 refine GX.wp_R ?_; intros
 refine GX.o (cl (setI_spec t p k v l x f i.a i.n hn hb hl va) fun _ => ?_)
 refine GX.wp_R ?_; intros
 exact en0 ()
theorem null_spec (t : RTg) (p : Nat) (k : MK) (v : MV) (l : List (Option Addr)) (x : FrC) (f : Fr) (i : Ins) (cs : List Value) (hn : v.nf = l.length + 1) (hb : l.length ≤ 1000) (hl : f.vars.length = x.n) (va : Vok f i.a) :
  Does Tryz.prog 44 [.pointer (some ⟨p, 0, none⟩), .agg cs.toArray] [Ag tyIns cs i] [RowR p 57 [.slice k.aC t.classes.length k.cC, .slice k.aG t.globals.length k.cG, .slice k.aU t.units.length k.cU, .int .i64 t.main, .slice k.aL (glob t).length k.cL, .pointer (some ⟨k.tp, 0, none⟩), .int .i64 1, .slice v.ai v.ni v.ci, .slice (some ⟨k.gb, 0, none⟩) t.globals.length t.globals.length, .slice v.af v.nf v.cf, .int .i64 v.bound, .map (some k.om), .int .i64 v.en, .int .i64 v.code, .slice v.ao v.no v.co, .int .i64 v.steps, .int .i64 0, .int .i64 0, .int .i64 0, .int .i64 0, .int .i64 v.slack, .int .i64 0], GX.Own 60 Ty.ptr v.af v.cf (l ++ [some ⟨x.bl, 0, none⟩]), RowR x.bl 93 [.int .i64 f.u, .int .i64 f.pc, .slice (some ⟨x.vb, 0, none⟩) x.n x.n, .int .i64 f.into, .map (some x.mb)], GX.Own 3 Ty.int (some ⟨x.vb, 0, none⟩) x.n f.vars] (fun _ : Unit => .tuple #[]) (fun _ => [])
   (fun s => [RowR p 57 [.slice k.aC t.classes.length k.cC, .slice k.aG t.globals.length k.cG, .slice k.aU t.units.length k.cU, .int .i64 t.main, .slice k.aL (glob t).length k.cL, .pointer (some ⟨k.tp, 0, none⟩), .int .i64 1, .slice v.ai v.ni v.ci, .slice (some ⟨k.gb, 0, none⟩) t.globals.length t.globals.length, .slice v.af v.nf v.cf, .int .i64 v.bound, .map (some k.om), .int .i64 v.en, .int .i64 v.code, .slice v.ao v.no v.co, .int .i64 v.steps, .int .i64 0, .int .i64 0, .int .i64 0, .int .i64 0, .int .i64 v.slack, .int .i64 0], GX.Own 60 Ty.ptr v.af v.cf (l ++ [some ⟨x.bl, 0, none⟩]), RowR x.bl 93 [.int .i64 f.u, .int .i64 f.pc, .slice (some ⟨x.vb, 0, none⟩) x.n x.n, .int .i64 f.into, .map (some x.mb)], GX.Own 3 Ty.int (some ⟨x.vb, 0, none⟩) x.n (setv f.vars i.a 0)]) := by
 refine enter Tryz.func44 rfl Tryz.ntmps44 rfl fun _ => ?_
 refine GX.wp_R ?_; intros
 refine GX.o (cl (setI_spec t p k v l x f i.a 0 hn hb hl va) fun _ => ?_)
 refine GX.wp_R ?_; intros
 exact en0 ()
theorem copies_spec (t : RTg) (p : Nat) (k : MK) (v : MV) (l : List (Option Addr)) (x : FrC) (f : Fr) (i : Ins) (cs : List Value) (hn : v.nf = l.length + 1) (hb : l.length ≤ 1000) (hl : f.vars.length = x.n) (va : Vok f i.a) (vb : Vok f i.b) :
  Does Tryz.prog 45 [.pointer (some ⟨p, 0, none⟩), .agg cs.toArray] [Ag tyIns cs i] [RowR p 57 [.slice k.aC t.classes.length k.cC, .slice k.aG t.globals.length k.cG, .slice k.aU t.units.length k.cU, .int .i64 t.main, .slice k.aL (glob t).length k.cL, .pointer (some ⟨k.tp, 0, none⟩), .int .i64 1, .slice v.ai v.ni v.ci, .slice (some ⟨k.gb, 0, none⟩) t.globals.length t.globals.length, .slice v.af v.nf v.cf, .int .i64 v.bound, .map (some k.om), .int .i64 v.en, .int .i64 v.code, .slice v.ao v.no v.co, .int .i64 v.steps, .int .i64 0, .int .i64 0, .int .i64 0, .int .i64 0, .int .i64 v.slack, .int .i64 0], GX.Own 60 Ty.ptr v.af v.cf (l ++ [some ⟨x.bl, 0, none⟩]), RowR x.bl 93 [.int .i64 f.u, .int .i64 f.pc, .slice (some ⟨x.vb, 0, none⟩) x.n x.n, .int .i64 f.into, .map (some x.mb)], GX.Own 3 Ty.int (some ⟨x.vb, 0, none⟩) x.n f.vars] (fun _ : Unit => .tuple #[]) (fun _ => [])
   (fun s => [RowR p 57 [.slice k.aC t.classes.length k.cC, .slice k.aG t.globals.length k.cG, .slice k.aU t.units.length k.cU, .int .i64 t.main, .slice k.aL (glob t).length k.cL, .pointer (some ⟨k.tp, 0, none⟩), .int .i64 1, .slice v.ai v.ni v.ci, .slice (some ⟨k.gb, 0, none⟩) t.globals.length t.globals.length, .slice v.af v.nf v.cf, .int .i64 v.bound, .map (some k.om), .int .i64 v.en, .int .i64 v.code, .slice v.ao v.no v.co, .int .i64 v.steps, .int .i64 0, .int .i64 0, .int .i64 0, .int .i64 0, .int .i64 v.slack, .int .i64 0], GX.Own 60 Ty.ptr v.af v.cf (l ++ [some ⟨x.bl, 0, none⟩]), RowR x.bl 93 [.int .i64 f.u, .int .i64 f.pc, .slice (some ⟨x.vb, 0, none⟩) x.n x.n, .int .i64 f.into, .map (some x.mb)], GX.Own 3 Ty.int (some ⟨x.vb, 0, none⟩) x.n (setv f.vars i.a (lkv f.vars i.b))]) := by
 refine enter Tryz.func45 rfl Tryz.ntmps45 rfl fun _ => ?_
 refine GX.wp_R ?_; intros
 refine GX.drawn0  (fun j => !(List.contains [7] j)) [(0, true), (1, true), (2, true), (3, true), (4, true), (5, true), (6, false), (7, false)] rfl (by kernel_rfl) (by kernel_rfl) GX.sA ?_; intro wd F hW hR
 refine GX.wp_T ?_; intros
 refine GX.gow ?_
 refine (cl (vI_spec t p k v l x f i.b hn hb hl vb) fun _ => ?_)
 refine GX.wp_T ?_; intros
 refine GX.gow ?_
 refine (cl (setI_spec t p k v l x f i.a _ hn hb hl va) fun _ => ?_)
 refine GX.wp_T ?_; intros
 refine GX.wp_R ?_; intros
 exact en0 ()
theorem one_spec (t : RTg) (p : Nat) (k : MK) (v : MV) (l : List (Option Addr)) (x : FrC) (f : Fr) (i : Ins) (cs : List Value) (hn : v.nf = l.length + 1) (hb : l.length ≤ 1000) (hl : f.vars.length = x.n) (va : Vok f i.a) (vb : Vok f i.b) :
  Does Tryz.prog 47 [.pointer (some ⟨p, 0, none⟩), .agg cs.toArray] [Ag tyIns cs i] [RowR p 57 [.slice k.aC t.classes.length k.cC, .slice k.aG t.globals.length k.cG, .slice k.aU t.units.length k.cU, .int .i64 t.main, .slice k.aL (glob t).length k.cL, .pointer (some ⟨k.tp, 0, none⟩), .int .i64 1, .slice v.ai v.ni v.ci, .slice (some ⟨k.gb, 0, none⟩) t.globals.length t.globals.length, .slice v.af v.nf v.cf, .int .i64 v.bound, .map (some k.om), .int .i64 v.en, .int .i64 v.code, .slice v.ao v.no v.co, .int .i64 v.steps, .int .i64 0, .int .i64 0, .int .i64 0, .int .i64 0, .int .i64 v.slack, .int .i64 0], GX.Own 60 Ty.ptr v.af v.cf (l ++ [some ⟨x.bl, 0, none⟩]), RowR x.bl 93 [.int .i64 f.u, .int .i64 f.pc, .slice (some ⟨x.vb, 0, none⟩) x.n x.n, .int .i64 f.into, .map (some x.mb)], GX.Own 3 Ty.int (some ⟨x.vb, 0, none⟩) x.n f.vars] (fun _ : Unit => .tuple #[]) (fun _ => [])
   (fun s => [RowR p 57 [.slice k.aC t.classes.length k.cC, .slice k.aG t.globals.length k.cG, .slice k.aU t.units.length k.cU, .int .i64 t.main, .slice k.aL (glob t).length k.cL, .pointer (some ⟨k.tp, 0, none⟩), .int .i64 1, .slice v.ai v.ni v.ci, .slice (some ⟨k.gb, 0, none⟩) t.globals.length t.globals.length, .slice v.af v.nf v.cf, .int .i64 v.bound, .map (some k.om), .int .i64 v.en, .int .i64 v.code, .slice v.ao v.no v.co, .int .i64 v.steps, .int .i64 0, .int .i64 0, .int .i64 0, .int .i64 0, .int .i64 v.slack, .int .i64 0], GX.Own 60 Ty.ptr v.af v.cf (l ++ [some ⟨x.bl, 0, none⟩]), RowR x.bl 93 [.int .i64 f.u, .int .i64 f.pc, .slice (some ⟨x.vb, 0, none⟩) x.n x.n, .int .i64 f.into, .map (some x.mb)], GX.Own 3 Ty.int (some ⟨x.vb, 0, none⟩) x.n (setv f.vars i.a (unN i.n (lkv f.vars i.b)))]) := by
 refine enter Tryz.func47 rfl Tryz.ntmps47 rfl fun _ => ?_
 refine GX.wp_R ?_; intros
 refine GX.drawn0  (fun j => !(List.contains [10] j)) [(0, true), (1, true), (2, true), (3, true), (4, true), (5, true), (6, true), (7, true), (8, false), (9, false), (10, false)] rfl (by kernel_rfl) (by kernel_rfl) GX.sA ?_; intro wd F hW hR
 refine GX.wp_T ?_; intros
 refine GX.gow ?_
 refine (cl (vI_spec t p k v l x f i.b hn hb hl vb) fun _ => ?_)
 refine GX.wp_T ?_; intros
 refine GX.gow ?_
 refine (cl (un_spec i.n (lkv f.vars i.b)) fun _ => ?_)
 refine GX.wp_T ?_; intros
 refine GX.gow ?_
 refine (cl (setI_spec t p k v l x f i.a _ hn hb hl va) fun _ => ?_)
 refine GX.wp_T ?_; intros
 refine GX.wp_R ?_; intros
 exact en0 ()
theorem two30_spec (t : RTg) (p : Nat) (k : MK) (v : MV) (l : List (Option Addr)) (x : FrC) (f : Fr) (i : Ins) (cs : List Value) (hn : v.nf = l.length + 1) (hb : l.length ≤ 1000) (hl : f.vars.length = x.n) (va : Vok f i.a) (vb : Vok f i.b) (vc : Vok f i.c) :
  Does Tryz.prog 46 [.pointer (some ⟨p, 0, none⟩), .agg cs.toArray] [Ag tyIns cs i] [RowR p 57 [.slice k.aC t.classes.length k.cC, .slice k.aG t.globals.length k.cG, .slice k.aU t.units.length k.cU, .int .i64 t.main, .slice k.aL (glob t).length k.cL, .pointer (some ⟨k.tp, 0, none⟩), .int .i64 1, .slice v.ai v.ni v.ci, .slice (some ⟨k.gb, 0, none⟩) t.globals.length t.globals.length, .slice v.af v.nf v.cf, .int .i64 v.bound, .map (some k.om), .int .i64 v.en, .int .i64 v.code, .slice v.ao v.no v.co, .int .i64 v.steps, .int .i64 0, .int .i64 0, .int .i64 0, .int .i64 0, .int .i64 v.slack, .int .i64 0], GX.Own 60 Ty.ptr v.af v.cf (l ++ [some ⟨x.bl, 0, none⟩]), RowR x.bl 93 [.int .i64 f.u, .int .i64 f.pc, .slice (some ⟨x.vb, 0, none⟩) x.n x.n, .int .i64 f.into, .map (some x.mb)], GX.Own 3 Ty.int (some ⟨x.vb, 0, none⟩) x.n f.vars] (fun _ : Unit => .tuple #[]) (fun _ => [])
   (fun s => [RowR p 57 [.slice k.aC t.classes.length k.cC, .slice k.aG t.globals.length k.cG, .slice k.aU t.units.length k.cU, .int .i64 t.main, .slice k.aL (glob t).length k.cL, .pointer (some ⟨k.tp, 0, none⟩), .int .i64 1, .slice (trapV v (bin i.n (lkv f.vars i.b) (lkv f.vars i.c)).2).ai (trapV v (bin i.n (lkv f.vars i.b) (lkv f.vars i.c)).2).ni (trapV v (bin i.n (lkv f.vars i.b) (lkv f.vars i.c)).2).ci, .slice (some ⟨k.gb, 0, none⟩) t.globals.length t.globals.length, .slice (trapV v (bin i.n (lkv f.vars i.b) (lkv f.vars i.c)).2).af (trapV v (bin i.n (lkv f.vars i.b) (lkv f.vars i.c)).2).nf (trapV v (bin i.n (lkv f.vars i.b) (lkv f.vars i.c)).2).cf, .int .i64 (trapV v (bin i.n (lkv f.vars i.b) (lkv f.vars i.c)).2).bound, .map (some k.om), .int .i64 (trapV v (bin i.n (lkv f.vars i.b) (lkv f.vars i.c)).2).en, .int .i64 (trapV v (bin i.n (lkv f.vars i.b) (lkv f.vars i.c)).2).code, .slice (trapV v (bin i.n (lkv f.vars i.b) (lkv f.vars i.c)).2).ao (trapV v (bin i.n (lkv f.vars i.b) (lkv f.vars i.c)).2).no (trapV v (bin i.n (lkv f.vars i.b) (lkv f.vars i.c)).2).co, .int .i64 (trapV v (bin i.n (lkv f.vars i.b) (lkv f.vars i.c)).2).steps, .int .i64 0, .int .i64 0, .int .i64 0, .int .i64 0, .int .i64 (trapV v (bin i.n (lkv f.vars i.b) (lkv f.vars i.c)).2).slack, .int .i64 0], GX.Own 60 Ty.ptr (trapV v (bin i.n (lkv f.vars i.b) (lkv f.vars i.c)).2).af (trapV v (bin i.n (lkv f.vars i.b) (lkv f.vars i.c)).2).cf (l ++ [some ⟨x.bl, 0, none⟩]), RowR x.bl 93 [.int .i64 f.u, .int .i64 f.pc, .slice (some ⟨x.vb, 0, none⟩) x.n x.n, .int .i64 f.into, .map (some x.mb)], GX.Own 3 Ty.int (some ⟨x.vb, 0, none⟩) x.n (if (bin i.n (lkv f.vars i.b) (lkv f.vars i.c)).2 = 0 then setv f.vars i.a (bin i.n (lkv f.vars i.b) (lkv f.vars i.c)).1 else f.vars)]) := by
 refine enter Tryz.func46 rfl Tryz.ntmps46 rfl fun _ => ?_
 refine GX.wp_R ?_; intros
 refine GX.drawn0  (fun j => !(List.contains [14, 17] j)) [(0, true), (1, true), (2, true), (4, true), (5, true), (6, true), (7, true), (8, true), (10, true), (11, true), (12, true), (3, false), (9, false), (13, false), (14, false), (15, true), (16, true), (17, false)] rfl (by kernel_rfl) (by kernel_rfl) GX.sA ?_; intro wd F hW hR
 refine GX.wp_T ?_; intros
 refine GX.gow ?_
 refine (cl (got_spec p i.a) fun s => ?_)
 obtain ⟨b2, b3⟩ := s
 dsimp only
 refine GX.wp_T ?_; intros
 refine GX.gow ?_
 refine (cl (vI_spec t p k v l x f i.b hn hb hl vb) fun _ => ?_)
 refine GX.wp_T ?_; intros
 refine GX.gow ?_
 refine (cl (vI_spec t p k v l x f i.c hn hb hl vc) fun _ => ?_)
 refine GX.wp_T ?_; intros
 refine GX.gow ?_
 refine (cl (bin_spec i.n (lkv f.vars i.b) (lkv f.vars i.c)) fun _ => ?_)
 refine GX.wp_T ?_; intros
 refine GX.gow ?_
 refine (clv (fs := []) (vs := [.int .i64 _, .int .i64 _]) (cs := [.pointer (some ⟨b2, 0, none⟩), .pointer (some ⟨b3, 0, none⟩)]) (got1_spec t p k v l x f i.a _ _ b2 b3 hn hb hl va) fun _ => ?_)
 refine GX.wp_T ?_; intros
 refine GX.wp_R ?_; intros
 simp only [trapV_af, trapV_cf]
 exact en0 ()
theorem loads30_spec (t : RTg) (p : Nat) (k : MK) (v : MV) (l : List (Option Addr)) (x : FrC) (f : Fr) (i : Ins) (cs : List Value) (c : TabC) (T : Tb) (hT : TInv c T) (hL : T.L.length ≤ 1000000000) (hn : v.nf = l.length + 1) (hb : l.length ≤ 1000) (hl : f.vars.length = x.n) (va : Vok f i.a) (vb : Vok f i.b) :
  Does Tryz.prog 48 [.pointer (some ⟨p, 0, none⟩), .agg cs.toArray] [Ag tyIns cs i] [RowR p 57 [.slice k.aC t.classes.length k.cC, .slice k.aG t.globals.length k.cG, .slice k.aU t.units.length k.cU, .int .i64 t.main, .slice k.aL (glob t).length k.cL, .pointer (some ⟨k.tp, 0, none⟩), .int .i64 1, .slice v.ai v.ni v.ci, .slice (some ⟨k.gb, 0, none⟩) t.globals.length t.globals.length, .slice v.af v.nf v.cf, .int .i64 v.bound, .map (some k.om), .int .i64 v.en, .int .i64 v.code, .slice v.ao v.no v.co, .int .i64 v.steps, .int .i64 0, .int .i64 0, .int .i64 0, .int .i64 0, .int .i64 v.slack, .int .i64 0], GX.Own 60 Ty.ptr v.af v.cf (l ++ [some ⟨x.bl, 0, none⟩]), RowR x.bl 93 [.int .i64 f.u, .int .i64 f.pc, .slice (some ⟨x.vb, 0, none⟩) x.n x.n, .int .i64 f.into, .map (some x.mb)], GX.Own 3 Ty.int (some ⟨x.vb, 0, none⟩) x.n f.vars, RowR k.tp 86 [.slice c.aR c.R.length c.cR, .slice c.aL c.L.length c.cL, .int .i64 c.gone, .int .i64 c.peak, .int .i64 c.many, .int .i64 c.most], GX.Own 90 tyRegion c.aR c.cR c.R, GX.Own 148 tyThing c.aL c.cL (c.L.map thg), Owns 3 Ty.int (c.L.map (fun x : Th => x.2))] (fun _ : Unit => .tuple #[]) (fun _ => [])
   (fun s => [RowR p 57 [.slice k.aC t.classes.length k.cC, .slice k.aG t.globals.length k.cG, .slice k.aU t.units.length k.cU, .int .i64 t.main, .slice k.aL (glob t).length k.cL, .pointer (some ⟨k.tp, 0, none⟩), .int .i64 1, .slice (trapV v (loadP T.B T.L (lkv f.vars i.b) i.c).2).ai (trapV v (loadP T.B T.L (lkv f.vars i.b) i.c).2).ni (trapV v (loadP T.B T.L (lkv f.vars i.b) i.c).2).ci, .slice (some ⟨k.gb, 0, none⟩) t.globals.length t.globals.length, .slice (trapV v (loadP T.B T.L (lkv f.vars i.b) i.c).2).af (trapV v (loadP T.B T.L (lkv f.vars i.b) i.c).2).nf (trapV v (loadP T.B T.L (lkv f.vars i.b) i.c).2).cf, .int .i64 (trapV v (loadP T.B T.L (lkv f.vars i.b) i.c).2).bound, .map (some k.om), .int .i64 (trapV v (loadP T.B T.L (lkv f.vars i.b) i.c).2).en, .int .i64 (trapV v (loadP T.B T.L (lkv f.vars i.b) i.c).2).code, .slice (trapV v (loadP T.B T.L (lkv f.vars i.b) i.c).2).ao (trapV v (loadP T.B T.L (lkv f.vars i.b) i.c).2).no (trapV v (loadP T.B T.L (lkv f.vars i.b) i.c).2).co, .int .i64 (trapV v (loadP T.B T.L (lkv f.vars i.b) i.c).2).steps, .int .i64 0, .int .i64 0, .int .i64 0, .int .i64 0, .int .i64 (trapV v (loadP T.B T.L (lkv f.vars i.b) i.c).2).slack, .int .i64 0], GX.Own 60 Ty.ptr (trapV v (loadP T.B T.L (lkv f.vars i.b) i.c).2).af (trapV v (loadP T.B T.L (lkv f.vars i.b) i.c).2).cf (l ++ [some ⟨x.bl, 0, none⟩]), RowR x.bl 93 [.int .i64 f.u, .int .i64 f.pc, .slice (some ⟨x.vb, 0, none⟩) x.n x.n, .int .i64 f.into, .map (some x.mb)], GX.Own 3 Ty.int (some ⟨x.vb, 0, none⟩) x.n (if (loadP T.B T.L (lkv f.vars i.b) i.c).2 = 0 then setv f.vars i.a (loadP T.B T.L (lkv f.vars i.b) i.c).1 else f.vars), RowR k.tp 86 [.slice c.aR c.R.length c.cR, .slice c.aL c.L.length c.cL, .int .i64 c.gone, .int .i64 c.peak, .int .i64 c.many, .int .i64 c.most], GX.Own 90 tyRegion c.aR c.cR c.R, GX.Own 148 tyThing c.aL c.cL (c.L.map thg), Owns 3 Ty.int (c.L.map (fun x : Th => x.2))]) := by
 refine enter Tryz.func48 rfl Tryz.ntmps48 rfl fun _ => ?_
 refine GX.wp_R ?_; intros
 refine GX.drawn1 (RowR p 57 [.slice k.aC t.classes.length k.cC, .slice k.aG t.globals.length k.cG, .slice k.aU t.units.length k.cU, .int .i64 t.main, .slice k.aL (glob t).length k.cL, .pointer (some ⟨k.tp, 0, none⟩), .int .i64 1, .slice v.ai v.ni v.ci, .slice (some ⟨k.gb, 0, none⟩) t.globals.length t.globals.length, .slice v.af v.nf v.cf, .int .i64 v.bound, .map (some k.om), .int .i64 v.en, .int .i64 v.code, .slice v.ao v.no v.co, .int .i64 v.steps, .int .i64 0, .int .i64 0, .int .i64 0, .int .i64 0, .int .i64 v.slack, .int .i64 0]) (fun j => !(List.contains [14, 17] j)) [(0, true), (1, true), (2, true), (4, true), (5, true), (6, true), (7, true), (8, true), (9, true), (10, true), (12, true), (13, true), (3, false), (11, false), (14, false), (15, true), (16, true), (17, false)] rfl (by kernel_rfl) (by kernel_rfl) GX.sA ?_; intro wd F hW hR
 refine GX.wp_T ?_; intros
 refine GX.unpin (RowR p 57 _) ?_
 refine GX.gow ?_
 refine (cl (got_spec p i.a) fun s => ?_)
 obtain ⟨b2, b3⟩ := s
 dsimp only
 refine GX.wp_T ?_; intros
 refine GX.gow ?_
 refine (cl (vI_spec t p k v l x f i.b hn hb hl vb) fun _ => ?_)
 refine GX.wp_T ?_; intros
 refine GX.gow ?_
 refine (cl (tLoad_spec k.tp hT (lkv f.vars i.b) i.c hL) fun _ => ?_)
 refine GX.wp_T ?_; intros
 refine GX.gow ?_
 refine (clv (fs := []) (vs := [.int .i64 _, .int .i64 _]) (cs := [.pointer (some ⟨b2, 0, none⟩), .pointer (some ⟨b3, 0, none⟩)]) (got1_spec t p k v l x f i.a _ _ b2 b3 hn hb hl va) fun _ => ?_)
 refine GX.wp_T ?_; intros
 refine GX.wp_R ?_; intros
 simp only [trapV_af, trapV_cf]
 exact en0 ()
theorem item_spec (t : RTg) (p : Nat) (k : MK) (v : MV) (l : List (Option Addr)) (x : FrC) (f : Fr) (i : Ins) (cs : List Value) (c : TabC) (T : Tb) (hT : TInv c T) (hL : T.L.length ≤ 1000000000) (hn : v.nf = l.length + 1) (hb : l.length ≤ 1000) (hl : f.vars.length = x.n) (va : Vok f i.a) (vb : Vok f i.b) (vc : Vok f i.c) :
  Does Tryz.prog 50 [.pointer (some ⟨p, 0, none⟩), .agg cs.toArray] [Ag tyIns cs i] [RowR p 57 [.slice k.aC t.classes.length k.cC, .slice k.aG t.globals.length k.cG, .slice k.aU t.units.length k.cU, .int .i64 t.main, .slice k.aL (glob t).length k.cL, .pointer (some ⟨k.tp, 0, none⟩), .int .i64 1, .slice v.ai v.ni v.ci, .slice (some ⟨k.gb, 0, none⟩) t.globals.length t.globals.length, .slice v.af v.nf v.cf, .int .i64 v.bound, .map (some k.om), .int .i64 v.en, .int .i64 v.code, .slice v.ao v.no v.co, .int .i64 v.steps, .int .i64 0, .int .i64 0, .int .i64 0, .int .i64 0, .int .i64 v.slack, .int .i64 0], GX.Own 60 Ty.ptr v.af v.cf (l ++ [some ⟨x.bl, 0, none⟩]), RowR x.bl 93 [.int .i64 f.u, .int .i64 f.pc, .slice (some ⟨x.vb, 0, none⟩) x.n x.n, .int .i64 f.into, .map (some x.mb)], GX.Own 3 Ty.int (some ⟨x.vb, 0, none⟩) x.n f.vars, RowR k.tp 86 [.slice c.aR c.R.length c.cR, .slice c.aL c.L.length c.cL, .int .i64 c.gone, .int .i64 c.peak, .int .i64 c.many, .int .i64 c.most], GX.Own 90 tyRegion c.aR c.cR c.R, GX.Own 148 tyThing c.aL c.cL (c.L.map thg), Owns 3 Ty.int (c.L.map (fun x : Th => x.2))] (fun _ : Unit => .tuple #[]) (fun _ => [])
   (fun s => [RowR p 57 [.slice k.aC t.classes.length k.cC, .slice k.aG t.globals.length k.cG, .slice k.aU t.units.length k.cU, .int .i64 t.main, .slice k.aL (glob t).length k.cL, .pointer (some ⟨k.tp, 0, none⟩), .int .i64 1, .slice (trapV v (loadP T.B T.L (lkv f.vars i.b) (lkv f.vars i.c)).2).ai (trapV v (loadP T.B T.L (lkv f.vars i.b) (lkv f.vars i.c)).2).ni (trapV v (loadP T.B T.L (lkv f.vars i.b) (lkv f.vars i.c)).2).ci, .slice (some ⟨k.gb, 0, none⟩) t.globals.length t.globals.length, .slice (trapV v (loadP T.B T.L (lkv f.vars i.b) (lkv f.vars i.c)).2).af (trapV v (loadP T.B T.L (lkv f.vars i.b) (lkv f.vars i.c)).2).nf (trapV v (loadP T.B T.L (lkv f.vars i.b) (lkv f.vars i.c)).2).cf, .int .i64 (trapV v (loadP T.B T.L (lkv f.vars i.b) (lkv f.vars i.c)).2).bound, .map (some k.om), .int .i64 (trapV v (loadP T.B T.L (lkv f.vars i.b) (lkv f.vars i.c)).2).en, .int .i64 (trapV v (loadP T.B T.L (lkv f.vars i.b) (lkv f.vars i.c)).2).code, .slice (trapV v (loadP T.B T.L (lkv f.vars i.b) (lkv f.vars i.c)).2).ao (trapV v (loadP T.B T.L (lkv f.vars i.b) (lkv f.vars i.c)).2).no (trapV v (loadP T.B T.L (lkv f.vars i.b) (lkv f.vars i.c)).2).co, .int .i64 (trapV v (loadP T.B T.L (lkv f.vars i.b) (lkv f.vars i.c)).2).steps, .int .i64 0, .int .i64 0, .int .i64 0, .int .i64 0, .int .i64 (trapV v (loadP T.B T.L (lkv f.vars i.b) (lkv f.vars i.c)).2).slack, .int .i64 0], GX.Own 60 Ty.ptr (trapV v (loadP T.B T.L (lkv f.vars i.b) (lkv f.vars i.c)).2).af (trapV v (loadP T.B T.L (lkv f.vars i.b) (lkv f.vars i.c)).2).cf (l ++ [some ⟨x.bl, 0, none⟩]), RowR x.bl 93 [.int .i64 f.u, .int .i64 f.pc, .slice (some ⟨x.vb, 0, none⟩) x.n x.n, .int .i64 f.into, .map (some x.mb)], GX.Own 3 Ty.int (some ⟨x.vb, 0, none⟩) x.n (if (loadP T.B T.L (lkv f.vars i.b) (lkv f.vars i.c)).2 = 0 then setv f.vars i.a (loadP T.B T.L (lkv f.vars i.b) (lkv f.vars i.c)).1 else f.vars), RowR k.tp 86 [.slice c.aR c.R.length c.cR, .slice c.aL c.L.length c.cL, .int .i64 c.gone, .int .i64 c.peak, .int .i64 c.many, .int .i64 c.most], GX.Own 90 tyRegion c.aR c.cR c.R, GX.Own 148 tyThing c.aL c.cL (c.L.map thg), Owns 3 Ty.int (c.L.map (fun x : Th => x.2))]) := by
 refine enter Tryz.func50 rfl Tryz.ntmps50 rfl fun _ => ?_
 refine GX.wp_R ?_; intros
 refine GX.drawn1 (RowR p 57 [.slice k.aC t.classes.length k.cC, .slice k.aG t.globals.length k.cG, .slice k.aU t.units.length k.cU, .int .i64 t.main, .slice k.aL (glob t).length k.cL, .pointer (some ⟨k.tp, 0, none⟩), .int .i64 1, .slice v.ai v.ni v.ci, .slice (some ⟨k.gb, 0, none⟩) t.globals.length t.globals.length, .slice v.af v.nf v.cf, .int .i64 v.bound, .map (some k.om), .int .i64 v.en, .int .i64 v.code, .slice v.ao v.no v.co, .int .i64 v.steps, .int .i64 0, .int .i64 0, .int .i64 0, .int .i64 0, .int .i64 v.slack, .int .i64 0]) (fun j => !(List.contains [16, 19] j)) [(0, true), (1, true), (2, true), (4, true), (5, true), (6, true), (7, true), (8, true), (9, true), (10, true), (12, true), (13, true), (14, true), (3, false), (11, false), (15, false), (16, false), (17, true), (18, true), (19, false)] rfl (by kernel_rfl) (by kernel_rfl) GX.sA ?_; intro wd F hW hR
 refine GX.wp_T ?_; intros
 refine GX.unpin (RowR p 57 _) ?_
 refine GX.gow ?_
 refine (cl (got_spec p i.a) fun s => ?_)
 obtain ⟨b2, b3⟩ := s
 dsimp only
 refine GX.wp_T ?_; intros
 refine GX.gow ?_
 refine (cl (vI_spec t p k v l x f i.b hn hb hl vb) fun _ => ?_)
 refine GX.wp_T ?_; intros
 refine GX.gow ?_
 refine (cl (vI_spec t p k v l x f i.c hn hb hl vc) fun _ => ?_)
 refine GX.wp_T ?_; intros
 refine GX.gow ?_
 refine (cl (tLoad_spec k.tp hT (lkv f.vars i.b) (lkv f.vars i.c) hL) fun _ => ?_)
 refine GX.wp_T ?_; intros
 refine GX.gow ?_
 refine (clv (fs := []) (vs := [.int .i64 _, .int .i64 _]) (cs := [.pointer (some ⟨b2, 0, none⟩), .pointer (some ⟨b3, 0, none⟩)]) (got1_spec t p k v l x f i.a _ _ b2 b3 hn hb hl va) fun _ => ?_)
 refine GX.wp_T ?_; intros
 refine GX.wp_R ?_; intros
 simp only [trapV_af, trapV_cf]
 exact en0 ()
theorem length30_spec (t : RTg) (p : Nat) (k : MK) (v : MV) (l : List (Option Addr)) (x : FrC) (f : Fr) (i : Ins) (cs : List Value) (c : TabC) (T : Tb) (hT : TInv c T) (hL : T.L.length ≤ 1000000000) (hn : v.nf = l.length + 1) (hb : l.length ≤ 1000) (hl : f.vars.length = x.n) (va : Vok f i.a) (vb : Vok f i.b) :
  Does Tryz.prog 52 [.pointer (some ⟨p, 0, none⟩), .agg cs.toArray] [Ag tyIns cs i] [RowR p 57 [.slice k.aC t.classes.length k.cC, .slice k.aG t.globals.length k.cG, .slice k.aU t.units.length k.cU, .int .i64 t.main, .slice k.aL (glob t).length k.cL, .pointer (some ⟨k.tp, 0, none⟩), .int .i64 1, .slice v.ai v.ni v.ci, .slice (some ⟨k.gb, 0, none⟩) t.globals.length t.globals.length, .slice v.af v.nf v.cf, .int .i64 v.bound, .map (some k.om), .int .i64 v.en, .int .i64 v.code, .slice v.ao v.no v.co, .int .i64 v.steps, .int .i64 0, .int .i64 0, .int .i64 0, .int .i64 0, .int .i64 v.slack, .int .i64 0], GX.Own 60 Ty.ptr v.af v.cf (l ++ [some ⟨x.bl, 0, none⟩]), RowR x.bl 93 [.int .i64 f.u, .int .i64 f.pc, .slice (some ⟨x.vb, 0, none⟩) x.n x.n, .int .i64 f.into, .map (some x.mb)], GX.Own 3 Ty.int (some ⟨x.vb, 0, none⟩) x.n f.vars, RowR k.tp 86 [.slice c.aR c.R.length c.cR, .slice c.aL c.L.length c.cL, .int .i64 c.gone, .int .i64 c.peak, .int .i64 c.many, .int .i64 c.most], GX.Own 90 tyRegion c.aR c.cR c.R, GX.Own 148 tyThing c.aL c.cL (c.L.map thg), Owns 3 Ty.int (c.L.map (fun x : Th => x.2))] (fun _ : Unit => .tuple #[]) (fun _ => [])
   (fun s => [RowR p 57 [.slice k.aC t.classes.length k.cC, .slice k.aG t.globals.length k.cG, .slice k.aU t.units.length k.cU, .int .i64 t.main, .slice k.aL (glob t).length k.cL, .pointer (some ⟨k.tp, 0, none⟩), .int .i64 1, .slice (trapV v (lenP T.B T.L (lkv f.vars i.b)).2).ai (trapV v (lenP T.B T.L (lkv f.vars i.b)).2).ni (trapV v (lenP T.B T.L (lkv f.vars i.b)).2).ci, .slice (some ⟨k.gb, 0, none⟩) t.globals.length t.globals.length, .slice (trapV v (lenP T.B T.L (lkv f.vars i.b)).2).af (trapV v (lenP T.B T.L (lkv f.vars i.b)).2).nf (trapV v (lenP T.B T.L (lkv f.vars i.b)).2).cf, .int .i64 (trapV v (lenP T.B T.L (lkv f.vars i.b)).2).bound, .map (some k.om), .int .i64 (trapV v (lenP T.B T.L (lkv f.vars i.b)).2).en, .int .i64 (trapV v (lenP T.B T.L (lkv f.vars i.b)).2).code, .slice (trapV v (lenP T.B T.L (lkv f.vars i.b)).2).ao (trapV v (lenP T.B T.L (lkv f.vars i.b)).2).no (trapV v (lenP T.B T.L (lkv f.vars i.b)).2).co, .int .i64 (trapV v (lenP T.B T.L (lkv f.vars i.b)).2).steps, .int .i64 0, .int .i64 0, .int .i64 0, .int .i64 0, .int .i64 (trapV v (lenP T.B T.L (lkv f.vars i.b)).2).slack, .int .i64 0], GX.Own 60 Ty.ptr (trapV v (lenP T.B T.L (lkv f.vars i.b)).2).af (trapV v (lenP T.B T.L (lkv f.vars i.b)).2).cf (l ++ [some ⟨x.bl, 0, none⟩]), RowR x.bl 93 [.int .i64 f.u, .int .i64 f.pc, .slice (some ⟨x.vb, 0, none⟩) x.n x.n, .int .i64 f.into, .map (some x.mb)], GX.Own 3 Ty.int (some ⟨x.vb, 0, none⟩) x.n (if (lenP T.B T.L (lkv f.vars i.b)).2 = 0 then setv f.vars i.a (lenP T.B T.L (lkv f.vars i.b)).1 else f.vars), RowR k.tp 86 [.slice c.aR c.R.length c.cR, .slice c.aL c.L.length c.cL, .int .i64 c.gone, .int .i64 c.peak, .int .i64 c.many, .int .i64 c.most], GX.Own 90 tyRegion c.aR c.cR c.R, GX.Own 148 tyThing c.aL c.cL (c.L.map thg), Owns 3 Ty.int (c.L.map (fun x : Th => x.2))]) := by
 refine enter Tryz.func52 rfl Tryz.ntmps52 rfl fun _ => ?_
 refine GX.wp_R ?_; intros
 refine GX.drawn1 (RowR p 57 [.slice k.aC t.classes.length k.cC, .slice k.aG t.globals.length k.cG, .slice k.aU t.units.length k.cU, .int .i64 t.main, .slice k.aL (glob t).length k.cL, .pointer (some ⟨k.tp, 0, none⟩), .int .i64 1, .slice v.ai v.ni v.ci, .slice (some ⟨k.gb, 0, none⟩) t.globals.length t.globals.length, .slice v.af v.nf v.cf, .int .i64 v.bound, .map (some k.om), .int .i64 v.en, .int .i64 v.code, .slice v.ao v.no v.co, .int .i64 v.steps, .int .i64 0, .int .i64 0, .int .i64 0, .int .i64 0, .int .i64 v.slack, .int .i64 0]) (fun j => !(List.contains [12, 15] j)) [(0, true), (1, true), (2, true), (4, true), (5, true), (6, true), (7, true), (8, true), (9, true), (10, true), (3, false), (11, false), (12, false), (13, true), (14, true), (15, false)] rfl (by kernel_rfl) (by kernel_rfl) GX.sA ?_; intro wd F hW hR
 refine GX.wp_T ?_; intros
 refine GX.unpin (RowR p 57 _) ?_
 refine GX.gow ?_
 refine (cl (got_spec p i.a) fun s => ?_)
 obtain ⟨b2, b3⟩ := s
 dsimp only
 refine GX.wp_T ?_; intros
 refine GX.gow ?_
 refine (cl (vI_spec t p k v l x f i.b hn hb hl vb) fun _ => ?_)
 refine GX.wp_T ?_; intros
 refine GX.gow ?_
 refine (cl (tLen_spec k.tp hT (lkv f.vars i.b) hL) fun _ => ?_)
 refine GX.wp_T ?_; intros
 refine GX.gow ?_
 refine (clv (fs := []) (vs := [.int .i64 _, .int .i64 _]) (cs := [.pointer (some ⟨b2, 0, none⟩), .pointer (some ⟨b3, 0, none⟩)]) (got1_spec t p k v l x f i.a _ _ b2 b3 hn hb hl va) fun _ => ?_)
 refine GX.wp_T ?_; intros
 refine GX.wp_R ?_; intros
 simp only [trapV_af, trapV_cf]
 exact en0 ()
theorem keep_spec (t : RTg) (p : Nat) (k : MK) (v : MV) (l : List (Option Addr)) (x : FrC) (f : Fr) (i : Ins) (cs : List Value) (c : TabC) (T : Tb) (hT : TInv c T) (hL : T.L.length ≤ 1000000000) (hn : v.nf = l.length + 1) (hb : l.length ≤ 1000) (hl : f.vars.length = x.n) (va : Vok f i.a) (vb : Vok f i.b) :
  Does Tryz.prog 49 [.pointer (some ⟨p, 0, none⟩), .agg cs.toArray] [Ag tyIns cs i] [RowR p 57 [.slice k.aC t.classes.length k.cC, .slice k.aG t.globals.length k.cG, .slice k.aU t.units.length k.cU, .int .i64 t.main, .slice k.aL (glob t).length k.cL, .pointer (some ⟨k.tp, 0, none⟩), .int .i64 1, .slice v.ai v.ni v.ci, .slice (some ⟨k.gb, 0, none⟩) t.globals.length t.globals.length, .slice v.af v.nf v.cf, .int .i64 v.bound, .map (some k.om), .int .i64 v.en, .int .i64 v.code, .slice v.ao v.no v.co, .int .i64 v.steps, .int .i64 0, .int .i64 0, .int .i64 0, .int .i64 0, .int .i64 v.slack, .int .i64 0], GX.Own 60 Ty.ptr v.af v.cf (l ++ [some ⟨x.bl, 0, none⟩]), RowR x.bl 93 [.int .i64 f.u, .int .i64 f.pc, .slice (some ⟨x.vb, 0, none⟩) x.n x.n, .int .i64 f.into, .map (some x.mb)], GX.Own 3 Ty.int (some ⟨x.vb, 0, none⟩) x.n f.vars, RowR k.tp 86 [.slice c.aR c.R.length c.cR, .slice c.aL c.L.length c.cL, .int .i64 c.gone, .int .i64 c.peak, .int .i64 c.many, .int .i64 c.most], GX.Own 90 tyRegion c.aR c.cR c.R, GX.Own 148 tyThing c.aL c.cL (c.L.map thg), Owns 3 Ty.int (c.L.map (fun x : Th => x.2))] (fun _ : { c' : TabC // TInv c' (T.put (lkv f.vars i.a) i.c (lkv f.vars i.b)) } => .tuple #[]) (fun _ => [])
   (fun s => [RowR p 57 [.slice k.aC t.classes.length k.cC, .slice k.aG t.globals.length k.cG, .slice k.aU t.units.length k.cU, .int .i64 t.main, .slice k.aL (glob t).length k.cL, .pointer (some ⟨k.tp, 0, none⟩), .int .i64 1, .slice (trapV v (loadP T.B T.L (lkv f.vars i.a) i.c).2).ai (trapV v (loadP T.B T.L (lkv f.vars i.a) i.c).2).ni (trapV v (loadP T.B T.L (lkv f.vars i.a) i.c).2).ci, .slice (some ⟨k.gb, 0, none⟩) t.globals.length t.globals.length, .slice (trapV v (loadP T.B T.L (lkv f.vars i.a) i.c).2).af (trapV v (loadP T.B T.L (lkv f.vars i.a) i.c).2).nf (trapV v (loadP T.B T.L (lkv f.vars i.a) i.c).2).cf, .int .i64 (trapV v (loadP T.B T.L (lkv f.vars i.a) i.c).2).bound, .map (some k.om), .int .i64 (trapV v (loadP T.B T.L (lkv f.vars i.a) i.c).2).en, .int .i64 (trapV v (loadP T.B T.L (lkv f.vars i.a) i.c).2).code, .slice (trapV v (loadP T.B T.L (lkv f.vars i.a) i.c).2).ao (trapV v (loadP T.B T.L (lkv f.vars i.a) i.c).2).no (trapV v (loadP T.B T.L (lkv f.vars i.a) i.c).2).co, .int .i64 (trapV v (loadP T.B T.L (lkv f.vars i.a) i.c).2).steps, .int .i64 0, .int .i64 0, .int .i64 0, .int .i64 0, .int .i64 (trapV v (loadP T.B T.L (lkv f.vars i.a) i.c).2).slack, .int .i64 0], GX.Own 60 Ty.ptr (trapV v (loadP T.B T.L (lkv f.vars i.a) i.c).2).af (trapV v (loadP T.B T.L (lkv f.vars i.a) i.c).2).cf (l ++ [some ⟨x.bl, 0, none⟩]), RowR x.bl 93 [.int .i64 f.u, .int .i64 f.pc, .slice (some ⟨x.vb, 0, none⟩) x.n x.n, .int .i64 f.into, .map (some x.mb)], GX.Own 3 Ty.int (some ⟨x.vb, 0, none⟩) x.n f.vars, RowR k.tp 86 [.slice s.1.aR s.1.R.length s.1.cR, .slice s.1.aL s.1.L.length s.1.cL, .int .i64 s.1.gone, .int .i64 s.1.peak, .int .i64 s.1.many, .int .i64 s.1.most], GX.Own 90 tyRegion s.1.aR s.1.cR s.1.R, GX.Own 148 tyThing s.1.aL s.1.cL (s.1.L.map thg), Owns 3 Ty.int (s.1.L.map (fun x : Th => x.2))]) := by
 refine enter Tryz.func49 rfl Tryz.ntmps49 rfl fun _ => ?_
 refine GX.wp_R ?_; intros
 refine GX.drawn1 (RowR p 57 [.slice k.aC t.classes.length k.cC, .slice k.aG t.globals.length k.cG, .slice k.aU t.units.length k.cU, .int .i64 t.main, .slice k.aL (glob t).length k.cL, .pointer (some ⟨k.tp, 0, none⟩), .int .i64 1, .slice v.ai v.ni v.ci, .slice (some ⟨k.gb, 0, none⟩) t.globals.length t.globals.length, .slice v.af v.nf v.cf, .int .i64 v.bound, .map (some k.om), .int .i64 v.en, .int .i64 v.code, .slice v.ao v.no v.co, .int .i64 v.steps, .int .i64 0, .int .i64 0, .int .i64 0, .int .i64 0, .int .i64 v.slack, .int .i64 0]) (fun j => !(List.contains [15, 16] j)) [(0, true), (1, true), (2, true), (3, true), (4, true), (5, true), (6, true), (7, true), (9, true), (10, true), (11, true), (12, true), (13, true), (8, false), (14, false), (15, false), (16, false)] rfl (by kernel_rfl) (by kernel_rfl) GX.sA ?_; intro wd F hW hR
 refine GX.wp_T ?_; intros
 refine GX.unpin (RowR p 57 _) ?_
 refine GX.gow ?_
 refine (cl (vI_spec t p k v l x f i.a hn hb hl va) fun _ => ?_)
 refine GX.wp_T ?_; intros
 refine GX.gow ?_
 refine (cl (vI_spec t p k v l x f i.b hn hb hl vb) fun _ => ?_)
 refine GX.wp_T ?_; intros
 refine GX.gow ?_
 refine (cl (tPut_spec k.tp hT (lkv f.vars i.a) i.c (lkv f.vars i.b) hL) fun s => ?_)
 refine GX.wp_T ?_; intros
 refine GX.gow ?_
 refine (cl (trap_spec t p k v (loadP T.B T.L (lkv f.vars i.a) i.c).2) fun _ => ?_)
 refine GX.wp_T ?_; intros
 refine GX.wp_R ?_; intros
 simp only [trapV_af, trapV_cf]
 exact en0 s
theorem lay_spec (t : RTg) (p : Nat) (k : MK) (v : MV) (l : List (Option Addr)) (x : FrC) (f : Fr) (i : Ins) (cs : List Value) (c : TabC) (T : Tb) (hT : TInv c T) (hL : T.L.length ≤ 1000000000) (hn : v.nf = l.length + 1) (hb : l.length ≤ 1000) (hl : f.vars.length = x.n) (va : Vok f i.a) (vb : Vok f i.b) (vc : Vok f i.c) :
  Does Tryz.prog 51 [.pointer (some ⟨p, 0, none⟩), .agg cs.toArray] [Ag tyIns cs i] [RowR p 57 [.slice k.aC t.classes.length k.cC, .slice k.aG t.globals.length k.cG, .slice k.aU t.units.length k.cU, .int .i64 t.main, .slice k.aL (glob t).length k.cL, .pointer (some ⟨k.tp, 0, none⟩), .int .i64 1, .slice v.ai v.ni v.ci, .slice (some ⟨k.gb, 0, none⟩) t.globals.length t.globals.length, .slice v.af v.nf v.cf, .int .i64 v.bound, .map (some k.om), .int .i64 v.en, .int .i64 v.code, .slice v.ao v.no v.co, .int .i64 v.steps, .int .i64 0, .int .i64 0, .int .i64 0, .int .i64 0, .int .i64 v.slack, .int .i64 0], GX.Own 60 Ty.ptr v.af v.cf (l ++ [some ⟨x.bl, 0, none⟩]), RowR x.bl 93 [.int .i64 f.u, .int .i64 f.pc, .slice (some ⟨x.vb, 0, none⟩) x.n x.n, .int .i64 f.into, .map (some x.mb)], GX.Own 3 Ty.int (some ⟨x.vb, 0, none⟩) x.n f.vars, RowR k.tp 86 [.slice c.aR c.R.length c.cR, .slice c.aL c.L.length c.cL, .int .i64 c.gone, .int .i64 c.peak, .int .i64 c.many, .int .i64 c.most], GX.Own 90 tyRegion c.aR c.cR c.R, GX.Own 148 tyThing c.aL c.cL (c.L.map thg), Owns 3 Ty.int (c.L.map (fun x : Th => x.2))] (fun _ : { c' : TabC // TInv c' (T.put (lkv f.vars i.a) (lkv f.vars i.b) (lkv f.vars i.c)) } => .tuple #[]) (fun _ => [])
   (fun s => [RowR p 57 [.slice k.aC t.classes.length k.cC, .slice k.aG t.globals.length k.cG, .slice k.aU t.units.length k.cU, .int .i64 t.main, .slice k.aL (glob t).length k.cL, .pointer (some ⟨k.tp, 0, none⟩), .int .i64 1, .slice (trapV v (loadP T.B T.L (lkv f.vars i.a) (lkv f.vars i.b)).2).ai (trapV v (loadP T.B T.L (lkv f.vars i.a) (lkv f.vars i.b)).2).ni (trapV v (loadP T.B T.L (lkv f.vars i.a) (lkv f.vars i.b)).2).ci, .slice (some ⟨k.gb, 0, none⟩) t.globals.length t.globals.length, .slice (trapV v (loadP T.B T.L (lkv f.vars i.a) (lkv f.vars i.b)).2).af (trapV v (loadP T.B T.L (lkv f.vars i.a) (lkv f.vars i.b)).2).nf (trapV v (loadP T.B T.L (lkv f.vars i.a) (lkv f.vars i.b)).2).cf, .int .i64 (trapV v (loadP T.B T.L (lkv f.vars i.a) (lkv f.vars i.b)).2).bound, .map (some k.om), .int .i64 (trapV v (loadP T.B T.L (lkv f.vars i.a) (lkv f.vars i.b)).2).en, .int .i64 (trapV v (loadP T.B T.L (lkv f.vars i.a) (lkv f.vars i.b)).2).code, .slice (trapV v (loadP T.B T.L (lkv f.vars i.a) (lkv f.vars i.b)).2).ao (trapV v (loadP T.B T.L (lkv f.vars i.a) (lkv f.vars i.b)).2).no (trapV v (loadP T.B T.L (lkv f.vars i.a) (lkv f.vars i.b)).2).co, .int .i64 (trapV v (loadP T.B T.L (lkv f.vars i.a) (lkv f.vars i.b)).2).steps, .int .i64 0, .int .i64 0, .int .i64 0, .int .i64 0, .int .i64 (trapV v (loadP T.B T.L (lkv f.vars i.a) (lkv f.vars i.b)).2).slack, .int .i64 0], GX.Own 60 Ty.ptr (trapV v (loadP T.B T.L (lkv f.vars i.a) (lkv f.vars i.b)).2).af (trapV v (loadP T.B T.L (lkv f.vars i.a) (lkv f.vars i.b)).2).cf (l ++ [some ⟨x.bl, 0, none⟩]), RowR x.bl 93 [.int .i64 f.u, .int .i64 f.pc, .slice (some ⟨x.vb, 0, none⟩) x.n x.n, .int .i64 f.into, .map (some x.mb)], GX.Own 3 Ty.int (some ⟨x.vb, 0, none⟩) x.n f.vars, RowR k.tp 86 [.slice s.1.aR s.1.R.length s.1.cR, .slice s.1.aL s.1.L.length s.1.cL, .int .i64 s.1.gone, .int .i64 s.1.peak, .int .i64 s.1.many, .int .i64 s.1.most], GX.Own 90 tyRegion s.1.aR s.1.cR s.1.R, GX.Own 148 tyThing s.1.aL s.1.cL (s.1.L.map thg), Owns 3 Ty.int (s.1.L.map (fun x : Th => x.2))]) := by
 refine enter Tryz.func51 rfl Tryz.ntmps51 rfl fun _ => ?_
 refine GX.wp_R ?_; intros
 refine GX.drawn1 (RowR p 57 [.slice k.aC t.classes.length k.cC, .slice k.aG t.globals.length k.cG, .slice k.aU t.units.length k.cU, .int .i64 t.main, .slice k.aL (glob t).length k.cL, .pointer (some ⟨k.tp, 0, none⟩), .int .i64 1, .slice v.ai v.ni v.ci, .slice (some ⟨k.gb, 0, none⟩) t.globals.length t.globals.length, .slice v.af v.nf v.cf, .int .i64 v.bound, .map (some k.om), .int .i64 v.en, .int .i64 v.code, .slice v.ao v.no v.co, .int .i64 v.steps, .int .i64 0, .int .i64 0, .int .i64 0, .int .i64 0, .int .i64 v.slack, .int .i64 0]) (fun j => !(List.contains [17, 18] j)) [(0, true), (1, true), (2, true), (3, true), (4, true), (5, true), (6, true), (7, true), (9, true), (10, true), (11, true), (13, true), (14, true), (15, true), (8, false), (12, false), (16, false), (17, false), (18, false)] rfl (by kernel_rfl) (by kernel_rfl) GX.sA ?_; intro wd F hW hR
 refine GX.wp_T ?_; intros
 refine GX.unpin (RowR p 57 _) ?_
 refine GX.gow ?_
 refine (cl (vI_spec t p k v l x f i.a hn hb hl va) fun _ => ?_)
 refine GX.wp_T ?_; intros
 refine GX.gow ?_
 refine (cl (vI_spec t p k v l x f i.b hn hb hl vb) fun _ => ?_)
 refine GX.wp_T ?_; intros
 refine GX.gow ?_
 refine (cl (vI_spec t p k v l x f i.c hn hb hl vc) fun _ => ?_)
 refine GX.wp_T ?_; intros
 refine GX.gow ?_
 refine (cl (tPut_spec k.tp hT (lkv f.vars i.a) (lkv f.vars i.b) (lkv f.vars i.c) hL) fun s => ?_)
 refine GX.wp_T ?_; intros
 refine GX.gow ?_
 refine (cl (trap_spec t p k v (loadP T.B T.L (lkv f.vars i.a) (lkv f.vars i.b)).2) fun _ => ?_)
 refine GX.wp_T ?_; intros
 refine GX.wp_R ?_; intros
 simp only [trapV_af, trapV_cf]
 exact en0 s
theorem jump_spec (t : RTg) (p : Nat) (k : MK) (v : MV) (l : List (Option Addr)) (x : FrC) (f : Fr) (i : Ins) (cs : List Value) (hn : v.nf = l.length + 1) (hb : l.length ≤ 1000) (hl : f.vars.length = x.n)  :
  Does Tryz.prog 58 [.pointer (some ⟨p, 0, none⟩), .agg cs.toArray] [Ag tyIns cs i] [RowR p 57 [.slice k.aC t.classes.length k.cC, .slice k.aG t.globals.length k.cG, .slice k.aU t.units.length k.cU, .int .i64 t.main, .slice k.aL (glob t).length k.cL, .pointer (some ⟨k.tp, 0, none⟩), .int .i64 1, .slice v.ai v.ni v.ci, .slice (some ⟨k.gb, 0, none⟩) t.globals.length t.globals.length, .slice v.af v.nf v.cf, .int .i64 v.bound, .map (some k.om), .int .i64 v.en, .int .i64 v.code, .slice v.ao v.no v.co, .int .i64 v.steps, .int .i64 0, .int .i64 0, .int .i64 0, .int .i64 0, .int .i64 v.slack, .int .i64 0], GX.Own 60 Ty.ptr v.af v.cf (l ++ [some ⟨x.bl, 0, none⟩]), RowR x.bl 93 [.int .i64 f.u, .int .i64 f.pc, .slice (some ⟨x.vb, 0, none⟩) x.n x.n, .int .i64 f.into, .map (some x.mb)], GX.Own 3 Ty.int (some ⟨x.vb, 0, none⟩) x.n f.vars] (fun _ : Unit => .tuple #[]) (fun _ => [])
   (fun s => [RowR p 57 [.slice k.aC t.classes.length k.cC, .slice k.aG t.globals.length k.cG, .slice k.aU t.units.length k.cU, .int .i64 t.main, .slice k.aL (glob t).length k.cL, .pointer (some ⟨k.tp, 0, none⟩), .int .i64 1, .slice v.ai v.ni v.ci, .slice (some ⟨k.gb, 0, none⟩) t.globals.length t.globals.length, .slice v.af v.nf v.cf, .int .i64 v.bound, .map (some k.om), .int .i64 v.en, .int .i64 v.code, .slice v.ao v.no v.co, .int .i64 v.steps, .int .i64 0, .int .i64 0, .int .i64 0, .int .i64 0, .int .i64 v.slack, .int .i64 0], GX.Own 60 Ty.ptr v.af v.cf (l ++ [some ⟨x.bl, 0, none⟩]), RowR x.bl 93 [.int .i64 f.u, .int .i64 i.n, .slice (some ⟨x.vb, 0, none⟩) x.n x.n, .int .i64 f.into, .map (some x.mb)], GX.Own 3 Ty.int (some ⟨x.vb, 0, none⟩) x.n f.vars]) := by
 refine enter Tryz.func58 rfl Tryz.ntmps58 rfl fun _ => ?_
 refine GX.wp_R ?_; intros
 refine GX.drawn0  (fun j => !(List.contains [6] j)) [(0, true), (2, true), (3, true), (1, false), (4, true), (5, true), (6, false)] rfl (by kernel_rfl) (by kernel_rfl) GX.sA ?_; intro wd F hW hR
 refine GX.wp_T ?_; intros
 refine GX.gow ?_
 refine (cl (top_spec t p k v l _ hn hb) fun _ => ?_)
 refine GX.wp_T ?_; intros
 refine GX.wp_R ?_; intros
 exact en0 ()
end Go.Proofs.YtomadjefdghliaaGreat
