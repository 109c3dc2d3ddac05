import Derived.Test.YtomadjefdghliaaGreatU13
import Derived.Test.YtomadjefdghliaaGreatU17
namespace Go.Proofs.YtomadjefdghliaaGreat
open Go Go.RR Go.RX Go.GX Go.Api Go.RtM
attribute [local irreducible] wpList Code.wp wpPlan Exit.then Exit.inBlock bodyPost NoPanic Went GX.Post GX.Again GX.Meet GX.RowR GX.Own GX.Owns GX.Box GX.Sl GX.Pt GX.Ag GX.MapR GX.Star GX.Kept GX.Pin wpT GoK AtEnd Both
theorem record30_spec (t : RTg) (p : Nat) (k : MK) (v : MV) (l : List (Option Addr)) (x : FrC) (f : Fr) (i : Ins) (cs : List Value) (j : Nat) (L : Layout) (hj : i.n = j) (hL0 : t.classes[j]? = some L) (c : TabC) (T : Tb) (hT : TInv c T) (hB : T.B.length ≤ 1000000000) (hL : T.L.length ≤ 1000000000) (hr : RegsAt x f) (hn : v.nf = l.length + 1) (hb : l.length ≤ 1000) (hl : f.vars.length = x.n) (va : Vok f i.a) :
  Does Tryz.prog 53 [.pointer (some ⟨p, 0, none⟩), .agg cs.toArray] [Ag tyIns cs i, Sl Ty.int k.aL k.cL (glob t), Sl tyLayout k.aC k.cC t.classes] [RowR p 57 [.slice k.aC t.classes.length k.cC, .slice k.aG t.globals.length k.cG, .slice k.aU t.units.length k.cU, .int .i64 t.main, .slice k.aL (glob t).length k.cL, .pointer (some ⟨k.tp, 0, none⟩), .int .i64 1, .slice v.ai v.ni v.ci, .slice (some ⟨k.gb, 0, none⟩) t.globals.length t.globals.length, .slice v.af v.nf v.cf, .int .i64 v.bound, .map (some k.om), .int .i64 v.en, .int .i64 v.code, .slice v.ao v.no v.co, .int .i64 v.steps, .int .i64 0, .int .i64 0, .int .i64 0, .int .i64 0, .int .i64 v.slack, .int .i64 0], GX.Own 60 Ty.ptr v.af v.cf (l ++ [some ⟨x.bl, 0, none⟩]), RowR x.bl 93 [.int .i64 f.u, .int .i64 f.pc, .slice (some ⟨x.vb, 0, none⟩) x.n x.n, .int .i64 f.into, .map (some x.mb)], GX.Own 3 Ty.int (some ⟨x.vb, 0, none⟩) x.n f.vars, GX.MapR x.mb x.mp, RowR k.tp 86 [.slice c.aR c.R.length c.cR, .slice c.aL c.L.length c.cL, .int .i64 c.gone, .int .i64 c.peak, .int .i64 c.many, .int .i64 c.most], GX.Own 90 tyRegion c.aR c.cR c.R, GX.Own 148 tyThing c.aL c.cL (c.L.map thg), Owns 3 Ty.int (c.L.map (fun x : Th => x.2))] (fun _ : { c' : TabC // TInv c' (T.add (reg (glob t) f i.n) (L.refs.length : Int)) } => .tuple #[]) (fun _ => [])
   (fun s => [RowR p 57 [.slice k.aC t.classes.length k.cC, .slice k.aG t.globals.length k.cG, .slice k.aU t.units.length k.cU, .int .i64 t.main, .slice k.aL (glob t).length k.cL, .pointer (some ⟨k.tp, 0, none⟩), .int .i64 1, .slice (if hasB T.B (reg (glob t) f i.n) = true then v else ({ v with en := 4, code := 0 } : MV)).ai (if hasB T.B (reg (glob t) f i.n) = true then v else ({ v with en := 4, code := 0 } : MV)).ni (if hasB T.B (reg (glob t) f i.n) = true then v else ({ v with en := 4, code := 0 } : MV)).ci, .slice (some ⟨k.gb, 0, none⟩) t.globals.length t.globals.length, .slice (if hasB T.B (reg (glob t) f i.n) = true then v else ({ v with en := 4, code := 0 } : MV)).af (if hasB T.B (reg (glob t) f i.n) = true then v else ({ v with en := 4, code := 0 } : MV)).nf (if hasB T.B (reg (glob t) f i.n) = true then v else ({ v with en := 4, code := 0 } : MV)).cf, .int .i64 (if hasB T.B (reg (glob t) f i.n) = true then v else ({ v with en := 4, code := 0 } : MV)).bound, .map (some k.om), .int .i64 (if hasB T.B (reg (glob t) f i.n) = true then v else ({ v with en := 4, code := 0 } : MV)).en, .int .i64 (if hasB T.B (reg (glob t) f i.n) = true then v else ({ v with en := 4, code := 0 } : MV)).code, .slice (if hasB T.B (reg (glob t) f i.n) = true then v else ({ v with en := 4, code := 0 } : MV)).ao (if hasB T.B (reg (glob t) f i.n) = true then v else ({ v with en := 4, code := 0 } : MV)).no (if hasB T.B (reg (glob t) f i.n) = true then v else ({ v with en := 4, code := 0 } : MV)).co, .int .i64 (if hasB T.B (reg (glob t) f i.n) = true then v else ({ v with en := 4, code := 0 } : MV)).steps, .int .i64 0, .int .i64 0, .int .i64 0, .int .i64 0, .int .i64 (if hasB T.B (reg (glob t) f i.n) = true then v else ({ v with en := 4, code := 0 } : MV)).slack, .int .i64 0], GX.Own 60 Ty.ptr (if hasB T.B (reg (glob t) f i.n) = true then v else ({ v with en := 4, code := 0 } : MV)).af (if hasB T.B (reg (glob t) f i.n) = true then v else ({ v with en := 4, code := 0 } : MV)).cf (l ++ [some ⟨x.bl, 0, none⟩]), RowR x.bl 93 [.int .i64 f.u, .int .i64 f.pc, .slice (some ⟨x.vb, 0, none⟩) x.n x.n, .int .i64 f.into, .map (some x.mb)], GX.Own 3 Ty.int (some ⟨x.vb, 0, none⟩) x.n (if hasB T.B (reg (glob t) f i.n) = true then setv f.vars i.a ((T.L.length + 1 : Nat) : Int) else f.vars), GX.MapR x.mb x.mp, RowR k.tp 86 [.slice s.1.aR s.1.R.length s.1.cR, .slice s.1.aL s.1.L.length s.1.cL, .int .i64 s.1.gone, .int .i64 s.1.peak, .int .i64 s.1.many, .int .i64 s.1.most], GX.Own 90 tyRegion s.1.aR s.1.cR s.1.R, GX.Own 148 tyThing s.1.aL s.1.cL (s.1.L.map thg), Owns 3 Ty.int (s.1.L.map (fun x : Th => x.2))]) := by
 refine enter Tryz.func53 rfl Tryz.ntmps53 rfl fun _ => ?_
 refine GX.wp_R ?_; intros
 refine GX.drawn1 (RowR p 57 [.slice k.aC t.classes.length k.cC, .slice k.aG t.globals.length k.cG, .slice k.aU t.units.length k.cU, .int .i64 t.main, .slice k.aL (glob t).length k.cL, .pointer (some ⟨k.tp, 0, none⟩), .int .i64 1, .slice v.ai v.ni v.ci, .slice (some ⟨k.gb, 0, none⟩) t.globals.length t.globals.length, .slice v.af v.nf v.cf, .int .i64 v.bound, .map (some k.om), .int .i64 v.en, .int .i64 v.code, .slice v.ao v.no v.co, .int .i64 v.steps, .int .i64 0, .int .i64 0, .int .i64 0, .int .i64 0, .int .i64 v.slack, .int .i64 0]) (fun j => !(List.contains [13] j)) [(0, true), (1, true), (2, true), (3, true), (4, true), (5, true), (6, true), (7, true), (8, true), (9, true), (10, true), (11, true), (12, true), (13, false)] rfl (by kernel_rfl) (by kernel_rfl) GX.sA ?_; intro wd F hW hR
 refine GX.wp_T ?_; intros
 refine GX.unpin (RowR p 57 _) ?_
 refine GX.gow ?_
 refine (cl (lies_spec t p k v l x f i _ (L.refs.length : Int) c T hT hB hL hr hn hb hl va) fun s => ?_)
 refine GX.wp_T ?_; intros
 refine GX.wp_R ?_; intros
 exact en0 s
theorem array30_spec (t : RTg) (p : Nat) (k : MK) (v : MV) (l : List (Option Addr)) (x : FrC) (f : Fr) (i : Ins) (cs : List Value) (c : TabC) (T : Tb) (hT : TInv c T) (hB : T.B.length ≤ 1000000000) (hL : T.L.length ≤ 1000000000) (hr : RegsAt x f) (hn : v.nf = l.length + 1) (hb : l.length ≤ 1000) (hl : f.vars.length = x.n) (va : Vok f i.a) (vb : Vok f i.b) (h1 : 0 ≤ lkv f.vars i.b ∧ lkv f.vars i.b ≤ 50) :
  Does Tryz.prog 54 [.pointer (some ⟨p, 0, none⟩), .agg cs.toArray] [Ag tyIns cs i, Sl Ty.int k.aL k.cL (glob t)] [RowR p 57 [.slice k.aC t.classes.length k.cC, .slice k.aG t.globals.length k.cG, .slice k.aU t.units.length k.cU, .int .i64 t.main, .slice k.aL (glob t).length k.cL, .pointer (some ⟨k.tp, 0, none⟩), .int .i64 1, .slice v.ai v.ni v.ci, .slice (some ⟨k.gb, 0, none⟩) t.globals.length t.globals.length, .slice v.af v.nf v.cf, .int .i64 v.bound, .map (some k.om), .int .i64 v.en, .int .i64 v.code, .slice v.ao v.no v.co, .int .i64 v.steps, .int .i64 0, .int .i64 0, .int .i64 0, .int .i64 0, .int .i64 v.slack, .int .i64 0], GX.Own 60 Ty.ptr v.af v.cf (l ++ [some ⟨x.bl, 0, none⟩]), RowR x.bl 93 [.int .i64 f.u, .int .i64 f.pc, .slice (some ⟨x.vb, 0, none⟩) x.n x.n, .int .i64 f.into, .map (some x.mb)], GX.Own 3 Ty.int (some ⟨x.vb, 0, none⟩) x.n f.vars, GX.MapR x.mb x.mp, RowR k.tp 86 [.slice c.aR c.R.length c.cR, .slice c.aL c.L.length c.cL, .int .i64 c.gone, .int .i64 c.peak, .int .i64 c.many, .int .i64 c.most], GX.Own 90 tyRegion c.aR c.cR c.R, GX.Own 148 tyThing c.aL c.cL (c.L.map thg), Owns 3 Ty.int (c.L.map (fun x : Th => x.2))] (fun _ : { c' : TabC // TInv c' (T.add (reg (glob t) f i.n) (lkv f.vars i.b)) } => .tuple #[]) (fun _ => [])
   (fun s => [RowR p 57 [.slice k.aC t.classes.length k.cC, .slice k.aG t.globals.length k.cG, .slice k.aU t.units.length k.cU, .int .i64 t.main, .slice k.aL (glob t).length k.cL, .pointer (some ⟨k.tp, 0, none⟩), .int .i64 1, .slice (if hasB T.B (reg (glob t) f i.n) = true then v else ({ v with en := 4, code := 0 } : MV)).ai (if hasB T.B (reg (glob t) f i.n) = true then v else ({ v with en := 4, code := 0 } : MV)).ni (if hasB T.B (reg (glob t) f i.n) = true then v else ({ v with en := 4, code := 0 } : MV)).ci, .slice (some ⟨k.gb, 0, none⟩) t.globals.length t.globals.length, .slice (if hasB T.B (reg (glob t) f i.n) = true then v else ({ v with en := 4, code := 0 } : MV)).af (if hasB T.B (reg (glob t) f i.n) = true then v else ({ v with en := 4, code := 0 } : MV)).nf (if hasB T.B (reg (glob t) f i.n) = true then v else ({ v with en := 4, code := 0 } : MV)).cf, .int .i64 (if hasB T.B (reg (glob t) f i.n) = true then v else ({ v with en := 4, code := 0 } : MV)).bound, .map (some k.om), .int .i64 (if hasB T.B (reg (glob t) f i.n) = true then v else ({ v with en := 4, code := 0 } : MV)).en, .int .i64 (if hasB T.B (reg (glob t) f i.n) = true then v else ({ v with en := 4, code := 0 } : MV)).code, .slice (if hasB T.B (reg (glob t) f i.n) = true then v else ({ v with en := 4, code := 0 } : MV)).ao (if hasB T.B (reg (glob t) f i.n) = true then v else ({ v with en := 4, code := 0 } : MV)).no (if hasB T.B (reg (glob t) f i.n) = true then v else ({ v with en := 4, code := 0 } : MV)).co, .int .i64 (if hasB T.B (reg (glob t) f i.n) = true then v else ({ v with en := 4, code := 0 } : MV)).steps, .int .i64 0, .int .i64 0, .int .i64 0, .int .i64 0, .int .i64 (if hasB T.B (reg (glob t) f i.n) = true then v else ({ v with en := 4, code := 0 } : MV)).slack, .int .i64 0], GX.Own 60 Ty.ptr (if hasB T.B (reg (glob t) f i.n) = true then v else ({ v with en := 4, code := 0 } : MV)).af (if hasB T.B (reg (glob t) f i.n) = true then v else ({ v with en := 4, code := 0 } : MV)).cf (l ++ [some ⟨x.bl, 0, none⟩]), RowR x.bl 93 [.int .i64 f.u, .int .i64 f.pc, .slice (some ⟨x.vb, 0, none⟩) x.n x.n, .int .i64 f.into, .map (some x.mb)], GX.Own 3 Ty.int (some ⟨x.vb, 0, none⟩) x.n (if hasB T.B (reg (glob t) f i.n) = true then setv f.vars i.a ((T.L.length + 1 : Nat) : Int) else f.vars), GX.MapR x.mb x.mp, RowR k.tp 86 [.slice s.1.aR s.1.R.length s.1.cR, .slice s.1.aL s.1.L.length s.1.cL, .int .i64 s.1.gone, .int .i64 s.1.peak, .int .i64 s.1.many, .int .i64 s.1.most], GX.Own 90 tyRegion s.1.aR s.1.cR s.1.R, GX.Own 148 tyThing s.1.aL s.1.cL (s.1.L.map thg), Owns 3 Ty.int (s.1.L.map (fun x : Th => x.2))]) := by
 refine enter Tryz.func54 rfl Tryz.ntmps54 rfl fun _ => ?_
 refine GX.wp_R ?_; intros
 refine GX.o (cl (vI_spec t p k v l x f i.b hn hb hl vb) fun _ => ?_)
 refine GX.wp_R ?_; intros
 refine GX.o (cl (lies_spec t p k v l x f i _ (lkv f.vars i.b) c T hT hB hL hr hn hb hl va) fun s => ?_)
 refine GX.wp_R ?_; intros
 exact en0 s
theorem array_no (t : RTg) (p : Nat) (k : MK) (v : MV) (l : List (Option Addr)) (x : FrC) (f : Fr) (i : Ins) (cs : List Value) (hn : v.nf = l.length + 1) (hb : l.length ≤ 1000) (hl : f.vars.length = x.n) (vb : Vok f i.b) (h1 : lkv f.vars i.b < 0 ∨ 50 < lkv f.vars i.b) :
  Does Tryz.prog 54 [.pointer (some ⟨p, 0, none⟩), .agg cs.toArray] [Ag tyIns cs i] [RowR p 57 [.slice k.aC t.classes.length k.cC, .slice k.aG t.globals.length k.cG, .slice k.aU t.units.length k.cU, .int .i64 t.main, .slice k.aL (glob t).length k.cL, .pointer (some ⟨k.tp, 0, none⟩), .int .i64 1, .slice v.ai v.ni v.ci, .slice (some ⟨k.gb, 0, none⟩) t.globals.length t.globals.length, .slice v.af v.nf v.cf, .int .i64 v.bound, .map (some k.om), .int .i64 v.en, .int .i64 v.code, .slice v.ao v.no v.co, .int .i64 v.steps, .int .i64 0, .int .i64 0, .int .i64 0, .int .i64 0, .int .i64 v.slack, .int .i64 0], GX.Own 60 Ty.ptr v.af v.cf (l ++ [some ⟨x.bl, 0, none⟩]), RowR x.bl 93 [.int .i64 f.u, .int .i64 f.pc, .slice (some ⟨x.vb, 0, none⟩) x.n x.n, .int .i64 f.into, .map (some x.mb)], GX.Own 3 Ty.int (some ⟨x.vb, 0, none⟩) x.n f.vars] (fun _ : Unit => .tuple #[]) (fun _ => [])
   (fun _ => [RowR p 57 [.slice k.aC t.classes.length k.cC, .slice k.aG t.globals.length k.cG, .slice k.aU t.units.length k.cU, .int .i64 t.main, .slice k.aL (glob t).length k.cL, .pointer (some ⟨k.tp, 0, none⟩), .int .i64 1, .slice (trapV v 4).ai (trapV v 4).ni (trapV v 4).ci, .slice (some ⟨k.gb, 0, none⟩) t.globals.length t.globals.length, .slice (trapV v 4).af (trapV v 4).nf (trapV v 4).cf, .int .i64 (trapV v 4).bound, .map (some k.om), .int .i64 (trapV v 4).en, .int .i64 (trapV v 4).code, .slice (trapV v 4).ao (trapV v 4).no (trapV v 4).co, .int .i64 (trapV v 4).steps, .int .i64 0, .int .i64 0, .int .i64 0, .int .i64 0, .int .i64 (trapV v 4).slack, .int .i64 0], GX.Own 60 Ty.ptr v.af v.cf (l ++ [some ⟨x.bl, 0, none⟩]), RowR x.bl 93 [.int .i64 f.u, .int .i64 f.pc, .slice (some ⟨x.vb, 0, none⟩) x.n x.n, .int .i64 f.into, .map (some x.mb)], GX.Own 3 Ty.int (some ⟨x.vb, 0, none⟩) x.n f.vars]) := by
 refine enter Tryz.func54 rfl Tryz.ntmps54 rfl fun _ => ?_
 obtain h2 | h2 := h1
 ·refine GX.wp_R ?_; intros
  refine GX.o (cl (vI_spec t p k v l x f i.b hn hb hl vb) fun _ => ?_)
  refine GX.wp_R ?_; intros
  refine GX.o (cl (trap_spec t p k v 4) fun _ => ?_)
  refine GX.wp_R ?_; intros
  exact rt0 ()
 ·have h3 : ¬ lkv f.vars i.b < 0 := by omega
  refine GX.wp_R ?_; intros
  refine GX.o (cl (vI_spec t p k v l x f i.b hn hb hl vb) fun _ => ?_)
  refine GX.wp_R ?_; intros
  refine GX.o (cl (trap_spec t p k v 4) fun _ => ?_)
  refine GX.wp_R ?_; intros
  exact rt0 ()
theorem regsAt_upd {x : FrC} {f : Fr} {mp : Int → Option Value} {m : Int → Int} (h : RegsAt { x with mp := mp } { f with regs := m }) (c r : Int) : RegsAt { x with mp := RX.upd mp c (.int .i64 r) } { f with regs := updI m c r } := fun c' => by
 show (RX.upd mp c (.int .i64 r) c').getD (.int .i64 0) = .int .i64 (updI m c r c')
 unfold RX.upd updI
 split
 ·rfl
 ·exact h c'
theorem crT_drop {l : List Int} {j : Nat} {c : Int} (h : l[j]? = some c) (T : Tb) (m : Int → Int) : crT (l.drop j) T m = if m c ≠ 0 then (T, m, false) else crT (l.drop (j + 1)) T.make (updI m c ((T.B.length + 1 : Nat) : Int)) := by
 rw [List.drop_eq_getElem_cons (List.getElem?_eq_some_iff.1 h).1, (List.getElem?_eq_some_iff.1 h).2]
 rfl
theorem rmT_drop {l : List Int} {j : Nat} {c : Int} (h : l[j]? = some c) (T : Tb) (m : Int → Int) : rmT (l.drop j) T m = if m c = 0 then (T, m, false) else rmT (l.drop (j + 1)) (T.rem (m c)) (updI m c 0) := by
 rw [List.drop_eq_getElem_cons (List.getElem?_eq_some_iff.1 h).1, (List.getElem?_eq_some_iff.1 h).2]
 rfl
abbrev RgS (x : FrC) (f : Fr) (r : Tb × (Int → Int) × Bool) : Type := { q : (Int → Option Value) × TabC // TInv q.2 r.1 ∧ RegsAt { x with mp := q.1 } { f with regs := r.2.1 } }
structure CrSt where
 j : Nat
 m : Int → Int
 mp : Int → Option Value
 c : TabC
 T : Tb
theorem create_spec (t : RTg) (p : Nat) (k : MK) (v : MV) (l : List (Option Addr)) (x : FrC) (f : Fr) (i : Ins) (cs : List Value) (c : TabC) (T : Tb) (hT : TInv c T) (hB : T.B.length + i.args.length ≤ 1000000000) (hr : RegsAt x f) (hn : v.nf = l.length + 1) (hb : l.length ≤ 1000) (hl : f.vars.length = x.n) :
  Does Tryz.prog 63 [.pointer (some ⟨p, 0, none⟩), .agg cs.toArray] [Ag tyIns cs i] [RowR p 57 [.slice k.aC t.classes.length k.cC, .slice k.aG t.globals.length k.cG, .slice k.aU t.units.length k.cU, .int .i64 t.main, .slice k.aL (glob t).length k.cL, .pointer (some ⟨k.tp, 0, none⟩), .int .i64 1, .slice v.ai v.ni v.ci, .slice (some ⟨k.gb, 0, none⟩) t.globals.length t.globals.length, .slice v.af v.nf v.cf, .int .i64 v.bound, .map (some k.om), .int .i64 v.en, .int .i64 v.code, .slice v.ao v.no v.co, .int .i64 v.steps, .int .i64 0, .int .i64 0, .int .i64 0, .int .i64 0, .int .i64 v.slack, .int .i64 0], GX.Own 60 Ty.ptr v.af v.cf (l ++ [some ⟨x.bl, 0, none⟩]), RowR x.bl 93 [.int .i64 f.u, .int .i64 f.pc, .slice (some ⟨x.vb, 0, none⟩) x.n x.n, .int .i64 f.into, .map (some x.mb)], GX.MapR x.mb x.mp, RowR k.tp 86 [.slice c.aR c.R.length c.cR, .slice c.aL c.L.length c.cL, .int .i64 c.gone, .int .i64 c.peak, .int .i64 c.many, .int .i64 c.most], GX.Own 90 tyRegion c.aR c.cR c.R, GX.Own 148 tyThing c.aL c.cL (c.L.map thg), Owns 3 Ty.int (c.L.map (fun x : Th => x.2))] (fun _ : RgS x f (crT i.args T f.regs) => .tuple #[]) (fun _ => [])
   (fun s => [RowR p 57 [.slice k.aC t.classes.length k.cC, .slice k.aG t.globals.length k.cG, .slice k.aU t.units.length k.cU, .int .i64 t.main, .slice k.aL (glob t).length k.cL, .pointer (some ⟨k.tp, 0, none⟩), .int .i64 1, .slice (if (crT i.args T f.regs).2.2 = true then v else ({ v with en := 4, code := 0 } : MV)).ai (if (crT i.args T f.regs).2.2 = true then v else ({ v with en := 4, code := 0 } : MV)).ni (if (crT i.args T f.regs).2.2 = true then v else ({ v with en := 4, code := 0 } : MV)).ci, .slice (some ⟨k.gb, 0, none⟩) t.globals.length t.globals.length, .slice (if (crT i.args T f.regs).2.2 = true then v else ({ v with en := 4, code := 0 } : MV)).af (if (crT i.args T f.regs).2.2 = true then v else ({ v with en := 4, code := 0 } : MV)).nf (if (crT i.args T f.regs).2.2 = true then v else ({ v with en := 4, code := 0 } : MV)).cf, .int .i64 (if (crT i.args T f.regs).2.2 = true then v else ({ v with en := 4, code := 0 } : MV)).bound, .map (some k.om), .int .i64 (if (crT i.args T f.regs).2.2 = true then v else ({ v with en := 4, code := 0 } : MV)).en, .int .i64 (if (crT i.args T f.regs).2.2 = true then v else ({ v with en := 4, code := 0 } : MV)).code, .slice (if (crT i.args T f.regs).2.2 = true then v else ({ v with en := 4, code := 0 } : MV)).ao (if (crT i.args T f.regs).2.2 = true then v else ({ v with en := 4, code := 0 } : MV)).no (if (crT i.args T f.regs).2.2 = true then v else ({ v with en := 4, code := 0 } : MV)).co, .int .i64 (if (crT i.args T f.regs).2.2 = true then v else ({ v with en := 4, code := 0 } : MV)).steps, .int .i64 0, .int .i64 0, .int .i64 0, .int .i64 0, .int .i64 (if (crT i.args T f.regs).2.2 = true then v else ({ v with en := 4, code := 0 } : MV)).slack, .int .i64 0], GX.Own 60 Ty.ptr (if (crT i.args T f.regs).2.2 = true then v else ({ v with en := 4, code := 0 } : MV)).af (if (crT i.args T f.regs).2.2 = true then v else ({ v with en := 4, code := 0 } : MV)).cf (l ++ [some ⟨x.bl, 0, none⟩]), RowR x.bl 93 [.int .i64 f.u, .int .i64 f.pc, .slice (some ⟨x.vb, 0, none⟩) x.n x.n, .int .i64 f.into, .map (some x.mb)], GX.MapR x.mb s.1.1, RowR k.tp 86 [.slice s.1.2.aR s.1.2.R.length s.1.2.cR, .slice s.1.2.aL s.1.2.L.length s.1.2.cL, .int .i64 s.1.2.gone, .int .i64 s.1.2.peak, .int .i64 s.1.2.many, .int .i64 s.1.2.most], GX.Own 90 tyRegion s.1.2.aR s.1.2.cR s.1.2.R, GX.Own 148 tyThing s.1.2.aL s.1.2.cL (s.1.2.L.map thg), Owns 3 Ty.int (s.1.2.L.map (fun x : Th => x.2))]) := by
 refine enter Tryz.func63 rfl Tryz.ntmps63 rfl fun _ => ?_
 refine GX.wp_R ?_; intros
 refine GX.o (cl (top_spec t p k v l _ hn hb) fun _ => ?_)
 refine GX.wp_R ?_; intros
 refine GX.nmS 10 ?_; rintro aA cA rfl rfl
 refine sln aA fun _ _ _ => ?_
 refine GX.loop (σ := CrSt) (fun s => [(0, .pointer (some ⟨p, 0, none⟩)), (4, .pointer (some ⟨x.bl, 0, none⟩)), (10, .slice aA i.args.length cA), (11, .int .i64 (i.args.length : Int)), (12, .int .i64 (s.j : Int))]) (fun _ => []) (fun s => [RowR p 57 [.slice k.aC t.classes.length k.cC, .slice k.aG t.globals.length k.cG, .slice k.aU t.units.length k.cU, .int .i64 t.main, .slice k.aL (glob t).length k.cL, .pointer (some ⟨k.tp, 0, none⟩), .int .i64 1, .slice v.ai v.ni v.ci, .slice (some ⟨k.gb, 0, none⟩) t.globals.length t.globals.length, .slice v.af v.nf v.cf, .int .i64 v.bound, .map (some k.om), .int .i64 v.en, .int .i64 v.code, .slice v.ao v.no v.co, .int .i64 v.steps, .int .i64 0, .int .i64 0, .int .i64 0, .int .i64 0, .int .i64 v.slack, .int .i64 0], GX.Own 60 Ty.ptr v.af v.cf (l ++ [some ⟨x.bl, 0, none⟩]), RowR x.bl 93 [.int .i64 f.u, .int .i64 f.pc, .slice (some ⟨x.vb, 0, none⟩) x.n x.n, .int .i64 f.into, .map (some x.mb)], GX.MapR x.mb s.mp, RowR k.tp 86 [.slice s.c.aR s.c.R.length s.c.cR, .slice s.c.aL s.c.L.length s.c.cL, .int .i64 s.c.gone, .int .i64 s.c.peak, .int .i64 s.c.many, .int .i64 s.c.most], GX.Own 90 tyRegion s.c.aR s.c.cR s.c.R, GX.Own 148 tyThing s.c.aL s.c.cL (s.c.L.map thg), Owns 3 Ty.int (s.c.L.map (fun x : Th => x.2))])
  (fun s => s.j ≤ i.args.length ∧ TInv s.c s.T ∧ RegsAt { x with mp := s.mp } { f with regs := s.m } ∧ s.T.B.length = T.B.length + s.j ∧ crT (i.args.drop s.j) s.T s.m = crT i.args T f.regs) (fun s => i.args.length - s.j) ⟨0, f.regs, x.mp, c, T⟩ ⟨rfl, rfl, rfl, rfl, rfl, trivial⟩ ⟨by dsimp only; omega, hT, hr, by simp, by simp⟩ (fun s hs => ?_)
 obtain ⟨j, m, mp, c1, T1⟩ := s
 obtain ⟨hj, hT1, hr1, hB1, he⟩ := hs
 dsimp only at hj hT1 hr1 hB1 he ⊢
 by_cases hlt : j < i.args.length
 ·obtain ⟨d, hd⟩ := GX.get_lt hlt
  have hlk : (mp d).getD (.int .i64 0) = .int .i64 (m d) := hr1 d
  rw [crT_drop hd] at he
  by_cases hz : m d ≠ 0
  ·rw [if_pos hz] at he
   refine GX.wp_R ?_; intros
   refine GX.o (cl (ends_spec t p k v 4 0) fun _ => ?_)
   refine GX.wp_R ?_; intros
   rw [← he]
   exact rt0 ⟨(mp, c1), hT1, hr1⟩
  ·rw [if_neg hz] at he
   have hz' : m d = 0 := by simpa using hz
   refine GX.wp_R ?_; intros
   refine GX.drawn2 (RowR p 57 _) (RowR x.bl 93 _) (fun j => !(List.contains [10] j)) [(0, true), (1, true), (2, true), (3, true), (4, true), (5, true), (6, true), (7, true), (8, true), (9, false), (10, false)] rfl (by kernel_rfl) (by kernel_rfl) GX.sA ?_; intro wd F hW hR
   refine GX.wp_T ?_; intros
   refine GX.unpin (RowR p 57 _) ?_
   refine GX.unpin (RowR x.bl 93 _) ?_
   refine GX.gow ?_
   refine (cl (tMake_spec k.tp hT1 (by omega)) fun s2 => ?_)
   obtain ⟨c2, hT2⟩ := s2
   dsimp only
   refine GX.wp_T ?_; intros
   refine GX.wp_R ?_; intros
   refine again ⟨j + 1, _, RX.upd mp d (.int .i64 ((T1.B.length + 1 : Nat) : Int)), c2, T1.make⟩ ⟨rfl, rfl, rfl, rfl, rfl, trivial⟩ ⟨by dsimp only; omega, hT2, regsAt_upd hr1 d _, ?_, he⟩ (by dsimp only; omega)
   show (T1.B ++ [true]).length = T.B.length + (j + 1)
   rw [List.length_append, List.length_singleton]; omega
 ·obtain rfl : j = i.args.length := by omega
  rw [List.drop_length] at he
  refine GX.wp_R ?_; intros
  rw [← he]
  exact en0 ⟨(mp, c1), hT1, hr1⟩
theorem remove_spec30 (t : RTg) (p : Nat) (k : MK) (v : MV) (l : List (Option Addr)) (x : FrC) (f : Fr) (i : Ins) (cs : List Value) (c : TabC) (T : Tb) (hT : TInv c T) (hB : T.B.length ≤ 1000000000) (hL : T.L.length ≤ 1000000000) (hr : RegsAt x f) (hn : v.nf = l.length + 1) (hb : l.length ≤ 1000) (hl : f.vars.length = x.n) :
  Does Tryz.prog 64 [.pointer (some ⟨p, 0, none⟩), .agg cs.toArray] [Ag tyIns cs i] [RowR p 57 [.slice k.aC t.classes.length k.cC, .slice k.aG t.globals.length k.cG, .slice k.aU t.units.length k.cU, .int .i64 t.main, .slice k.aL (glob t).length k.cL, .pointer (some ⟨k.tp, 0, none⟩), .int .i64 1, .slice v.ai v.ni v.ci, .slice (some ⟨k.gb, 0, none⟩) t.globals.length t.globals.length, .slice v.af v.nf v.cf, .int .i64 v.bound, .map (some k.om), .int .i64 v.en, .int .i64 v.code, .slice v.ao v.no v.co, .int .i64 v.steps, .int .i64 0, .int .i64 0, .int .i64 0, .int .i64 0, .int .i64 v.slack, .int .i64 0], GX.Own 60 Ty.ptr v.af v.cf (l ++ [some ⟨x.bl, 0, none⟩]), RowR x.bl 93 [.int .i64 f.u, .int .i64 f.pc, .slice (some ⟨x.vb, 0, none⟩) x.n x.n, .int .i64 f.into, .map (some x.mb)], GX.MapR x.mb x.mp, RowR k.tp 86 [.slice c.aR c.R.length c.cR, .slice c.aL c.L.length c.cL, .int .i64 c.gone, .int .i64 c.peak, .int .i64 c.many, .int .i64 c.most], GX.Own 90 tyRegion c.aR c.cR c.R, GX.Own 148 tyThing c.aL c.cL (c.L.map thg), Owns 3 Ty.int (c.L.map (fun x : Th => x.2))] (fun _ : RgS x f (rmT i.args T f.regs) => .tuple #[]) (fun _ => [])
   (fun s => [RowR p 57 [.slice k.aC t.classes.length k.cC, .slice k.aG t.globals.length k.cG, .slice k.aU t.units.length k.cU, .int .i64 t.main, .slice k.aL (glob t).length k.cL, .pointer (some ⟨k.tp, 0, none⟩), .int .i64 1, .slice (if (rmT i.args T f.regs).2.2 = true then v else ({ v with en := 4, code := 0 } : MV)).ai (if (rmT i.args T f.regs).2.2 = true then v else ({ v with en := 4, code := 0 } : MV)).ni (if (rmT i.args T f.regs).2.2 = true then v else ({ v with en := 4, code := 0 } : MV)).ci, .slice (some ⟨k.gb, 0, none⟩) t.globals.length t.globals.length, .slice (if (rmT i.args T f.regs).2.2 = true then v else ({ v with en := 4, code := 0 } : MV)).af (if (rmT i.args T f.regs).2.2 = true then v else ({ v with en := 4, code := 0 } : MV)).nf (if (rmT i.args T f.regs).2.2 = true then v else ({ v with en := 4, code := 0 } : MV)).cf, .int .i64 (if (rmT i.args T f.regs).2.2 = true then v else ({ v with en := 4, code := 0 } : MV)).bound, .map (some k.om), .int .i64 (if (rmT i.args T f.regs).2.2 = true then v else ({ v with en := 4, code := 0 } : MV)).en, .int .i64 (if (rmT i.args T f.regs).2.2 = true then v else ({ v with en := 4, code := 0 } : MV)).code, .slice (if (rmT i.args T f.regs).2.2 = true then v else ({ v with en := 4, code := 0 } : MV)).ao (if (rmT i.args T f.regs).2.2 = true then v else ({ v with en := 4, code := 0 } : MV)).no (if (rmT i.args T f.regs).2.2 = true then v else ({ v with en := 4, code := 0 } : MV)).co, .int .i64 (if (rmT i.args T f.regs).2.2 = true then v else ({ v with en := 4, code := 0 } : MV)).steps, .int .i64 0, .int .i64 0, .int .i64 0, .int .i64 0, .int .i64 (if (rmT i.args T f.regs).2.2 = true then v else ({ v with en := 4, code := 0 } : MV)).slack, .int .i64 0], GX.Own 60 Ty.ptr (if (rmT i.args T f.regs).2.2 = true then v else ({ v with en := 4, code := 0 } : MV)).af (if (rmT i.args T f.regs).2.2 = true then v else ({ v with en := 4, code := 0 } : MV)).cf (l ++ [some ⟨x.bl, 0, none⟩]), RowR x.bl 93 [.int .i64 f.u, .int .i64 f.pc, .slice (some ⟨x.vb, 0, none⟩) x.n x.n, .int .i64 f.into, .map (some x.mb)], GX.MapR x.mb s.1.1, RowR k.tp 86 [.slice s.1.2.aR s.1.2.R.length s.1.2.cR, .slice s.1.2.aL s.1.2.L.length s.1.2.cL, .int .i64 s.1.2.gone, .int .i64 s.1.2.peak, .int .i64 s.1.2.many, .int .i64 s.1.2.most], GX.Own 90 tyRegion s.1.2.aR s.1.2.cR s.1.2.R, GX.Own 148 tyThing s.1.2.aL s.1.2.cL (s.1.2.L.map thg), Owns 3 Ty.int (s.1.2.L.map (fun x : Th => x.2))]) := by
 refine enter Tryz.func64 rfl Tryz.ntmps64 rfl fun _ => ?_
 refine GX.wp_R ?_; intros
 refine GX.o (cl (top_spec t p k v l _ hn hb) fun _ => ?_)
 refine GX.wp_R ?_; intros
 refine GX.nmS 10 ?_; rintro aA cA rfl rfl
 refine sln aA fun _ _ _ => ?_
 refine GX.loop (σ := CrSt) (fun s => [(0, .pointer (some ⟨p, 0, none⟩)), (4, .pointer (some ⟨x.bl, 0, none⟩)), (10, .slice aA i.args.length cA), (11, .int .i64 (i.args.length : Int)), (12, .int .i64 (s.j : Int))]) (fun _ => []) (fun s => [RowR p 57 [.slice k.aC t.classes.length k.cC, .slice k.aG t.globals.length k.cG, .slice k.aU t.units.length k.cU, .int .i64 t.main, .slice k.aL (glob t).length k.cL, .pointer (some ⟨k.tp, 0, none⟩), .int .i64 1, .slice v.ai v.ni v.ci, .slice (some ⟨k.gb, 0, none⟩) t.globals.length t.globals.length, .slice v.af v.nf v.cf, .int .i64 v.bound, .map (some k.om), .int .i64 v.en, .int .i64 v.code, .slice v.ao v.no v.co, .int .i64 v.steps, .int .i64 0, .int .i64 0, .int .i64 0, .int .i64 0, .int .i64 v.slack, .int .i64 0], GX.Own 60 Ty.ptr v.af v.cf (l ++ [some ⟨x.bl, 0, none⟩]), RowR x.bl 93 [.int .i64 f.u, .int .i64 f.pc, .slice (some ⟨x.vb, 0, none⟩) x.n x.n, .int .i64 f.into, .map (some x.mb)], GX.MapR x.mb s.mp, RowR k.tp 86 [.slice s.c.aR s.c.R.length s.c.cR, .slice s.c.aL s.c.L.length s.c.cL, .int .i64 s.c.gone, .int .i64 s.c.peak, .int .i64 s.c.many, .int .i64 s.c.most], GX.Own 90 tyRegion s.c.aR s.c.cR s.c.R, GX.Own 148 tyThing s.c.aL s.c.cL (s.c.L.map thg), Owns 3 Ty.int (s.c.L.map (fun x : Th => x.2))])
  (fun s => s.j ≤ i.args.length ∧ TInv s.c s.T ∧ RegsAt { x with mp := s.mp } { f with regs := s.m } ∧ (s.T.B.length = T.B.length ∧ s.T.L = T.L) ∧ rmT (i.args.drop s.j) s.T s.m = rmT i.args T f.regs) (fun s => i.args.length - s.j) ⟨0, f.regs, x.mp, c, T⟩ ⟨rfl, rfl, rfl, rfl, rfl, trivial⟩ ⟨by dsimp only; omega, hT, hr, by simp, by simp⟩ (fun s hs => ?_)
 obtain ⟨j, m, mp, c1, T1⟩ := s
 obtain ⟨hj, hT1, hr1, ⟨hB1, hL1⟩, he⟩ := hs
 dsimp only at hj hT1 hr1 hB1 hL1 he ⊢
 by_cases hlt : j < i.args.length
 ·obtain ⟨d, hd⟩ := GX.get_lt hlt
  have hlk : (mp d).getD (.int .i64 0) = .int .i64 (m d) := hr1 d
  rw [rmT_drop hd] at he
  by_cases hz : m d = 0
  ·rw [if_pos hz] at he
   refine GX.wp_R ?_; intros
   refine GX.o (cl (ends_spec t p k v 4 0) fun _ => ?_)
   refine GX.wp_R ?_; intros
   rw [← he]
   exact rt0 ⟨(mp, c1), hT1, hr1⟩
  ·rw [if_neg hz] at he
   refine GX.wp_R ?_; intros
   refine GX.drawn3 (RowR p 57 _) (RowR x.bl 93 _) (GX.MapR x.mb _) (fun j => !(List.contains [10] j)) [(0, true), (1, true), (2, true), (3, true), (4, true), (5, true), (6, true), (7, true), (8, true), (9, true), (10, false)] rfl (by kernel_rfl) (by kernel_rfl) GX.sA ?_; intro wd F hW hR
   refine GX.wp_T ?_; intros
   refine GX.unpin (RowR p 57 _) ?_
   refine GX.unpin (RowR x.bl 93 _) ?_
   refine GX.unpin (GX.MapR x.mb _) ?_
   refine GX.gow ?_
   refine (cl (tRem_spec k.tp hT1 (m d) (by omega) (by rw [hL1]; exact hL)) fun s2 => ?_)
   obtain ⟨c2, hT2⟩ := s2
   dsimp only
   refine GX.wp_T ?_; intros
   refine GX.wp_R ?_; intros
   refine again ⟨j + 1, _, RX.upd mp d (.int .i64 0), c2, T1.rem (m d)⟩ ⟨rfl, rfl, rfl, rfl, rfl, trivial⟩ ⟨by dsimp only; omega, hT2, regsAt_upd hr1 d _, ?_, he⟩ (by dsimp only; omega)
   dsimp only
   unfold Tb.rem
   split
   ·exact ⟨by rw [List.length_set]; exact hB1, hL1⟩
   ·exact ⟨hB1, hL1⟩
 ·obtain rfl : j = i.args.length := by omega
  rw [List.drop_length] at he
  refine GX.wp_R ?_; intros
  rw [← he]
  exact en0 ⟨(mp, c1), hT1, hr1⟩
end Go.Proofs.YtomadjefdghliaaGreat
namespace Go.GX
open Go Go.RowKit Go.RR Go.RX
def Turn (hp1 hp2 : List Res) : Prop := ∀ b F ps w, St b F ps hp1 w → St b F ps hp2 w
theorem Turn.sel {hp1 hp2 rest : List Res} (h : SelR hp2 hp1 rest) : Turn hp1 hp2 := fun _ _ _ _ s => (s.perm h.perm).less (fun _ h => h) (List.sublist_append_left _ _)
theorem Turn.trans {a b c : List Res} (h1 : Turn a b) (h2 : Turn b c) : Turn a c := fun _ _ _ _ s => h2 _ _ _ _ (h1 _ _ _ _ s)
theorem Turn.starI {l m rest : List Res} : Turn (l ++ (Star m :: rest)) (Star (l ++ m) :: rest) := by
 intro b F ps w s
 obtain ⟨p1, p2, p3⟩ := List.pairwise_append.1 s.apart
 obtain ⟨p4, p5⟩ := List.pairwise_cons.1 p2
 obtain ⟨h2, h3⟩ := s.rs (Star m) (by simp)
 have hin : ∀ r ∈ l ++ m, ∀ k, r.on k → feet (l ++ (Star m :: rest)) k := by
  intro r hr k hk
  rcases List.mem_append.1 hr with hr | hr
  ·exact ⟨r, by simp [hr], hk⟩
  ·exact ⟨Star m, by simp, r, hr, hk⟩
 refine ⟨s.upd, s.lt, s.old, s.fs, ?_, ?_, ?_, ?_⟩
 ·intro r hr
  rcases List.mem_cons.1 hr with rfl | hr
  ·refine ⟨fun r hr => ?_, List.pairwise_append.2 ⟨p1, h3, fun r hr q hq => apart_star.1 (p3 r hr _ (by simp)) q hq⟩⟩
   rcases List.mem_append.1 hr with hr | hr
   ·exact s.rs r (by simp [hr])
   ·exact h2 r hr
  ·exact s.rs r (by simp [hr])
 ·intro r hr k hk
  rcases List.mem_cons.1 hr with rfl | hr
  ·obtain ⟨q, hq, hk⟩ := hk
   obtain ⟨r', hr', hk'⟩ := hin q hq k hk
   exact s.apF r' hr' k hk'
  ·exact s.apF r (by simp [hr]) k hk
 ·refine List.pairwise_cons.2 ⟨fun r hr => ?_, p5⟩
  refine (apart_star.2 fun q hq => ?_ : Apart r (Star (l ++ m))).symm
  rcases List.mem_append.1 hq with hq | hq
  ·exact (p3 q hq r (by simp [hr])).symm
  ·exact apart_star.1 (p4 r hr).symm q hq
 ·intro r hr k hk hlt
  rcases List.mem_cons.1 hr with rfl | hr
  ·obtain ⟨q, hq, hk⟩ := hk
   obtain ⟨r', hr', hk'⟩ := hin q hq k hk
   exact s.on r' hr' k hk' hlt
  ·exact s.on r (by simp [hr]) k hk hlt
theorem Does.fitT {P : Program} {f : FuncId} {args : List Value} {ps qs : List Pf} {hp hq rest : List Res} {σ σ' : Type} {val : σ → Value} {ps' : σ → List Pf} {hp' : σ → List Res} {val' : σ' → Value} {qs' : σ' → List Pf} {hq' : σ' → List Res}
  (h : Does P f args ps hp val ps' hp') (g : σ → σ') (hps : AllIn ps qs) (hsel : SelR hp hq rest) (hv : ∀ s, val s = val' (g s)) (h1 : ∀ s, AllIn (qs' (g s)) (ps' s ++ qs)) (h2 : ∀ s, Turn (hp' s ++ rest) (hq' (g s))) : Does P f args qs hq val' qs' hq' := by
 constructor
 intro w F b s
 have s0 : St ⟨w, feet hq, F⟩ F qs hq w := ⟨Upd.refl _ _, s.lt, fun k hk _ => .inl hk, s.fs, s.rs, s.apF, s.apart, fun r hr k hk _ => ⟨r, hr, hk⟩⟩
 have s1 := s0.perm hsel.perm
 refine (h.run w F _ (s1.less hps.sub (List.sublist_append_left _ _))).mono ?_
 rintro e w' ⟨i, rfl, h'⟩
 obtain ⟨F', _, _, _, s'⟩ := s1.act h'
 exact ⟨g i, by rw [hv], F', h2 i _ _ _ _ (s'.less (h1 i).sub (List.Sublist.refl _))⟩
theorem soft_oh {P : Program} {n : Nat} {env : Env} {S : World → Prop} {t et : TypeId} {x y : Operand} {k : IntKind} {ao : Option Addr} {m cap j sz : Nat} [ht : USlice P t et] [hs : USize P et sz] (hx : ev env x = some (.slice ao m cap)) (hy : ev env y = some (.int k (j : Int))) (hj : j ≤ cap) (hao : ∀ a, ao = some a → a.spot = none) : Soft P n env S (.slice t x none (some y) none) (.slice ao j cap) := fun a ha o ho w _ => by
 have hb1 := sliceBound_run (P := P) (k := k) (i := (j : Int)) (y := cap) (c := .sliceAcap) (w := w) ⟨by omega, by omega⟩
 have e0 : (if cap = 0 then ao else ao.map (·.add (0 * sz))) = ao := by
  split
  ·rfl
  ·cases ao with
   | none => rfl
   | some a =>
    have := hao a rfl
    obtain ⟨b, o, sp⟩ := a
    dsimp only at this; subst this
    simp [Addr.add_lit]
 simp [execOp, ho, ha.ev hx, ha.ev hy, Instr.sliceAt, Instr.slice, run_underlying ht.u, Instr.sliceBounds, hb1, hs.s]
 simpa using e0
theorem roh {P : Program} {n : Nat} {env : Env} {b : Base} {ps : List Pf} {hp : List Res} {K : Act → World → Prop} {t et : TypeId} {x y : Operand} {k : IntKind} {d : Nat} {ty : TypeId} {pos : String} {aft : Array Edge} {gd : Option (Nat × Bool)} {psW : List Pf} {hpS : List Res} {wd : World} {F : Nat → Prop} {ao : Option Addr} {m cap j sz : Nat} [USlice P t et] [USize P et sz] (h : G n ((d, .slice ao j cap) :: env) b ps hp K) (hx : ev env x = some (.slice ao m cap) := by exact rfl) (hy : ev env y = some (.int k (j : Int)) := by exact rfl) (hj : j ≤ cap := by omega) (hao : ∀ a, ao = some a → a.spot = none := by intro a ha; cases ha; rfl) (hd : Nat.blt d n = true := by exact rfl) :
  GTR P n env psW hpS wd F b ps hp K ⟨some d, .slice t x none (some y) none, ty, pos, aft, gd⟩ := .v (.of_soft fun _ => soft_oh hx hy hj hao) hd h
theorem insertU {P : Program} {n : Nat} {env : Env} {w : World} {Q : Exit → Act → World → Prop} {K : Act → World → Prop} {ty : TypeId} {pos : String} {aft : Array Edge} {gd : Option (Nat × Bool)} {t k e : TypeId} {x y z : Operand} {b : Nat} {f : Int → Option Value} {i : Int} {v : Value} [ht : UMap P t k e] [hk : UInt P k .i64]
  (hx : ev env x = some (.map (some b))) (hy : ev env y = some (.int .i64 i)) (hz : ev env z = some v) (hm : MapF w b f)
  (h : ∀ w', MapF w' b (RX.upd f i v) → Upd (fun k => k = b) w w' → E n env w' K) : OW P n env w ⟨none, .insert t x y z, ty, pos, aft, gd⟩ K Q := by
 have h1 := RX.mapUpdate (P := P) (n := n) (env := env) (w := w) (Q := Q) (K := K) (ty := ty) (pos := pos) (aft := aft) (gd := gd) (t := t) (k := k) (e := e) hx hy hz hm h
 exact ⟨fun a ha => h1.run a ha⟩
theorem muI {P : Program} {n : Nat} {env : Env} {b : Base} {ps : List Pf} {hp : List Res} {Q : Exit → Act → World → Prop} {K : Act → World → Prop} {ty : TypeId} {pos : String} {aft : Array Edge} {gd : Option (Nat × Bool)} {t k e : TypeId} {x y z : Operand} {bl : Nat} {f : Int → Option Value} {i : Int} {v : Value} {rest : List Res} [UMap P t k e] [UInt P k .i64] (h : G n env b ps (MapR bl (RX.upd f i v) :: rest) K)
  (hx : ev env x = some (.map (some bl)) := by exact rfl) (hy : ev env y = some (.int .i64 i) := by exact rfl) (hz : ev env z = some v := by exact rfl) (hf : FMap bl hp f rest := by exact inferInstance) : GO P n env b ps hp ⟨none, .insert t x y z, ty, pos, aft, gd⟩ K Q := by
 refine Acts.use (hp1 := [MapR bl f]) (ι := Unit) (val := fun _ => undef) (pf := fun _ => []) (hr := fun _ => [MapR bl (RX.upd f i v)]) ?_ hf.p (fun _ => h)
 intro F w K Q b s hk
 have hm : MapF w bl f := s.rs _ (by simp : MapR bl f ∈ [MapR bl f])
 exact insertU hx hy hz hm (fun w' hm' hu => hk () w' (mkOk1 s hu hm' (fun k hk _ => hk)))
theorem Turn.perm {hp1 hp2 : List Res} (h : hp1.Perm hp2) : Turn hp1 hp2 := fun _ _ _ _ s => s.perm h
theorem Turn.starO {l m rest : List Res} : Turn (Star (l ++ m) :: rest) (l ++ (Star m :: rest)) := by
 intro b F ps w s
 obtain ⟨h2, h3⟩ := s.rs (Star (l ++ m)) (by simp)
 obtain ⟨p1, p2, p3⟩ := List.pairwise_append.1 h3
 obtain ⟨p4, p5⟩ := List.pairwise_cons.1 s.apart
 have hin : ∀ r ∈ l ++ (Star m :: rest), ∀ k, r.on k → feet (Star (l ++ m) :: rest) k := by
  intro r hr k hk
  rcases List.mem_append.1 hr with hr | hr
  ·exact ⟨Star (l ++ m), by simp, r, by simp [hr], hk⟩
  ·rcases List.mem_cons.1 hr with rfl | hr
   ·obtain ⟨q, hq, hk⟩ := hk
    exact ⟨Star (l ++ m), by simp, q, by simp [hq], hk⟩
   ·exact ⟨r, by simp [hr], hk⟩
 refine ⟨s.upd, s.lt, s.old, s.fs, ?_, ?_, ?_, ?_⟩
 ·intro r hr
  rcases List.mem_append.1 hr with hr | hr
  ·exact h2 r (by simp [hr])
  ·rcases List.mem_cons.1 hr with rfl | hr
   ·exact ⟨fun q hq => h2 q (by simp [hq]), p2⟩
   ·exact s.rs r (by simp [hr])
 ·intro r hr k hk
  obtain ⟨q, hq, hk'⟩ := hin r hr k hk
  exact s.apF q hq k hk'
 ·refine List.pairwise_append.2 ⟨p1, List.pairwise_cons.2 ⟨fun r hr => ?_, p5⟩, fun r hr q hq => ?_⟩
  ·refine (apart_star.2 fun q hq => ?_ : Apart r (Star m)).symm
   exact apart_star.1 (p4 r hr).symm q (by simp [hq])
  ·rcases List.mem_cons.1 hq with rfl | hq
   ·exact apart_star.2 fun q hq => p3 r hr q hq
   ·exact (apart_star.1 (p4 q hq).symm r (by simp [hr])).symm
 ·intro r hr k hk hlt
  obtain ⟨q, hq, hk'⟩ := hin r hr k hk
  exact s.on q hq k hk' hlt
theorem Does.fitU {P : Program} {f : FuncId} {args : List Value} {ps qs : List Pf} {hp hq rest : List Res} {σ σ' : Type} {val : σ → Value} {ps' : σ → List Pf} {hp' : σ → List Res} {val' : σ' → Value} {qs' : σ' → List Pf} {hq' : σ' → List Res}
  (h : Does P f args ps hp val ps' hp') (g : σ → σ') (hps : AllIn ps qs) (hT : Turn hq (hp ++ rest)) (hv : ∀ s, val s = val' (g s)) (h1 : ∀ s, AllIn (qs' (g s)) (ps' s ++ qs)) (h2 : ∀ s, Turn (hp' s ++ rest) (hq' (g s))) : Does P f args qs hq val' qs' hq' := by
 constructor
 intro w F b s
 have s0 : St ⟨w, feet hq, F⟩ F qs hq w := ⟨Upd.refl _ _, s.lt, fun k hk _ => .inl hk, s.fs, s.rs, s.apF, s.apart, fun r hr k hk _ => ⟨r, hr, hk⟩⟩
 have s1 := hT _ _ _ _ s0
 refine (h.run w F _ (s1.less hps.sub (List.sublist_append_left _ _))).mono ?_
 rintro e w' ⟨i, rfl, h'⟩
 obtain ⟨F', _, _, _, s'⟩ := s1.act h'
 exact ⟨g i, by rw [hv], F', h2 i _ _ _ _ (s'.less (h1 i).sub (List.Sublist.refl _))⟩
theorem ld_rowO {P : Program} {n : Nat} {env : Env} {ps : List Pf} {hp : List Res} {bl o sz : Nat} {te t : TypeId} {x : Operand} {vs ws : List Value} {rest : List Res} [UAgg P t] [USize P t sz] [hf : FRow bl hp te vs rest] (hx : ev env x = some (.pointer (some ⟨bl, o, none⟩))) (hw : (vs.drop o).take sz = ws) (hsz : ws.length = sz) : RdV P n env ps hp (.load t x) (.agg ws.toArray) := fun F w _ h2 => by
 have hm := hf.p.mem_iff.2 List.mem_cons_self
 have hr : Row w bl te vs := h2 _ hm
 refine run_loadAgg hx hsz (fun w' ha => CellsAt.move (fun j c hj => ?_) ha (.inr ⟨_, hm, rfl⟩))
 rw [← hw, List.getElem?_take] at hj
 split at hj
 ·rw [List.getElem?_drop] at hj
  exact hr.cell_some hj
 ·cases hj
theorem lrO {P : Program} {n : Nat} {env : Env} {b : Base} {ps : List Pf} {hp : List Res} {Q : Exit → Act → World → Prop} {K : Act → World → Prop} {bl o sz d : Nat} {te t ty : TypeId} {pos : String} {aft : Array Edge} {gd : Option (Nat × Bool)} {x : Operand} {vs : List Value} (ws : List Value) {rest : List Res} [UAgg P t] [USize P t sz] (h : G n ((d, .agg ws.toArray) :: env) b ps hp K)
  (hx : ev env x = some (.pointer (some ⟨bl, o, none⟩)) := by exact rfl) (i0 : FRow bl hp te vs rest := by exact inferInstance) (hw : (vs.drop o).take sz = ws := by exact rfl) (hsz : ws.length = sz := by exact rfl) (hd : Nat.blt d n = true := by exact rfl) : GO P n env b ps hp ⟨some d, .load t x, ty, pos, aft, gd⟩ K Q := rdv (ld_rowO (o := o) (vs := vs) (rest := rest) (te := te) hx hw hsz) hd h
theorem nmM {n : Nat} {env : Env} {b : Base} {ps : List Pf} {hp : List Res} {K : Act → World → Prop} (t : Nat) {bl : Nat} (h : ∀ b' : Nat, b' = bl → G n env b ps hp K) (hk : RX.lk env t = some (.map (some bl)) := by exact rfl) : G n env b ps hp K :=
 have _ := hk
 h bl rfl
end Go.GX
