import Derived.Test.YtomadjefdghliaaGreatU26
namespace Go.Proofs.YtomadjefdghliaaGreat
open Go Go.RR Go.RX Go.GX Go.Api Go.RtM
attribute [local irreducible] wpList Code.wp wpPlan Exit.then Exit.inBlock bodyPost NoPanic Went GX.Post GX.Again GX.Meet GX.RowR GX.Own GX.Owns GX.Box GX.Sl GX.Pt GX.Ag GX.MapR GX.Star GX.Kept GX.Pin wpT GoK AtEnd Both
theorem rmem6 (tm : RTg) (km : MK) (vm : MV) (p : Nat) (c : RefC) (cs : List Value) (i : Ins) (ho : i.op = 6) (g cv : Nat) (vars : List Int) (hL : c.L.length ≤ 900000000) (ka : Nat) (hka : i.a = (ka : Int)) (hla : ka < vars.length) (wa : Int) (hwa : vars[ka]? = some wa) (kb : Nat) (hkb : i.b = (kb : Int)) (hlb : kb < vars.length) (wb : Int) (hwb : vars[kb]? = some wb) :
  Does Tryz.prog 78 [.pointer (some ⟨p, 0, none⟩), .agg cs.toArray, .slice (some ⟨g, 0, none⟩) vars.length cv] [Ag tyIns cs i] [RowR p 74 [.slice km.aC tm.classes.length km.cC, .slice km.aG tm.globals.length km.cG, .slice km.aU tm.units.length km.cU, .int .i64 tm.main, .slice km.aL (glob tm).length km.cL, .slice vm.ai vm.ni vm.ci, .slice c.aR c.B.length c.cR, .slice c.aL c.L.length c.cL, .int .i64 c.peak, .int .i64 c.most, .slice (some ⟨km.gb, 0, none⟩) tm.globals.length tm.globals.length, .slice vm.af vm.nf vm.cf, .int .i64 vm.en, .int .i64 vm.code, .slice vm.ao vm.no vm.co, .int .i64 vm.steps, .int .i64 vm.slack], GX.Own 4 Ty.bool c.aR c.cR c.B, GX.Own 139 tyThing c.aL c.cL (c.L.map thg), Owns 3 Ty.int (c.L.map (fun x : Th => x.2)), GX.Own 3 Ty.int (some ⟨g, 0, none⟩) cv vars] (fun _ : Unit => .int .i64 (loadP c.B (c.L.map row) wb i.c).2) (fun _ => [])
   (fun s => [RowR p 74 [.slice km.aC tm.classes.length km.cC, .slice km.aG tm.globals.length km.cG, .slice km.aU tm.units.length km.cU, .int .i64 tm.main, .slice km.aL (glob tm).length km.cL, .slice vm.ai vm.ni vm.ci, .slice (c).aR (c).B.length (c).cR, .slice (c).aL (c).L.length (c).cL, .int .i64 (c).peak, .int .i64 (c).most, .slice (some ⟨km.gb, 0, none⟩) tm.globals.length tm.globals.length, .slice vm.af vm.nf vm.cf, .int .i64 vm.en, .int .i64 vm.code, .slice vm.ao vm.no vm.co, .int .i64 vm.steps, .int .i64 vm.slack], GX.Own 4 Ty.bool (c).aR (c).cR (c).B, GX.Own 139 tyThing (c).aL (c).cL ((c).L.map thg), Owns 3 Ty.int ((c).L.map (fun x : Th => x.2)), GX.Own 3 Ty.int (some ⟨g, 0, none⟩) cv (vars.set ka (loadP c.B (c.L.map row) wb i.c).1)]) := by
 refine enter Tryz.func78 rfl Tryz.ntmps78 rfl fun _ => ?_
 refine GX.wp_R ?_; intros
 refine GX.drawnT1 (GX.Own 3 Ty.int (some ⟨g, 0, none⟩) cv vars) (fun j => !(List.contains [18, 19] j)) (.br [(0, true), (1, true), (2, true), (3, true), (4, true), (5, true), (6, true), (7, true), (8, true), (9, true), (10, true), (11, true), (12, true)] (.alt 13 (.br [(14, true)] (.alt 15 (.br [(17, true)] (.alt 16 (.lin [(18, false), (19, false)]) (.alt 18 (.lin [(16, false), (19, false)]) .nil))) (.alt 16 (.lin [(15, false), (17, true), (18, false), (19, false)]) .nil))) .nil)) (by kernel_rfl) (by kernel_rfl) GX.sA ?_; intro wd F hW hR
 refine GX.wp_T ?_; intros
 try rw [hka]
 try rw [hkb]
 refine GX.wp_T ?_; intros
 try rw [hka]
 try rw [hkb]
 refine GX.wp_T ?_; intros
 refine GX.gok ?_
 refine (cl (mload_spec tm km vm p c wb i.c (by omega)) fun _ => ?_)
 try dsimp only
 refine GX.wp_T ?_; intros
 refine GX.treeA ?_ (GX.treeO ?_)
 ·refine GX.wp_T ?_; intros
  refine GX.treeA ?_ (GX.treeO ?_)
  ·refine GX.wp_T ?_; intros
   refine GX.unpin (GX.Own 3 Ty.int (some ⟨g, 0, none⟩) cv vars) ?_
   refine GX.wp_T ?_; intros
   refine GX.wp_T ?_; intros
   refine GX.wp_R ?_; intros
   exact rt1 () rfl
  ·refine GX.unpin (GX.Own 3 Ty.int (some ⟨g, 0, none⟩) cv vars) ?_
   refine GX.gok ?_
   first | refine GX.so1 ?_ | refine GX.som ?_ | refine GX.sof ?_ | refine GX.sog ?_
   refine GX.wentF ?_
   refine GX.treeL ?_
   refine GX.exW ?_
   refine GX.wp_T ?_; intros
   refine GX.wp_R ?_; intros
   exact rt1 () rfl
 ·refine GX.wp_T ?_; intros
  refine GX.unpin (GX.Own 3 Ty.int (some ⟨g, 0, none⟩) cv vars) ?_
  refine GX.wp_T ?_; intros
  refine GX.wp_T ?_; intros
  refine GX.wp_R ?_; intros
  exact rt1 () rfl
theorem rmem8 (tm : RTg) (km : MK) (vm : MV) (p : Nat) (c : RefC) (cs : List Value) (i : Ins) (ho : i.op = 8) (g cv : Nat) (vars : List Int) (hL : c.L.length ≤ 900000000) (ka : Nat) (hka : i.a = (ka : Int)) (hla : ka < vars.length) (wa : Int) (hwa : vars[ka]? = some wa) (kb : Nat) (hkb : i.b = (kb : Int)) (hlb : kb < vars.length) (wb : Int) (hwb : vars[kb]? = some wb) (kc : Nat) (hkc : i.c = (kc : Int)) (hlc : kc < vars.length) (wc : Int) (hwc : vars[kc]? = some wc) :
  Does Tryz.prog 78 [.pointer (some ⟨p, 0, none⟩), .agg cs.toArray, .slice (some ⟨g, 0, none⟩) vars.length cv] [Ag tyIns cs i] [RowR p 74 [.slice km.aC tm.classes.length km.cC, .slice km.aG tm.globals.length km.cG, .slice km.aU tm.units.length km.cU, .int .i64 tm.main, .slice km.aL (glob tm).length km.cL, .slice vm.ai vm.ni vm.ci, .slice c.aR c.B.length c.cR, .slice c.aL c.L.length c.cL, .int .i64 c.peak, .int .i64 c.most, .slice (some ⟨km.gb, 0, none⟩) tm.globals.length tm.globals.length, .slice vm.af vm.nf vm.cf, .int .i64 vm.en, .int .i64 vm.code, .slice vm.ao vm.no vm.co, .int .i64 vm.steps, .int .i64 vm.slack], GX.Own 4 Ty.bool c.aR c.cR c.B, GX.Own 139 tyThing c.aL c.cL (c.L.map thg), Owns 3 Ty.int (c.L.map (fun x : Th => x.2)), GX.Own 3 Ty.int (some ⟨g, 0, none⟩) cv vars] (fun _ : Unit => .int .i64 (loadP c.B (c.L.map row) wb wc).2) (fun _ => [])
   (fun s => [RowR p 74 [.slice km.aC tm.classes.length km.cC, .slice km.aG tm.globals.length km.cG, .slice km.aU tm.units.length km.cU, .int .i64 tm.main, .slice km.aL (glob tm).length km.cL, .slice vm.ai vm.ni vm.ci, .slice (c).aR (c).B.length (c).cR, .slice (c).aL (c).L.length (c).cL, .int .i64 (c).peak, .int .i64 (c).most, .slice (some ⟨km.gb, 0, none⟩) tm.globals.length tm.globals.length, .slice vm.af vm.nf vm.cf, .int .i64 vm.en, .int .i64 vm.code, .slice vm.ao vm.no vm.co, .int .i64 vm.steps, .int .i64 vm.slack], GX.Own 4 Ty.bool (c).aR (c).cR (c).B, GX.Own 139 tyThing (c).aL (c).cL ((c).L.map thg), Owns 3 Ty.int ((c).L.map (fun x : Th => x.2)), GX.Own 3 Ty.int (some ⟨g, 0, none⟩) cv (vars.set ka (loadP c.B (c.L.map row) wb wc).1)]) := by
 refine enter Tryz.func78 rfl Tryz.ntmps78 rfl fun _ => ?_
 refine GX.wp_R ?_; intros
 refine GX.drawnT1 (GX.Own 3 Ty.int (some ⟨g, 0, none⟩) cv vars) (fun j => !(List.contains [21, 22] j)) (.br [(0, true), (1, true), (2, true), (3, true), (4, true), (5, true), (6, true), (7, true), (8, true), (9, true), (10, true), (11, true), (12, true), (13, true), (14, true), (15, true)] (.alt 16 (.br [(17, true)] (.alt 18 (.br [(20, true)] (.alt 19 (.lin [(21, false), (22, false)]) (.alt 21 (.lin [(19, false), (22, false)]) .nil))) (.alt 19 (.lin [(18, false), (20, true), (21, false), (22, false)]) .nil))) .nil)) (by kernel_rfl) (by kernel_rfl) GX.sA ?_; intro wd F hW hR
 refine GX.wp_T ?_; intros
 try rw [hka]
 try rw [hkb]
 try rw [hkc]
 refine GX.wp_T ?_; intros
 try rw [hka]
 try rw [hkb]
 try rw [hkc]
 refine GX.wp_T ?_; intros
 try rw [hka]
 try rw [hkb]
 try rw [hkc]
 refine GX.wp_T ?_; intros
 refine GX.gok ?_
 refine (cl (mload_spec tm km vm p c wb wc (by omega)) fun _ => ?_)
 try dsimp only
 refine GX.wp_T ?_; intros
 refine GX.treeA ?_ (GX.treeO ?_)
 ·refine GX.wp_T ?_; intros
  refine GX.treeA ?_ (GX.treeO ?_)
  ·refine GX.wp_T ?_; intros
   refine GX.unpin (GX.Own 3 Ty.int (some ⟨g, 0, none⟩) cv vars) ?_
   refine GX.wp_T ?_; intros
   refine GX.wp_T ?_; intros
   refine GX.wp_R ?_; intros
   exact rt1 () rfl
  ·refine GX.unpin (GX.Own 3 Ty.int (some ⟨g, 0, none⟩) cv vars) ?_
   refine GX.gok ?_
   first | refine GX.so1 ?_ | refine GX.som ?_ | refine GX.sof ?_ | refine GX.sog ?_
   refine GX.wentF ?_
   refine GX.treeL ?_
   refine GX.exW ?_
   refine GX.wp_T ?_; intros
   refine GX.wp_R ?_; intros
   exact rt1 () rfl
 ·refine GX.wp_T ?_; intros
  refine GX.unpin (GX.Own 3 Ty.int (some ⟨g, 0, none⟩) cv vars) ?_
  refine GX.wp_T ?_; intros
  refine GX.wp_T ?_; intros
  refine GX.wp_R ?_; intros
  exact rt1 () rfl
theorem rmem10 (tm : RTg) (km : MK) (vm : MV) (p : Nat) (c : RefC) (cs : List Value) (i : Ins) (ho : i.op = 10) (g cv : Nat) (vars : List Int) (hL : c.L.length ≤ 900000000) (ka : Nat) (hka : i.a = (ka : Int)) (hla : ka < vars.length) (wa : Int) (hwa : vars[ka]? = some wa) (kb : Nat) (hkb : i.b = (kb : Int)) (hlb : kb < vars.length) (wb : Int) (hwb : vars[kb]? = some wb) :
  Does Tryz.prog 78 [.pointer (some ⟨p, 0, none⟩), .agg cs.toArray, .slice (some ⟨g, 0, none⟩) vars.length cv] [Ag tyIns cs i] [RowR p 74 [.slice km.aC tm.classes.length km.cC, .slice km.aG tm.globals.length km.cG, .slice km.aU tm.units.length km.cU, .int .i64 tm.main, .slice km.aL (glob tm).length km.cL, .slice vm.ai vm.ni vm.ci, .slice c.aR c.B.length c.cR, .slice c.aL c.L.length c.cL, .int .i64 c.peak, .int .i64 c.most, .slice (some ⟨km.gb, 0, none⟩) tm.globals.length tm.globals.length, .slice vm.af vm.nf vm.cf, .int .i64 vm.en, .int .i64 vm.code, .slice vm.ao vm.no vm.co, .int .i64 vm.steps, .int .i64 vm.slack], GX.Own 4 Ty.bool c.aR c.cR c.B, GX.Own 139 tyThing c.aL c.cL (c.L.map thg), Owns 3 Ty.int (c.L.map (fun x : Th => x.2)), GX.Own 3 Ty.int (some ⟨g, 0, none⟩) cv vars] (fun _ : Unit => .int .i64 (lenP c.B (c.L.map row) wb).2) (fun _ => [])
   (fun s => [RowR p 74 [.slice km.aC tm.classes.length km.cC, .slice km.aG tm.globals.length km.cG, .slice km.aU tm.units.length km.cU, .int .i64 tm.main, .slice km.aL (glob tm).length km.cL, .slice vm.ai vm.ni vm.ci, .slice (c).aR (c).B.length (c).cR, .slice (c).aL (c).L.length (c).cL, .int .i64 (c).peak, .int .i64 (c).most, .slice (some ⟨km.gb, 0, none⟩) tm.globals.length tm.globals.length, .slice vm.af vm.nf vm.cf, .int .i64 vm.en, .int .i64 vm.code, .slice vm.ao vm.no vm.co, .int .i64 vm.steps, .int .i64 vm.slack], GX.Own 4 Ty.bool (c).aR (c).cR (c).B, GX.Own 139 tyThing (c).aL (c).cL ((c).L.map thg), Owns 3 Ty.int ((c).L.map (fun x : Th => x.2)), GX.Own 3 Ty.int (some ⟨g, 0, none⟩) cv (vars.set ka (lenP c.B (c.L.map row) wb).1)]) := by
 refine enter Tryz.func78 rfl Tryz.ntmps78 rfl fun _ => ?_
 refine GX.wp_R ?_; intros
 refine GX.drawnT1 (GX.Own 3 Ty.int (some ⟨g, 0, none⟩) cv vars) (fun j => !(List.contains [16, 17] j)) (.br [(0, true), (1, true), (2, true), (3, true), (4, true), (5, true), (6, true), (7, true), (8, true), (9, true), (10, true)] (.alt 11 (.br [(12, true)] (.alt 13 (.br [(15, true)] (.alt 14 (.lin [(16, false), (17, false)]) (.alt 16 (.lin [(14, false), (17, false)]) .nil))) (.alt 14 (.lin [(13, false), (15, true), (16, false), (17, false)]) .nil))) .nil)) (by kernel_rfl) (by kernel_rfl) GX.sA ?_; intro wd F hW hR
 refine GX.wp_T ?_; intros
 try rw [hka]
 try rw [hkb]
 refine GX.wp_T ?_; intros
 try rw [hka]
 try rw [hkb]
 refine GX.wp_T ?_; intros
 refine GX.gok ?_
 refine (cl (mlen_spec tm km vm p c wb (by omega)) fun _ => ?_)
 try dsimp only
 refine GX.wp_T ?_; intros
 refine GX.treeA ?_ (GX.treeO ?_)
 ·refine GX.wp_T ?_; intros
  refine GX.treeA ?_ (GX.treeO ?_)
  ·refine GX.wp_T ?_; intros
   refine GX.unpin (GX.Own 3 Ty.int (some ⟨g, 0, none⟩) cv vars) ?_
   refine GX.wp_T ?_; intros
   refine GX.wp_T ?_; intros
   refine GX.wp_R ?_; intros
   exact rt1 () rfl
  ·refine GX.unpin (GX.Own 3 Ty.int (some ⟨g, 0, none⟩) cv vars) ?_
   refine GX.gok ?_
   first | refine GX.so1 ?_ | refine GX.som ?_ | refine GX.sof ?_ | refine GX.sog ?_
   refine GX.wentF ?_
   refine GX.treeL ?_
   refine GX.exW ?_
   refine GX.wp_T ?_; intros
   refine GX.wp_R ?_; intros
   exact rt1 () rfl
 ·refine GX.wp_T ?_; intros
  refine GX.unpin (GX.Own 3 Ty.int (some ⟨g, 0, none⟩) cv vars) ?_
  refine GX.wp_T ?_; intros
  refine GX.wp_T ?_; intros
  refine GX.wp_R ?_; intros
  exact rt1 () rfl
theorem rmem7 (tm : RTg) (km : MK) (vm : MV) (p : Nat) (c : RefC) (cs : List Value) (i : Ins) (ho : i.op = 7) (g cv : Nat) (vars : List Int) (hL : c.L.length ≤ 900000000) (ka : Nat) (hka : i.a = (ka : Int)) (hla : ka < vars.length) (wa : Int) (hwa : vars[ka]? = some wa) (kb : Nat) (hkb : i.b = (kb : Int)) (hlb : kb < vars.length) (wb : Int) (hwb : vars[kb]? = some wb) :
  Does Tryz.prog 78 [.pointer (some ⟨p, 0, none⟩), .agg cs.toArray, .slice (some ⟨g, 0, none⟩) vars.length cv] [Ag tyIns cs i] [RowR p 74 [.slice km.aC tm.classes.length km.cC, .slice km.aG tm.globals.length km.cG, .slice km.aU tm.units.length km.cU, .int .i64 tm.main, .slice km.aL (glob tm).length km.cL, .slice vm.ai vm.ni vm.ci, .slice c.aR c.B.length c.cR, .slice c.aL c.L.length c.cL, .int .i64 c.peak, .int .i64 c.most, .slice (some ⟨km.gb, 0, none⟩) tm.globals.length tm.globals.length, .slice vm.af vm.nf vm.cf, .int .i64 vm.en, .int .i64 vm.code, .slice vm.ao vm.no vm.co, .int .i64 vm.steps, .int .i64 vm.slack], GX.Own 4 Ty.bool c.aR c.cR c.B, GX.Own 139 tyThing c.aL c.cL (c.L.map thg), Owns 3 Ty.int (c.L.map (fun x : Th => x.2)), GX.Own 3 Ty.int (some ⟨g, 0, none⟩) cv vars] (fun _ : Unit => .int .i64 (loadP c.B (c.L.map row) wa i.c).2) (fun _ => [])
   (fun s => [RowR p 74 [.slice km.aC tm.classes.length km.cC, .slice km.aG tm.globals.length km.cG, .slice km.aU tm.units.length km.cU, .int .i64 tm.main, .slice km.aL (glob tm).length km.cL, .slice vm.ai vm.ni vm.ci, .slice c.aR c.B.length c.cR, .slice c.aL (putTo c.B c.L wa i.c wb).length c.cL, .int .i64 c.peak, .int .i64 c.most, .slice (some ⟨km.gb, 0, none⟩) tm.globals.length tm.globals.length, .slice vm.af vm.nf vm.cf, .int .i64 vm.en, .int .i64 vm.code, .slice vm.ao vm.no vm.co, .int .i64 vm.steps, .int .i64 vm.slack], GX.Own 4 Ty.bool c.aR c.cR c.B, GX.Own 139 tyThing c.aL c.cL ((putTo c.B c.L wa i.c wb).map thg), Owns 3 Ty.int ((putTo c.B c.L wa i.c wb).map (fun x : Th => x.2)), GX.Own 3 Ty.int (some ⟨g, 0, none⟩) cv (vars)]) := by
 refine enter Tryz.func78 rfl Tryz.ntmps78 rfl fun _ => ?_
 refine GX.wp_R ?_; intros
 refine GX.drawn1 (GX.Own 3 Ty.int (some ⟨g, 0, none⟩) cv vars) (fun j => !(List.contains [15] j)) [(0, true), (1, true), (2, true), (3, true), (4, true), (5, true), (6, true), (7, true), (8, true), (9, true), (10, true), (11, true), (12, true), (13, true), (14, true), (15, false), (16, true)] rfl (by kernel_rfl) (by kernel_rfl) GX.sA ?_; intro wd F hW hR
 refine GX.wp_T ?_; intros
 try rw [hka]
 try rw [hkb]
 refine GX.wp_T ?_; intros
 try rw [hka]
 try rw [hkb]
 refine GX.wp_T ?_; intros
 refine GX.gow ?_
 refine (cl (mput_spec tm km vm p c wa i.c wb (by omega)) fun _ => ?_)
 try dsimp only
 refine GX.wp_T ?_; intros
 refine GX.unpin (GX.Own 3 Ty.int (some ⟨g, 0, none⟩) cv vars) ?_
 refine GX.wp_T ?_; intros
 refine GX.wp_R ?_; intros
 exact rt1 () rfl
theorem rmem9 (tm : RTg) (km : MK) (vm : MV) (p : Nat) (c : RefC) (cs : List Value) (i : Ins) (ho : i.op = 9) (g cv : Nat) (vars : List Int) (hL : c.L.length ≤ 900000000) (ka : Nat) (hka : i.a = (ka : Int)) (hla : ka < vars.length) (wa : Int) (hwa : vars[ka]? = some wa) (kb : Nat) (hkb : i.b = (kb : Int)) (hlb : kb < vars.length) (wb : Int) (hwb : vars[kb]? = some wb) (kc : Nat) (hkc : i.c = (kc : Int)) (hlc : kc < vars.length) (wc : Int) (hwc : vars[kc]? = some wc) :
  Does Tryz.prog 78 [.pointer (some ⟨p, 0, none⟩), .agg cs.toArray, .slice (some ⟨g, 0, none⟩) vars.length cv] [Ag tyIns cs i] [RowR p 74 [.slice km.aC tm.classes.length km.cC, .slice km.aG tm.globals.length km.cG, .slice km.aU tm.units.length km.cU, .int .i64 tm.main, .slice km.aL (glob tm).length km.cL, .slice vm.ai vm.ni vm.ci, .slice c.aR c.B.length c.cR, .slice c.aL c.L.length c.cL, .int .i64 c.peak, .int .i64 c.most, .slice (some ⟨km.gb, 0, none⟩) tm.globals.length tm.globals.length, .slice vm.af vm.nf vm.cf, .int .i64 vm.en, .int .i64 vm.code, .slice vm.ao vm.no vm.co, .int .i64 vm.steps, .int .i64 vm.slack], GX.Own 4 Ty.bool c.aR c.cR c.B, GX.Own 139 tyThing c.aL c.cL (c.L.map thg), Owns 3 Ty.int (c.L.map (fun x : Th => x.2)), GX.Own 3 Ty.int (some ⟨g, 0, none⟩) cv vars] (fun _ : Unit => .int .i64 (loadP c.B (c.L.map row) wa wb).2) (fun _ => [])
   (fun s => [RowR p 74 [.slice km.aC tm.classes.length km.cC, .slice km.aG tm.globals.length km.cG, .slice km.aU tm.units.length km.cU, .int .i64 tm.main, .slice km.aL (glob tm).length km.cL, .slice vm.ai vm.ni vm.ci, .slice c.aR c.B.length c.cR, .slice c.aL (putTo c.B c.L wa wb wc).length c.cL, .int .i64 c.peak, .int .i64 c.most, .slice (some ⟨km.gb, 0, none⟩) tm.globals.length tm.globals.length, .slice vm.af vm.nf vm.cf, .int .i64 vm.en, .int .i64 vm.code, .slice vm.ao vm.no vm.co, .int .i64 vm.steps, .int .i64 vm.slack], GX.Own 4 Ty.bool c.aR c.cR c.B, GX.Own 139 tyThing c.aL c.cL ((putTo c.B c.L wa wb wc).map thg), Owns 3 Ty.int ((putTo c.B c.L wa wb wc).map (fun x : Th => x.2)), GX.Own 3 Ty.int (some ⟨g, 0, none⟩) cv (vars)]) := by
 refine enter Tryz.func78 rfl Tryz.ntmps78 rfl fun _ => ?_
 refine GX.wp_R ?_; intros
 refine GX.drawn1 (GX.Own 3 Ty.int (some ⟨g, 0, none⟩) cv vars) (fun j => !(List.contains [18] j)) [(0, true), (1, true), (2, true), (3, true), (4, true), (5, true), (6, true), (7, true), (8, true), (9, true), (10, true), (11, true), (12, true), (13, true), (14, true), (15, true), (16, true), (17, true), (18, false), (19, true)] rfl (by kernel_rfl) (by kernel_rfl) GX.sA ?_; intro wd F hW hR
 refine GX.wp_T ?_; intros
 try rw [hka]
 try rw [hkb]
 try rw [hkc]
 refine GX.wp_T ?_; intros
 try rw [hka]
 try rw [hkb]
 try rw [hkc]
 refine GX.wp_T ?_; intros
 try rw [hka]
 try rw [hkb]
 try rw [hkc]
 refine GX.wp_T ?_; intros
 refine GX.gow ?_
 refine (cl (mput_spec tm km vm p c wa wb wc (by omega)) fun _ => ?_)
 try dsimp only
 refine GX.wp_T ?_; intros
 refine GX.unpin (GX.Own 3 Ty.int (some ⟨g, 0, none⟩) cv vars) ?_
 refine GX.wp_T ?_; intros
 refine GX.wp_R ?_; intros
 exact rt1 () rfl
theorem radd_f (tm : RTg) (km : MK) (vm : MV) (p : Nat) (c : RefC) (q : Nat) (haf : vm.af = some ⟨q, 0, none⟩) (l : List RFr) (x : RFr) (hn : vm.nf = l.length + 1) (hb : l.length ≤ 1000) (gr : Nat) (rl : List Int) (hrh : x.rh = (some ⟨gr, 0, none⟩, rl.length, rl.length)) (j : Nat) (y : Int) (hy : rl[j]? = some y) (n : Int) (h : hasB c.B (if (j : Int) ∈ glob tm then 1 else y) = false) :
  Does Tryz.prog 123 [.pointer (some ⟨p, 0, none⟩), .int .i64 (j : Int), .int .i64 n] [Sl Ty.int km.aL km.cL (glob tm)] [RowR p 74 [.slice km.aC tm.classes.length km.cC, .slice km.aG tm.globals.length km.cG, .slice km.aU tm.units.length km.cU, .int .i64 tm.main, .slice km.aL (glob tm).length km.cL, .slice vm.ai vm.ni vm.ci, .slice c.aR c.B.length c.cR, .slice c.aL c.L.length c.cL, .int .i64 c.peak, .int .i64 c.most, .slice (some ⟨km.gb, 0, none⟩) tm.globals.length tm.globals.length, .slice vm.af vm.nf vm.cf, .int .i64 vm.en, .int .i64 vm.code, .slice vm.ao vm.no vm.co, .int .i64 vm.steps, .int .i64 vm.slack], GX.Own 4 Ty.bool c.aR c.cR c.B, GX.Own 139 tyThing c.aL c.cL (c.L.map thg), Owns 3 Ty.int (c.L.map (fun x : Th => x.2)), GX.Own 98 tyRFr vm.af vm.cf (l ++ [x]), GX.Own 3 Ty.int (some ⟨gr, 0, none⟩) rl.length rl] (fun _ : Unit => .int .i64 0) (fun _ => [])
   (fun s => [RowR p 74 [.slice km.aC tm.classes.length km.cC, .slice km.aG tm.globals.length km.cG, .slice km.aU tm.units.length km.cU, .int .i64 tm.main, .slice km.aL (glob tm).length km.cL, .slice vm.ai vm.ni vm.ci, .slice c.aR c.B.length c.cR, .slice c.aL c.L.length c.cL, .int .i64 c.peak, .int .i64 c.most, .slice (some ⟨km.gb, 0, none⟩) tm.globals.length tm.globals.length, .slice vm.af vm.nf vm.cf, .int .i64 4, .int .i64 vm.code, .slice vm.ao vm.no vm.co, .int .i64 vm.steps, .int .i64 vm.slack], GX.Own 4 Ty.bool c.aR c.cR c.B, GX.Own 139 tyThing c.aL c.cL (c.L.map thg), Owns 3 Ty.int (c.L.map (fun x : Th => x.2)), GX.Own 98 tyRFr vm.af vm.cf (l ++ [x]), GX.Own 3 Ty.int (some ⟨gr, 0, none⟩) rl.length rl]) := by
 refine enter Tryz.func123 rfl Tryz.ntmps123 rfl fun _ => ?_
 refine GX.wp_R ?_; intros
 refine GX.drawn0  (fun j => !(List.contains [5, 7] j)) [(0, true), (1, true), (2, true), (3, true), (4, true), (6, true), (5, false), (7, false), (8, true), (9, true), (10, true), (11, true), (12, true)] rfl (by kernel_rfl) (by kernel_rfl) GX.sA ?_; intro wd F hW hR
 refine GX.wp_T ?_; intros
 refine GX.gow ?_
 refine (cl (rregion_spec tm km vm p c q haf l x hn hb gr rl hrh j y hy) fun _ => ?_)
 refine GX.wp_T ?_; intros
 refine GX.gow ?_
 refine (cl (madd_no tm km vm p c (if (j : Int) ∈ glob tm then 1 else y) n h) fun s => ?_)
 try dsimp only
 refine GX.wp_T ?_; intros
 refine GX.wp_R ?_; intros
 refine GX.o (cl (rfault_spec tm km vm p c) fun _ => ?_)
 refine GX.wp_R ?_; intros
 exact rt1 () rfl
theorem radd_t (tm : RTg) (km : MK) (vm : MV) (p : Nat) (c : RefC) (q : Nat) (haf : vm.af = some ⟨q, 0, none⟩) (l : List RFr) (x : RFr) (hn : vm.nf = l.length + 1) (hb : l.length ≤ 1000) (gr : Nat) (rl : List Int) (hrh : x.rh = (some ⟨gr, 0, none⟩, rl.length, rl.length)) (j : Nat) (y : Int) (hy : rl[j]? = some y) (n : Int) (h : hasB c.B (if (j : Int) ∈ glob tm then 1 else y) = true) (hL : c.L.length ≤ 900000000) :
  Does Tryz.prog 123 [.pointer (some ⟨p, 0, none⟩), .int .i64 (j : Int), .int .i64 n] [Sl Ty.int km.aL km.cL (glob tm)] [RowR p 74 [.slice km.aC tm.classes.length km.cC, .slice km.aG tm.globals.length km.cG, .slice km.aU tm.units.length km.cU, .int .i64 tm.main, .slice km.aL (glob tm).length km.cL, .slice vm.ai vm.ni vm.ci, .slice c.aR c.B.length c.cR, .slice c.aL c.L.length c.cL, .int .i64 c.peak, .int .i64 c.most, .slice (some ⟨km.gb, 0, none⟩) tm.globals.length tm.globals.length, .slice vm.af vm.nf vm.cf, .int .i64 vm.en, .int .i64 vm.code, .slice vm.ao vm.no vm.co, .int .i64 vm.steps, .int .i64 vm.slack], GX.Own 4 Ty.bool c.aR c.cR c.B, GX.Own 139 tyThing c.aL c.cL (c.L.map thg), Owns 3 Ty.int (c.L.map (fun x : Th => x.2)), GX.Own 98 tyRFr vm.af vm.cf (l ++ [x]), GX.Own 3 Ty.int (some ⟨gr, 0, none⟩) rl.length rl] (fun _ : Nat × Option Addr × Nat => .int .i64 ((c.L.length + 1 : Nat) : Int)) (fun _ => [])
   (fun s => [RowR p 74 [.slice km.aC tm.classes.length km.cC, .slice km.aG tm.globals.length km.cG, .slice km.aU tm.units.length km.cU, .int .i64 tm.main, .slice km.aL (glob tm).length km.cL, .slice vm.ai vm.ni vm.ci, .slice c.aR c.B.length c.cR, .slice s.2.1 (RefC.mk c.aR c.cR c.B s.2.1 s.2.2 (c.L ++ [((if (j : Int) ∈ glob tm then 1 else y), some ⟨s.1, 0, none⟩, cells n, List.replicate (cells n) 0)]) c.peak (max c.most (nowN c.B (c.L.map row ++ [((if (j : Int) ∈ glob tm then 1 else y), List.replicate (cells n) 0)]) : Int))).L.length s.2.2, .int .i64 c.peak, .int .i64 (max c.most (nowN c.B (c.L.map row ++ [((if (j : Int) ∈ glob tm then 1 else y), List.replicate (cells n) 0)]) : Int)), .slice (some ⟨km.gb, 0, none⟩) tm.globals.length tm.globals.length, .slice vm.af vm.nf vm.cf, .int .i64 vm.en, .int .i64 vm.code, .slice vm.ao vm.no vm.co, .int .i64 vm.steps, .int .i64 vm.slack], GX.Own 4 Ty.bool c.aR c.cR c.B, GX.Own 139 tyThing s.2.1 s.2.2 ((RefC.mk c.aR c.cR c.B s.2.1 s.2.2 (c.L ++ [((if (j : Int) ∈ glob tm then 1 else y), some ⟨s.1, 0, none⟩, cells n, List.replicate (cells n) 0)]) c.peak (max c.most (nowN c.B (c.L.map row ++ [((if (j : Int) ∈ glob tm then 1 else y), List.replicate (cells n) 0)]) : Int))).L.map thg), Owns 3 Ty.int ((RefC.mk c.aR c.cR c.B s.2.1 s.2.2 (c.L ++ [((if (j : Int) ∈ glob tm then 1 else y), some ⟨s.1, 0, none⟩, cells n, List.replicate (cells n) 0)]) c.peak (max c.most (nowN c.B (c.L.map row ++ [((if (j : Int) ∈ glob tm then 1 else y), List.replicate (cells n) 0)]) : Int))).L.map (fun x : Th => x.2)), GX.Own 98 tyRFr vm.af vm.cf (l ++ [x]), GX.Own 3 Ty.int (some ⟨gr, 0, none⟩) rl.length rl]) := by
 refine enter Tryz.func123 rfl Tryz.ntmps123 rfl fun _ => ?_
 refine GX.wp_R ?_; intros
 refine GX.drawn0  (fun j => !(List.contains [5, 7] j)) [(0, true), (1, true), (2, true), (3, true), (4, true), (6, true), (5, false), (7, false), (8, true), (9, true), (10, true), (11, true), (12, true)] rfl (by kernel_rfl) (by kernel_rfl) GX.sA ?_; intro wd F hW hR
 refine GX.wp_T ?_; intros
 refine GX.gow ?_
 refine (cl (rregion_spec tm km vm p c q haf l x hn hb gr rl hrh j y hy) fun _ => ?_)
 refine GX.wp_T ?_; intros
 refine GX.gow ?_
 refine (cl (madd_yes tm km vm p c (if (j : Int) ∈ glob tm then 1 else y) n h (by omega)) fun s => ?_)
 try dsimp only
 refine GX.wp_T ?_; intros
 refine GX.wp_R ?_; intros
 exact rt1 s rfl
theorem rmem11f (tm : RTg) (km : MK) (vm : MV) (p : Nat) (c : RefC) (cs : List Value) (i : Ins) (ho : i.op = 11) (g cv : Nat) (vars : List Int) (hL : c.L.length ≤ 900000000) (ka : Nat) (hka : i.a = (ka : Int)) (hla : ka < vars.length) (wa : Int) (hwa : vars[ka]? = some wa) (q : Nat) (haf : vm.af = some ⟨q, 0, none⟩) (l : List RFr) (x : RFr) (hn : vm.nf = l.length + 1) (hb : l.length ≤ 1000) (gr : Nat) (rl : List Int) (hrh : x.rh = (some ⟨gr, 0, none⟩, rl.length, rl.length)) (j : Nat) (hj : i.n = (j : Int)) (y : Int) (hy : rl[j]? = some y) (C : Layout) (hC : tm.classes[j]? = some C) (h : hasB c.B (if (j : Int) ∈ glob tm then 1 else y) = false) :
  Does Tryz.prog 78 [.pointer (some ⟨p, 0, none⟩), .agg cs.toArray, .slice (some ⟨g, 0, none⟩) vars.length cv] [Ag tyIns cs i, Sl Ty.int km.aL km.cL (glob tm), Sl tyLayout km.aC km.cC tm.classes, Sl tyUnt km.aU km.cU tm.units] [RowR p 74 [.slice km.aC tm.classes.length km.cC, .slice km.aG tm.globals.length km.cG, .slice km.aU tm.units.length km.cU, .int .i64 tm.main, .slice km.aL (glob tm).length km.cL, .slice vm.ai vm.ni vm.ci, .slice c.aR c.B.length c.cR, .slice c.aL c.L.length c.cL, .int .i64 c.peak, .int .i64 c.most, .slice (some ⟨km.gb, 0, none⟩) tm.globals.length tm.globals.length, .slice vm.af vm.nf vm.cf, .int .i64 vm.en, .int .i64 vm.code, .slice vm.ao vm.no vm.co, .int .i64 vm.steps, .int .i64 vm.slack], GX.Own 4 Ty.bool c.aR c.cR c.B, GX.Own 139 tyThing c.aL c.cL (c.L.map thg), Owns 3 Ty.int (c.L.map (fun x : Th => x.2)), GX.Own 98 tyRFr vm.af vm.cf (l ++ [x]), GX.Own 3 Ty.int (some ⟨gr, 0, none⟩) rl.length rl, GX.Own 3 Ty.int (some ⟨g, 0, none⟩) cv vars] (fun _ : Unit => .int .i64 0) (fun _ => [])
   (fun s => [RowR p 74 [.slice km.aC tm.classes.length km.cC, .slice km.aG tm.globals.length km.cG, .slice km.aU tm.units.length km.cU, .int .i64 tm.main, .slice km.aL (glob tm).length km.cL, .slice vm.ai vm.ni vm.ci, .slice c.aR c.B.length c.cR, .slice c.aL c.L.length c.cL, .int .i64 c.peak, .int .i64 c.most, .slice (some ⟨km.gb, 0, none⟩) tm.globals.length tm.globals.length, .slice vm.af vm.nf vm.cf, .int .i64 4, .int .i64 vm.code, .slice vm.ao vm.no vm.co, .int .i64 vm.steps, .int .i64 vm.slack], GX.Own 4 Ty.bool c.aR c.cR c.B, GX.Own 139 tyThing c.aL c.cL (c.L.map thg), Owns 3 Ty.int (c.L.map (fun x : Th => x.2)), GX.Own 98 tyRFr vm.af vm.cf (l ++ [x]), GX.Own 3 Ty.int (some ⟨gr, 0, none⟩) rl.length rl, GX.Own 3 Ty.int (some ⟨g, 0, none⟩) cv (vars.set ka 0)]) := by
 refine enter Tryz.func78 rfl Tryz.ntmps78 rfl fun _ => ?_
 refine GX.wp_R ?_; intros
 refine GX.drawnT1 (RowR p 74 _) (fun j => !(List.contains [17, 19] j)) (.br [(0, true), (1, true), (3, true), (4, true), (5, true), (6, true), (7, true), (8, true), (9, true), (10, true), (11, true), (12, true), (13, true), (14, true), (15, true), (16, true)] (.alt 2 (.lin [(17, false), (18, true), (19, false)]) (.alt 17 (.lin [(2, false), (18, true), (19, false)]) .nil))) (by kernel_rfl) (by kernel_rfl) GX.sA ?_; intro wd F hW hR
 refine GX.wp_T ?_; intros
 try rw [hj]
 refine GX.wp_T ?_; intros
 try rw [hj]
 refine GX.wp_T ?_; intros
 refine GX.treeA ?_ (GX.treeO ?_)
 ·refine GX.ldK ?_
  refine GX.treeL ?_
  refine GX.unpin (RowR p 74 _) ?_
  refine GX.gow ?_
  refine (cl (radd_f tm km vm p c q haf l x hn hb gr rl hrh j y hy ((C.refs.length : Nat) : Int) h) fun s => ?_)
  try dsimp only
  refine GX.wp_T ?_; intros
  try rw [hka]
  refine GX.wp_T ?_; intros
  refine GX.wp_R ?_; intros
  exact rt1 () rfl
 ·refine GX.unpin (RowR p 74 _) ?_
  refine GX.gok ?_
  refine (cl (radd_f tm km vm p c q haf l x hn hb gr rl hrh j y hy ((C.refs.length : Nat) : Int) h) fun s => ?_)
  try dsimp only
  refine GX.wentF ?_
  refine GX.treeL ?_
  refine GX.ldW ?_
  try rw [hka]
  refine GX.wp_T ?_; intros
  refine GX.wp_R ?_; intros
  exact rt1 () rfl
theorem rmem12f (tm : RTg) (km : MK) (vm : MV) (p : Nat) (c : RefC) (cs : List Value) (i : Ins) (ho : i.op = 12) (g cv : Nat) (vars : List Int) (hL : c.L.length ≤ 900000000) (ka : Nat) (hka : i.a = (ka : Int)) (hla : ka < vars.length) (wa : Int) (hwa : vars[ka]? = some wa) (kb : Nat) (hkb : i.b = (kb : Int)) (hlb : kb < vars.length) (wb : Int) (hwb : vars[kb]? = some wb) (q : Nat) (haf : vm.af = some ⟨q, 0, none⟩) (l : List RFr) (x : RFr) (hn : vm.nf = l.length + 1) (hb : l.length ≤ 1000) (gr : Nat) (rl : List Int) (hrh : x.rh = (some ⟨gr, 0, none⟩, rl.length, rl.length)) (j : Nat) (hj : i.n = (j : Int)) (y : Int) (hy : rl[j]? = some y) (hw1 : ¬ wb < 0) (hw2 : ¬ 50 < wb) (h : hasB c.B (if (j : Int) ∈ glob tm then 1 else y) = false) :
  Does Tryz.prog 78 [.pointer (some ⟨p, 0, none⟩), .agg cs.toArray, .slice (some ⟨g, 0, none⟩) vars.length cv] [Ag tyIns cs i, Sl Ty.int km.aL km.cL (glob tm), Sl tyLayout km.aC km.cC tm.classes, Sl tyUnt km.aU km.cU tm.units] [RowR p 74 [.slice km.aC tm.classes.length km.cC, .slice km.aG tm.globals.length km.cG, .slice km.aU tm.units.length km.cU, .int .i64 tm.main, .slice km.aL (glob tm).length km.cL, .slice vm.ai vm.ni vm.ci, .slice c.aR c.B.length c.cR, .slice c.aL c.L.length c.cL, .int .i64 c.peak, .int .i64 c.most, .slice (some ⟨km.gb, 0, none⟩) tm.globals.length tm.globals.length, .slice vm.af vm.nf vm.cf, .int .i64 vm.en, .int .i64 vm.code, .slice vm.ao vm.no vm.co, .int .i64 vm.steps, .int .i64 vm.slack], GX.Own 4 Ty.bool c.aR c.cR c.B, GX.Own 139 tyThing c.aL c.cL (c.L.map thg), Owns 3 Ty.int (c.L.map (fun x : Th => x.2)), GX.Own 98 tyRFr vm.af vm.cf (l ++ [x]), GX.Own 3 Ty.int (some ⟨gr, 0, none⟩) rl.length rl, GX.Own 3 Ty.int (some ⟨g, 0, none⟩) cv vars] (fun _ : Unit => .int .i64 0) (fun _ => [])
   (fun s => [RowR p 74 [.slice km.aC tm.classes.length km.cC, .slice km.aG tm.globals.length km.cG, .slice km.aU tm.units.length km.cU, .int .i64 tm.main, .slice km.aL (glob tm).length km.cL, .slice vm.ai vm.ni vm.ci, .slice c.aR c.B.length c.cR, .slice c.aL c.L.length c.cL, .int .i64 c.peak, .int .i64 c.most, .slice (some ⟨km.gb, 0, none⟩) tm.globals.length tm.globals.length, .slice vm.af vm.nf vm.cf, .int .i64 4, .int .i64 vm.code, .slice vm.ao vm.no vm.co, .int .i64 vm.steps, .int .i64 vm.slack], GX.Own 4 Ty.bool c.aR c.cR c.B, GX.Own 139 tyThing c.aL c.cL (c.L.map thg), Owns 3 Ty.int (c.L.map (fun x : Th => x.2)), GX.Own 98 tyRFr vm.af vm.cf (l ++ [x]), GX.Own 3 Ty.int (some ⟨gr, 0, none⟩) rl.length rl, GX.Own 3 Ty.int (some ⟨g, 0, none⟩) cv (vars.set ka 0)]) := by
 refine enter Tryz.func78 rfl Tryz.ntmps78 rfl fun _ => ?_
 refine GX.wp_R ?_; intros
 refine GX.drawn1 (GX.Own 3 Ty.int (some ⟨g, 0, none⟩) cv vars) (fun j => !(List.contains [13] j)) [(0, true), (1, true), (2, true), (3, true), (4, true), (5, true), (6, true), (7, true), (8, true), (9, true), (10, true), (11, false), (12, true), (13, false)] rfl (by kernel_rfl) (by kernel_rfl) GX.sA ?_; intro wd F hW hR
 refine GX.wp_T ?_; intros
 try rw [hka]
 try rw [hkb]
 try rw [hj]
 refine GX.wp_T ?_; intros
 try rw [hj]
 refine GX.wp_T ?_; intros
 refine GX.gow ?_
 refine (cl (radd_f tm km vm p c q haf l x hn hb gr rl hrh j y hy wb h) fun s => ?_)
 try dsimp only
 refine GX.wp_T ?_; intros
 refine GX.unpin (GX.Own 3 Ty.int (some ⟨g, 0, none⟩) cv vars) ?_
 refine GX.wp_T ?_; intros
 refine GX.wp_R ?_; intros
 exact rt1 () rfl
theorem rmem11t (tm : RTg) (km : MK) (vm : MV) (p : Nat) (c : RefC) (cs : List Value) (i : Ins) (ho : i.op = 11) (g cv : Nat) (vars : List Int) (hL : c.L.length ≤ 900000000) (ka : Nat) (hka : i.a = (ka : Int)) (hla : ka < vars.length) (wa : Int) (hwa : vars[ka]? = some wa) (q : Nat) (haf : vm.af = some ⟨q, 0, none⟩) (l : List RFr) (x : RFr) (hn : vm.nf = l.length + 1) (hb : l.length ≤ 1000) (gr : Nat) (rl : List Int) (hrh : x.rh = (some ⟨gr, 0, none⟩, rl.length, rl.length)) (j : Nat) (hj : i.n = (j : Int)) (y : Int) (hy : rl[j]? = some y) (C : Layout) (hC : tm.classes[j]? = some C) (h : hasB c.B (if (j : Int) ∈ glob tm then 1 else y) = true) :
  Does Tryz.prog 78 [.pointer (some ⟨p, 0, none⟩), .agg cs.toArray, .slice (some ⟨g, 0, none⟩) vars.length cv] [Ag tyIns cs i, Sl Ty.int km.aL km.cL (glob tm), Sl tyLayout km.aC km.cC tm.classes, Sl tyUnt km.aU km.cU tm.units] [RowR p 74 [.slice km.aC tm.classes.length km.cC, .slice km.aG tm.globals.length km.cG, .slice km.aU tm.units.length km.cU, .int .i64 tm.main, .slice km.aL (glob tm).length km.cL, .slice vm.ai vm.ni vm.ci, .slice c.aR c.B.length c.cR, .slice c.aL c.L.length c.cL, .int .i64 c.peak, .int .i64 c.most, .slice (some ⟨km.gb, 0, none⟩) tm.globals.length tm.globals.length, .slice vm.af vm.nf vm.cf, .int .i64 vm.en, .int .i64 vm.code, .slice vm.ao vm.no vm.co, .int .i64 vm.steps, .int .i64 vm.slack], GX.Own 4 Ty.bool c.aR c.cR c.B, GX.Own 139 tyThing c.aL c.cL (c.L.map thg), Owns 3 Ty.int (c.L.map (fun x : Th => x.2)), GX.Own 98 tyRFr vm.af vm.cf (l ++ [x]), GX.Own 3 Ty.int (some ⟨gr, 0, none⟩) rl.length rl, GX.Own 3 Ty.int (some ⟨g, 0, none⟩) cv vars] (fun _ : Nat × Option Addr × Nat => .int .i64 0) (fun _ => [])
   (fun s => [RowR p 74 [.slice km.aC tm.classes.length km.cC, .slice km.aG tm.globals.length km.cG, .slice km.aU tm.units.length km.cU, .int .i64 tm.main, .slice km.aL (glob tm).length km.cL, .slice vm.ai vm.ni vm.ci, .slice c.aR c.B.length c.cR, .slice s.2.1 (RefC.mk c.aR c.cR c.B s.2.1 s.2.2 (c.L ++ [((if (j : Int) ∈ glob tm then 1 else y), some ⟨s.1, 0, none⟩, cells ((C.refs.length : Nat) : Int), List.replicate (cells ((C.refs.length : Nat) : Int)) 0)]) c.peak (max c.most (nowN c.B (c.L.map row ++ [((if (j : Int) ∈ glob tm then 1 else y), List.replicate (cells ((C.refs.length : Nat) : Int)) 0)]) : Int))).L.length s.2.2, .int .i64 c.peak, .int .i64 (max c.most (nowN c.B (c.L.map row ++ [((if (j : Int) ∈ glob tm then 1 else y), List.replicate (cells ((C.refs.length : Nat) : Int)) 0)]) : Int)), .slice (some ⟨km.gb, 0, none⟩) tm.globals.length tm.globals.length, .slice vm.af vm.nf vm.cf, .int .i64 vm.en, .int .i64 vm.code, .slice vm.ao vm.no vm.co, .int .i64 vm.steps, .int .i64 vm.slack], GX.Own 4 Ty.bool c.aR c.cR c.B, GX.Own 139 tyThing s.2.1 s.2.2 ((RefC.mk c.aR c.cR c.B s.2.1 s.2.2 (c.L ++ [((if (j : Int) ∈ glob tm then 1 else y), some ⟨s.1, 0, none⟩, cells ((C.refs.length : Nat) : Int), List.replicate (cells ((C.refs.length : Nat) : Int)) 0)]) c.peak (max c.most (nowN c.B (c.L.map row ++ [((if (j : Int) ∈ glob tm then 1 else y), List.replicate (cells ((C.refs.length : Nat) : Int)) 0)]) : Int))).L.map thg), Owns 3 Ty.int ((RefC.mk c.aR c.cR c.B s.2.1 s.2.2 (c.L ++ [((if (j : Int) ∈ glob tm then 1 else y), some ⟨s.1, 0, none⟩, cells ((C.refs.length : Nat) : Int), List.replicate (cells ((C.refs.length : Nat) : Int)) 0)]) c.peak (max c.most (nowN c.B (c.L.map row ++ [((if (j : Int) ∈ glob tm then 1 else y), List.replicate (cells ((C.refs.length : Nat) : Int)) 0)]) : Int))).L.map (fun x : Th => x.2)), GX.Own 98 tyRFr vm.af vm.cf (l ++ [x]), GX.Own 3 Ty.int (some ⟨gr, 0, none⟩) rl.length rl, GX.Own 3 Ty.int (some ⟨g, 0, none⟩) cv (vars.set ka ((c.L.length + 1 : Nat) : Int))]) := by
 refine enter Tryz.func78 rfl Tryz.ntmps78 rfl fun _ => ?_
 refine GX.wp_R ?_; intros
 refine GX.drawnT1 (RowR p 74 _) (fun j => !(List.contains [17, 19] j)) (.br [(0, true), (1, true), (3, true), (4, true), (5, true), (6, true), (7, true), (8, true), (9, true), (10, true), (11, true), (12, true), (13, true), (14, true), (15, true), (16, true)] (.alt 2 (.lin [(17, false), (18, true), (19, false)]) (.alt 17 (.lin [(2, false), (18, true), (19, false)]) .nil))) (by kernel_rfl) (by kernel_rfl) GX.sA ?_; intro wd F hW hR
 refine GX.wp_T ?_; intros
 try rw [hj]
 refine GX.wp_T ?_; intros
 try rw [hj]
 refine GX.wp_T ?_; intros
 refine GX.treeA ?_ (GX.treeO ?_)
 ·refine GX.ldK ?_
  refine GX.treeL ?_
  refine GX.unpin (RowR p 74 _) ?_
  refine GX.gow ?_
  refine (cl (radd_t tm km vm p c q haf l x hn hb gr rl hrh j y hy ((C.refs.length : Nat) : Int) h hL) fun s => ?_)
  try dsimp only
  refine GX.wp_T ?_; intros
  try rw [hka]
  refine GX.wp_T ?_; intros
  refine GX.wp_R ?_; intros
  exact rt1 s rfl
 ·refine GX.unpin (RowR p 74 _) ?_
  refine GX.gok ?_
  refine (cl (radd_t tm km vm p c q haf l x hn hb gr rl hrh j y hy ((C.refs.length : Nat) : Int) h hL) fun s => ?_)
  try dsimp only
  refine GX.wentF ?_
  refine GX.treeL ?_
  refine GX.ldW ?_
  try rw [hka]
  refine GX.wp_T ?_; intros
  refine GX.wp_R ?_; intros
  exact rt1 s rfl
theorem rmem12t (tm : RTg) (km : MK) (vm : MV) (p : Nat) (c : RefC) (cs : List Value) (i : Ins) (ho : i.op = 12) (g cv : Nat) (vars : List Int) (hL : c.L.length ≤ 900000000) (ka : Nat) (hka : i.a = (ka : Int)) (hla : ka < vars.length) (wa : Int) (hwa : vars[ka]? = some wa) (kb : Nat) (hkb : i.b = (kb : Int)) (hlb : kb < vars.length) (wb : Int) (hwb : vars[kb]? = some wb) (q : Nat) (haf : vm.af = some ⟨q, 0, none⟩) (l : List RFr) (x : RFr) (hn : vm.nf = l.length + 1) (hb : l.length ≤ 1000) (gr : Nat) (rl : List Int) (hrh : x.rh = (some ⟨gr, 0, none⟩, rl.length, rl.length)) (j : Nat) (hj : i.n = (j : Int)) (y : Int) (hy : rl[j]? = some y) (hw1 : ¬ wb < 0) (hw2 : ¬ 50 < wb) (h : hasB c.B (if (j : Int) ∈ glob tm then 1 else y) = true) :
  Does Tryz.prog 78 [.pointer (some ⟨p, 0, none⟩), .agg cs.toArray, .slice (some ⟨g, 0, none⟩) vars.length cv] [Ag tyIns cs i, Sl Ty.int km.aL km.cL (glob tm), Sl tyLayout km.aC km.cC tm.classes, Sl tyUnt km.aU km.cU tm.units] [RowR p 74 [.slice km.aC tm.classes.length km.cC, .slice km.aG tm.globals.length km.cG, .slice km.aU tm.units.length km.cU, .int .i64 tm.main, .slice km.aL (glob tm).length km.cL, .slice vm.ai vm.ni vm.ci, .slice c.aR c.B.length c.cR, .slice c.aL c.L.length c.cL, .int .i64 c.peak, .int .i64 c.most, .slice (some ⟨km.gb, 0, none⟩) tm.globals.length tm.globals.length, .slice vm.af vm.nf vm.cf, .int .i64 vm.en, .int .i64 vm.code, .slice vm.ao vm.no vm.co, .int .i64 vm.steps, .int .i64 vm.slack], GX.Own 4 Ty.bool c.aR c.cR c.B, GX.Own 139 tyThing c.aL c.cL (c.L.map thg), Owns 3 Ty.int (c.L.map (fun x : Th => x.2)), GX.Own 98 tyRFr vm.af vm.cf (l ++ [x]), GX.Own 3 Ty.int (some ⟨gr, 0, none⟩) rl.length rl, GX.Own 3 Ty.int (some ⟨g, 0, none⟩) cv vars] (fun _ : Nat × Option Addr × Nat => .int .i64 0) (fun _ => [])
   (fun s => [RowR p 74 [.slice km.aC tm.classes.length km.cC, .slice km.aG tm.globals.length km.cG, .slice km.aU tm.units.length km.cU, .int .i64 tm.main, .slice km.aL (glob tm).length km.cL, .slice vm.ai vm.ni vm.ci, .slice c.aR c.B.length c.cR, .slice s.2.1 (RefC.mk c.aR c.cR c.B s.2.1 s.2.2 (c.L ++ [((if (j : Int) ∈ glob tm then 1 else y), some ⟨s.1, 0, none⟩, cells wb, List.replicate (cells wb) 0)]) c.peak (max c.most (nowN c.B (c.L.map row ++ [((if (j : Int) ∈ glob tm then 1 else y), List.replicate (cells wb) 0)]) : Int))).L.length s.2.2, .int .i64 c.peak, .int .i64 (max c.most (nowN c.B (c.L.map row ++ [((if (j : Int) ∈ glob tm then 1 else y), List.replicate (cells wb) 0)]) : Int)), .slice (some ⟨km.gb, 0, none⟩) tm.globals.length tm.globals.length, .slice vm.af vm.nf vm.cf, .int .i64 vm.en, .int .i64 vm.code, .slice vm.ao vm.no vm.co, .int .i64 vm.steps, .int .i64 vm.slack], GX.Own 4 Ty.bool c.aR c.cR c.B, GX.Own 139 tyThing s.2.1 s.2.2 ((RefC.mk c.aR c.cR c.B s.2.1 s.2.2 (c.L ++ [((if (j : Int) ∈ glob tm then 1 else y), some ⟨s.1, 0, none⟩, cells wb, List.replicate (cells wb) 0)]) c.peak (max c.most (nowN c.B (c.L.map row ++ [((if (j : Int) ∈ glob tm then 1 else y), List.replicate (cells wb) 0)]) : Int))).L.map thg), Owns 3 Ty.int ((RefC.mk c.aR c.cR c.B s.2.1 s.2.2 (c.L ++ [((if (j : Int) ∈ glob tm then 1 else y), some ⟨s.1, 0, none⟩, cells wb, List.replicate (cells wb) 0)]) c.peak (max c.most (nowN c.B (c.L.map row ++ [((if (j : Int) ∈ glob tm then 1 else y), List.replicate (cells wb) 0)]) : Int))).L.map (fun x : Th => x.2)), GX.Own 98 tyRFr vm.af vm.cf (l ++ [x]), GX.Own 3 Ty.int (some ⟨gr, 0, none⟩) rl.length rl, GX.Own 3 Ty.int (some ⟨g, 0, none⟩) cv (vars.set ka ((c.L.length + 1 : Nat) : Int))]) := by
 refine enter Tryz.func78 rfl Tryz.ntmps78 rfl fun _ => ?_
 refine GX.wp_R ?_; intros
 refine GX.drawn1 (GX.Own 3 Ty.int (some ⟨g, 0, none⟩) cv vars) (fun j => !(List.contains [13] j)) [(0, true), (1, true), (2, true), (3, true), (4, true), (5, true), (6, true), (7, true), (8, true), (9, true), (10, true), (11, false), (12, true), (13, false)] rfl (by kernel_rfl) (by kernel_rfl) GX.sA ?_; intro wd F hW hR
 refine GX.wp_T ?_; intros
 try rw [hka]
 try rw [hkb]
 try rw [hj]
 refine GX.wp_T ?_; intros
 try rw [hj]
 refine GX.wp_T ?_; intros
 refine GX.gow ?_
 refine (cl (radd_t tm km vm p c q haf l x hn hb gr rl hrh j y hy wb h hL) fun s => ?_)
 try dsimp only
 refine GX.wp_T ?_; intros
 refine GX.unpin (GX.Own 3 Ty.int (some ⟨g, 0, none⟩) cv vars) ?_
 refine GX.wp_T ?_; intros
 refine GX.wp_R ?_; intros
 exact rt1 s rfl
theorem rmem12n (tm : RTg) (km : MK) (vm : MV) (p : Nat) (c : RefC) (cs : List Value) (i : Ins) (ho : i.op = 12) (g cv : Nat) (vars : List Int) (kb : Nat) (hkb : i.b = (kb : Int)) (hlb : kb < vars.length) (wb : Int) (hwb : vars[kb]? = some wb) (hw1 : wb < 0) :
  Does Tryz.prog 78 [.pointer (some ⟨p, 0, none⟩), .agg cs.toArray, .slice (some ⟨g, 0, none⟩) vars.length cv] [Ag tyIns cs i] [RowR p 74 [.slice km.aC tm.classes.length km.cC, .slice km.aG tm.globals.length km.cG, .slice km.aU tm.units.length km.cU, .int .i64 tm.main, .slice km.aL (glob tm).length km.cL, .slice vm.ai vm.ni vm.ci, .slice c.aR c.B.length c.cR, .slice c.aL c.L.length c.cL, .int .i64 c.peak, .int .i64 c.most, .slice (some ⟨km.gb, 0, none⟩) tm.globals.length tm.globals.length, .slice vm.af vm.nf vm.cf, .int .i64 vm.en, .int .i64 vm.code, .slice vm.ao vm.no vm.co, .int .i64 vm.steps, .int .i64 vm.slack], GX.Own 4 Ty.bool c.aR c.cR c.B, GX.Own 139 tyThing c.aL c.cL (c.L.map thg), Owns 3 Ty.int (c.L.map (fun x : Th => x.2)), GX.Own 3 Ty.int (some ⟨g, 0, none⟩) cv vars] (fun _ : Unit => .int .i64 4) (fun _ => [])
   (fun _ => [RowR p 74 [.slice km.aC tm.classes.length km.cC, .slice km.aG tm.globals.length km.cG, .slice km.aU tm.units.length km.cU, .int .i64 tm.main, .slice km.aL (glob tm).length km.cL, .slice vm.ai vm.ni vm.ci, .slice c.aR c.B.length c.cR, .slice c.aL c.L.length c.cL, .int .i64 c.peak, .int .i64 c.most, .slice (some ⟨km.gb, 0, none⟩) tm.globals.length tm.globals.length, .slice vm.af vm.nf vm.cf, .int .i64 vm.en, .int .i64 vm.code, .slice vm.ao vm.no vm.co, .int .i64 vm.steps, .int .i64 vm.slack], GX.Own 4 Ty.bool c.aR c.cR c.B, GX.Own 139 tyThing c.aL c.cL (c.L.map thg), Owns 3 Ty.int (c.L.map (fun x : Th => x.2)), GX.Own 3 Ty.int (some ⟨g, 0, none⟩) cv vars]) := by
 refine enter Tryz.func78 rfl Tryz.ntmps78 rfl fun _ => ?_
 refine GX.wp_R ?_; intros
 try rw [hkb]
 refine GX.wp_R ?_; intros
 exact rt1 () rfl
theorem rmem12m (tm : RTg) (km : MK) (vm : MV) (p : Nat) (c : RefC) (cs : List Value) (i : Ins) (ho : i.op = 12) (g cv : Nat) (vars : List Int) (kb : Nat) (hkb : i.b = (kb : Int)) (hlb : kb < vars.length) (wb : Int) (hwb : vars[kb]? = some wb) (hw1 : ¬ wb < 0) (hw2 : 50 < wb) :
  Does Tryz.prog 78 [.pointer (some ⟨p, 0, none⟩), .agg cs.toArray, .slice (some ⟨g, 0, none⟩) vars.length cv] [Ag tyIns cs i] [RowR p 74 [.slice km.aC tm.classes.length km.cC, .slice km.aG tm.globals.length km.cG, .slice km.aU tm.units.length km.cU, .int .i64 tm.main, .slice km.aL (glob tm).length km.cL, .slice vm.ai vm.ni vm.ci, .slice c.aR c.B.length c.cR, .slice c.aL c.L.length c.cL, .int .i64 c.peak, .int .i64 c.most, .slice (some ⟨km.gb, 0, none⟩) tm.globals.length tm.globals.length, .slice vm.af vm.nf vm.cf, .int .i64 vm.en, .int .i64 vm.code, .slice vm.ao vm.no vm.co, .int .i64 vm.steps, .int .i64 vm.slack], GX.Own 4 Ty.bool c.aR c.cR c.B, GX.Own 139 tyThing c.aL c.cL (c.L.map thg), Owns 3 Ty.int (c.L.map (fun x : Th => x.2)), GX.Own 3 Ty.int (some ⟨g, 0, none⟩) cv vars] (fun _ : Unit => .int .i64 4) (fun _ => [])
   (fun _ => [RowR p 74 [.slice km.aC tm.classes.length km.cC, .slice km.aG tm.globals.length km.cG, .slice km.aU tm.units.length km.cU, .int .i64 tm.main, .slice km.aL (glob tm).length km.cL, .slice vm.ai vm.ni vm.ci, .slice c.aR c.B.length c.cR, .slice c.aL c.L.length c.cL, .int .i64 c.peak, .int .i64 c.most, .slice (some ⟨km.gb, 0, none⟩) tm.globals.length tm.globals.length, .slice vm.af vm.nf vm.cf, .int .i64 vm.en, .int .i64 vm.code, .slice vm.ao vm.no vm.co, .int .i64 vm.steps, .int .i64 vm.slack], GX.Own 4 Ty.bool c.aR c.cR c.B, GX.Own 139 tyThing c.aL c.cL (c.L.map thg), Owns 3 Ty.int (c.L.map (fun x : Th => x.2)), GX.Own 3 Ty.int (some ⟨g, 0, none⟩) cv vars]) := by
 refine enter Tryz.func78 rfl Tryz.ntmps78 rfl fun _ => ?_
 refine GX.wp_R ?_; intros
 try rw [hkb]
 refine GX.wp_R ?_; intros
 exact rt1 () rfl
end Go.Proofs.YtomadjefdghliaaGreat
