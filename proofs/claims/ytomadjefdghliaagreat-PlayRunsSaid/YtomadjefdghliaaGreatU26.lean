import Derived.Test.YtomadjefdghliaaGreatU10
import Derived.Test.YtomadjefdghliaaGreatU13
import Derived.Test.YtomadjefdghliaaGreatU18
import Derived.Test.YtomadjefdghliaaGreatU20
import Derived.Test.YtomadjefdghliaaGreatU25
namespace Go.Proofs.YtomadjefdghliaaGreat
open Go Go.RR Go.RX Go.GX
attribute [local irreducible] wpList Code.wp wpPlan Exit.then Exit.inBlock bodyPost NoPanic Went GX.Post GX.Again GX.Meet GX.RowR GX.Own GX.Owns GX.Box GX.Sl GX.Pt GX.Ag GX.MapR GX.Kept GX.Pin
theorem in_spec (ao : Option Addr) (cap : Nat) (l : List Int) (v : Int) : Does Tryz.prog 86 [.slice ao l.length cap, .int .i64 v] [Sl Ty.int ao cap l] []
  (fun _ : Unit => .bool (decide (v ∈ l))) (fun _ => []) (fun _ => []) := by
 refine enter Tryz.func86 rfl Tryz.ntmps86 rfl fun b => ?_
 refine sln ao fun h1 h2 _ => ?_
 repeat (first | (apply GX.s_list; first | apply GX.nil | (refine GX.o ?_; first | (apply GX.k_load; first | refine GX.lr ?_ | refine GX.lrA ?_ | refine GX.ln ?_ | refine GX.lb ?_ | refine GX.lh ?_ | (refine GX.ls ?_; intro ao cap _ _) | (refine GX.lA ?_; intro cs) | (refine GX.l0 ?_; intro cs) | refine GX.o1n ?_ | refine GX.o1b ?_ | refine GX.o1h ?_ | (refine GX.o1s ?_; intro ao cap _ _) | refine GX.omn ?_ | refine GX.omb ?_ | refine GX.omh ?_ | (refine GX.oms ?_; intro ao cap _ _) | refine GX.ofn ?_ | refine GX.ofb ?_ | refine GX.ofh ?_ | (refine GX.ofs ?_; intro ao cap _ _) | (refine GX.oA ?_; intro cs)) | (apply GX.k_move; refine GX.m ?_) | (apply GX.k_indexAddr; first | refine GX.io1 ?_ | refine GX.ioh ?_ | refine GX.i1 ?_ | refine GX.ih ?_ | (refine GX.ix ?_; intro bl o)) | (apply GX.k_binOp_lss; refine GX.b_lss ?_) | (apply GX.k_binOp_add; first | refine GX.b_inc ?_ | refine GX.b_add ?_ | refine GX.b_addw ?_) | (apply GX.k_assign; refine GX.a ?_) | (apply GX.k_call; refine GX.c_len ?_) | (apply GX.k_binOp_eql; first | refine GX.b_eql ?_ | refine GX.b_pn ?_ | refine GX.b_nn ?_ | refine GX.b_snn ?_ | refine GX.b_sns ?_ | refine GX.b_eqls ?_ | refine GX.b_eqltf ?_ | refine GX.b_eqlft ?_ | refine GX.b_eqlb ?_)) | refine GX.gt ?_ | refine GX.gf ?_ | refine GX.gbt ?_ | refine GX.gbf ?_ | refine GX.un ?_ | refine GX.un0 ?_) | apply GX.then_normal | apply GX.seq | apply GX.region | (apply GX.s_cond; first | refine GX.ct ?_ | refine GX.cf ?_ | refine GX.cdf ?_ | refine GX.cdt ?_ | refine GX.cbt ?_ | refine GX.cbf ?_) | apply GX.skip | apply GX.block | apply GX.inBlock_normal | apply GX.exit | apply GX.then_exit | apply GX.inBlock_exit | refine GX.ibo ?_ | apply GX.ret | apply GX.then_ret | apply GX.inBlock_ret)
 refine GX.loop (σ := Nat) (fun i => [(0, .slice ao l.length cap), (1, .int .i64 v), (5, .int .i64 (i : Int))]) (fun _ => []) (fun _ => [])
  (fun i => i ≤ l.length ∧ v ∉ l.take i) (fun i => l.length - i) 0 ⟨rfl, rfl, rfl, trivial⟩ ⟨by omega, by simp⟩ (fun i hi => ?_)
 obtain ⟨hi, hn⟩ := hi
 by_cases hlt : i < l.length
 ·obtain ⟨x, hx⟩ := get_lt hlt
  by_cases hxv : x = v
  ·repeat (first | (apply GX.s_list; first | apply GX.nil | (refine GX.o ?_; first | (apply GX.k_load; first | refine GX.lr ?_ | refine GX.lrA ?_ | refine GX.ln ?_ | refine GX.lb ?_ | refine GX.lh ?_ | (refine GX.ls ?_; intro ao cap _ _) | (refine GX.lA ?_; intro cs) | (refine GX.l0 ?_; intro cs) | refine GX.o1n ?_ | refine GX.o1b ?_ | refine GX.o1h ?_ | (refine GX.o1s ?_; intro ao cap _ _) | refine GX.omn ?_ | refine GX.omb ?_ | refine GX.omh ?_ | (refine GX.oms ?_; intro ao cap _ _) | refine GX.ofn ?_ | refine GX.ofb ?_ | refine GX.ofh ?_ | (refine GX.ofs ?_; intro ao cap _ _) | (refine GX.oA ?_; intro cs)) | (apply GX.k_move; refine GX.m ?_) | (apply GX.k_indexAddr; first | refine GX.io1 ?_ | refine GX.ioh ?_ | refine GX.i1 ?_ | refine GX.ih ?_ | (refine GX.ix ?_; intro bl o)) | (apply GX.k_binOp_lss; refine GX.b_lss ?_) | (apply GX.k_binOp_add; first | refine GX.b_inc ?_ | refine GX.b_add ?_ | refine GX.b_addw ?_) | (apply GX.k_assign; refine GX.a ?_) | (apply GX.k_call; refine GX.c_len ?_) | (apply GX.k_binOp_eql; first | refine GX.b_eql ?_ | refine GX.b_pn ?_ | refine GX.b_nn ?_ | refine GX.b_snn ?_ | refine GX.b_sns ?_ | refine GX.b_eqls ?_ | refine GX.b_eqltf ?_ | refine GX.b_eqlft ?_ | refine GX.b_eqlb ?_)) | refine GX.gt ?_ | refine GX.gf ?_ | refine GX.gbt ?_ | refine GX.gbf ?_ | refine GX.un ?_ | refine GX.un0 ?_) | apply GX.then_normal | apply GX.seq | apply GX.region | (apply GX.s_cond; first | refine GX.ct ?_ | refine GX.cf ?_ | refine GX.cdf ?_ | refine GX.cdt ?_ | refine GX.cbt ?_ | refine GX.cbf ?_) | apply GX.skip | apply GX.block | apply GX.inBlock_normal | apply GX.exit | apply GX.then_exit | apply GX.inBlock_exit | refine GX.ibo ?_ | apply GX.ret | apply GX.then_ret | apply GX.inBlock_ret)
   exact rt1 () (congrArg Value.bool (decide_eq_true (hxv ▸ List.mem_of_getElem? hx)))
  ·repeat (first | (apply GX.s_list; first | apply GX.nil | (refine GX.o ?_; first | (apply GX.k_load; first | refine GX.lr ?_ | refine GX.lrA ?_ | refine GX.ln ?_ | refine GX.lb ?_ | refine GX.lh ?_ | (refine GX.ls ?_; intro ao cap _ _) | (refine GX.lA ?_; intro cs) | (refine GX.l0 ?_; intro cs) | refine GX.o1n ?_ | refine GX.o1b ?_ | refine GX.o1h ?_ | (refine GX.o1s ?_; intro ao cap _ _) | refine GX.omn ?_ | refine GX.omb ?_ | refine GX.omh ?_ | (refine GX.oms ?_; intro ao cap _ _) | refine GX.ofn ?_ | refine GX.ofb ?_ | refine GX.ofh ?_ | (refine GX.ofs ?_; intro ao cap _ _) | (refine GX.oA ?_; intro cs)) | (apply GX.k_move; refine GX.m ?_) | (apply GX.k_indexAddr; first | refine GX.io1 ?_ | refine GX.ioh ?_ | refine GX.i1 ?_ | refine GX.ih ?_ | (refine GX.ix ?_; intro bl o)) | (apply GX.k_binOp_lss; refine GX.b_lss ?_) | (apply GX.k_binOp_add; first | refine GX.b_inc ?_ | refine GX.b_add ?_ | refine GX.b_addw ?_) | (apply GX.k_assign; refine GX.a ?_) | (apply GX.k_call; refine GX.c_len ?_) | (apply GX.k_binOp_eql; first | refine GX.b_eql ?_ | refine GX.b_pn ?_ | refine GX.b_nn ?_ | refine GX.b_snn ?_ | refine GX.b_sns ?_ | refine GX.b_eqls ?_ | refine GX.b_eqltf ?_ | refine GX.b_eqlft ?_ | refine GX.b_eqlb ?_)) | refine GX.gt ?_ | refine GX.gf ?_ | refine GX.gbt ?_ | refine GX.gbf ?_ | refine GX.un ?_ | refine GX.un0 ?_) | apply GX.then_normal | apply GX.seq | apply GX.region | (apply GX.s_cond; first | refine GX.ct ?_ | refine GX.cf ?_ | refine GX.cdf ?_ | refine GX.cdt ?_ | refine GX.cbt ?_ | refine GX.cbf ?_) | apply GX.skip | apply GX.block | apply GX.inBlock_normal | apply GX.exit | apply GX.then_exit | apply GX.inBlock_exit | refine GX.ibo ?_ | apply GX.ret | apply GX.then_ret | apply GX.inBlock_ret)
   refine again (i + 1) ⟨rfl, rfl, rfl, trivial⟩ ⟨by omega, fun h => ?_⟩ (by omega)
   rw [List.take_add_one, hx, List.mem_append] at h
   rcases h with h | h
   ·exact hn h
   ·simp at h; exact hxv h.symm
 ·have hil : i = l.length := by omega
  subst hil
  rw [List.take_length] at hn
  repeat (first | (apply GX.s_list; first | apply GX.nil | (refine GX.o ?_; first | (apply GX.k_load; first | refine GX.lr ?_ | refine GX.lrA ?_ | refine GX.ln ?_ | refine GX.lb ?_ | refine GX.lh ?_ | (refine GX.ls ?_; intro ao cap _ _) | (refine GX.lA ?_; intro cs) | (refine GX.l0 ?_; intro cs) | refine GX.o1n ?_ | refine GX.o1b ?_ | refine GX.o1h ?_ | (refine GX.o1s ?_; intro ao cap _ _) | refine GX.omn ?_ | refine GX.omb ?_ | refine GX.omh ?_ | (refine GX.oms ?_; intro ao cap _ _) | refine GX.ofn ?_ | refine GX.ofb ?_ | refine GX.ofh ?_ | (refine GX.ofs ?_; intro ao cap _ _) | (refine GX.oA ?_; intro cs)) | (apply GX.k_move; refine GX.m ?_) | (apply GX.k_indexAddr; first | refine GX.io1 ?_ | refine GX.ioh ?_ | refine GX.i1 ?_ | refine GX.ih ?_ | (refine GX.ix ?_; intro bl o)) | (apply GX.k_binOp_lss; refine GX.b_lss ?_) | (apply GX.k_binOp_add; first | refine GX.b_inc ?_ | refine GX.b_add ?_ | refine GX.b_addw ?_) | (apply GX.k_assign; refine GX.a ?_) | (apply GX.k_call; refine GX.c_len ?_) | (apply GX.k_binOp_eql; first | refine GX.b_eql ?_ | refine GX.b_pn ?_ | refine GX.b_nn ?_ | refine GX.b_snn ?_ | refine GX.b_sns ?_ | refine GX.b_eqls ?_ | refine GX.b_eqltf ?_ | refine GX.b_eqlft ?_ | refine GX.b_eqlb ?_)) | refine GX.gt ?_ | refine GX.gf ?_ | refine GX.gbt ?_ | refine GX.gbf ?_ | refine GX.un ?_ | refine GX.un0 ?_) | apply GX.then_normal | apply GX.seq | apply GX.region | (apply GX.s_cond; first | refine GX.ct ?_ | refine GX.cf ?_ | refine GX.cdf ?_ | refine GX.cdt ?_ | refine GX.cbt ?_ | refine GX.cbf ?_) | apply GX.skip | apply GX.block | apply GX.inBlock_normal | apply GX.exit | apply GX.then_exit | apply GX.inBlock_exit | refine GX.ibo ?_ | apply GX.ret | apply GX.then_ret | apply GX.inBlock_ret)
  exact rt1 () (congrArg Value.bool (decide_eq_false hn))
end Go.Proofs.YtomadjefdghliaaGreat
namespace Go.Proofs.YtomadjefdghliaaGreat
open Go Go.RR Go.RX Go.GX Go.Api Go.RtM
attribute [local irreducible] wpList Code.wp wpPlan Exit.then Exit.inBlock bodyPost NoPanic Went GX.Post GX.Again GX.Meet GX.RowR GX.Own GX.Owns GX.Box GX.Sl GX.Pt GX.Ag GX.MapR GX.Star GX.Kept GX.Pin wpT GoK AtEnd Both
structure RFr where
 u : Int
 pc : Int
 into : Int
 vh : Option Addr × Nat × Nat
 rh : Option Addr × Nat × Nat
def tyRFr : Ty RFr := Ty.co (Ty.pair Ty.int (Ty.pair Ty.int (Ty.pair Ty.int (Ty.pair Ty.hdr (Ty.pair Ty.hdr Ty.unit))))) (fun y => (y.u, y.pc, y.into, y.vh, y.rh, ()))
instance : Sub tyRFr 0 Ty.int RFr.u (fun z y => { y with u := z }) := Sub.co (Sub.fst (Sub.whole _)) (fun _ => rfl) (fun _ _ => rfl)
instance : Sub tyRFr 1 Ty.int RFr.pc (fun z y => { y with pc := z }) := Sub.co (Sub.snd (Sub.fst (Sub.whole _))) (fun _ => rfl) (fun _ _ => rfl)
instance : Sub tyRFr 2 Ty.int RFr.into (fun z y => { y with into := z }) := Sub.co (Sub.snd (Sub.snd (Sub.fst (Sub.whole _)))) (fun _ => rfl) (fun _ _ => rfl)
instance : Sub tyRFr 3 Ty.hdr RFr.vh (fun z y => { y with vh := z }) := Sub.co (Sub.snd (Sub.snd (Sub.snd (Sub.fst (Sub.whole _))))) (fun _ => rfl) (fun _ _ => rfl)
instance : Sub tyRFr 4 Ty.hdr RFr.rh (fun z y => { y with rh := z }) := Sub.co (Sub.snd (Sub.snd (Sub.snd (Sub.snd (Sub.fst (Sub.whole _)))))) (fun _ => rfl) (fun _ _ => rfl)
instance utyRFr : UTy Tryz.prog 98 tyRFr ⟨0, 0, 0, (none, 0, 0), (none, 0, 0)⟩ (.agg #[.int .i64 0, .int .i64 0, .int .i64 0, .slice none 0 0, .slice none 0 0]) := ⟨Tryz.zeroValue98, fun F w => co_rd (pair_rd (c1 := [_]) rfl num_rd (pair_rd (c1 := [_]) rfl num_rd (pair_rd (c1 := [_]) rfl num_rd (pair_rd (c1 := [_]) rfl hdr_rd (pair_rd (c1 := [_]) rfl hdr_rd unit_rd)))))⟩
instance rdsRFr {ps : List Pf} {v1 v2 v3 v4 v5 : Value} {x1 x2 x3 : Int} {x4 x5 : Option Addr × Nat × Nat} [OneV v1] [OneV v2] [OneV v3] [OneV v4] [OneV v5] [h1 : Rds ps v1 Ty.int x1] [h2 : Rds ps v2 Ty.int x2] [h3 : Rds ps v3 Ty.int x3] [h4 : Rds ps v4 Ty.hdr x4] [h5 : Rds ps v5 Ty.hdr x5] : Rds ps (.agg #[v1, v2, v3, v4, v5]) tyRFr ⟨x1, x2, x3, x4, x5⟩ :=
 ⟨.of fun F u h => co_rd (pair_rd (c1 := [_]) rfl (rdo (h1.r.as F u h)) (pair_rd (c1 := [_]) rfl (rdo (h2.r.as F u h)) (pair_rd (c1 := [_]) rfl (rdo (h3.r.as F u h)) (pair_rd (c1 := [_]) rfl (rdo (h4.r.as F u h)) (pair_rd (c1 := [_]) rfl (rdo (h5.r.as F u h)) unit_rd)))))⟩
theorem rfault_spec (tm : RTg) (km : MK) (vm : MV) (p : Nat) (c : RefC) : Does Tryz.prog 119 [.pointer (some ⟨p, 0, none⟩)] [] [RowR p 74 [.slice km.aC tm.classes.length km.cC, .slice km.aG tm.globals.length km.cG, .slice km.aU tm.units.length km.cU, .int .i64 tm.main, .slice km.aL (glob tm).length km.cL, .slice vm.ai vm.ni vm.ci, .slice c.aR c.B.length c.cR, .slice c.aL c.L.length c.cL, .int .i64 c.peak, .int .i64 c.most, .slice (some ⟨km.gb, 0, none⟩) tm.globals.length tm.globals.length, .slice vm.af vm.nf vm.cf, .int .i64 vm.en, .int .i64 vm.code, .slice vm.ao vm.no vm.co, .int .i64 vm.steps, .int .i64 vm.slack], GX.Own 4 Ty.bool c.aR c.cR c.B, GX.Own 139 tyThing c.aL c.cL (c.L.map thg), Owns 3 Ty.int (c.L.map (fun x : Th => x.2))] (fun _ : Unit => .tuple #[]) (fun _ => []) (fun _ => [RowR p 74 [.slice km.aC tm.classes.length km.cC, .slice km.aG tm.globals.length km.cG, .slice km.aU tm.units.length km.cU, .int .i64 tm.main, .slice km.aL (glob tm).length km.cL, .slice vm.ai vm.ni vm.ci, .slice c.aR c.B.length c.cR, .slice c.aL c.L.length c.cL, .int .i64 c.peak, .int .i64 c.most, .slice (some ⟨km.gb, 0, none⟩) tm.globals.length tm.globals.length, .slice vm.af vm.nf vm.cf, .int .i64 4, .int .i64 vm.code, .slice vm.ao vm.no vm.co, .int .i64 vm.steps, .int .i64 vm.slack], GX.Own 4 Ty.bool c.aR c.cR c.B, GX.Own 139 tyThing c.aL c.cL (c.L.map thg), Owns 3 Ty.int (c.L.map (fun x : Th => x.2))]) := by
 refine enter Tryz.func119 rfl Tryz.ntmps119 rfl fun _ => ?_
 refine GX.wp_R ?_; intros
 exact en0 ()
def rtrapV (v : MV) (c : Int) : MV := if c = -1 then { v with en := 4 } else if c ≠ 0 then { v with en := 2, code := c } else v
theorem rtrap_spec (tm : RTg) (km : MK) (vm : MV) (p : Nat) (c : RefC) (x : Int) : Does Tryz.prog 79 [.pointer (some ⟨p, 0, none⟩), .int .i64 x] [] [RowR p 74 [.slice km.aC tm.classes.length km.cC, .slice km.aG tm.globals.length km.cG, .slice km.aU tm.units.length km.cU, .int .i64 tm.main, .slice km.aL (glob tm).length km.cL, .slice vm.ai vm.ni vm.ci, .slice c.aR c.B.length c.cR, .slice c.aL c.L.length c.cL, .int .i64 c.peak, .int .i64 c.most, .slice (some ⟨km.gb, 0, none⟩) tm.globals.length tm.globals.length, .slice vm.af vm.nf vm.cf, .int .i64 vm.en, .int .i64 vm.code, .slice vm.ao vm.no vm.co, .int .i64 vm.steps, .int .i64 vm.slack], GX.Own 4 Ty.bool c.aR c.cR c.B, GX.Own 139 tyThing c.aL c.cL (c.L.map thg), Owns 3 Ty.int (c.L.map (fun x : Th => x.2))] (fun _ : Unit => .tuple #[]) (fun _ => []) (fun _ => [RowR p 74 [.slice km.aC tm.classes.length km.cC, .slice km.aG tm.globals.length km.cG, .slice km.aU tm.units.length km.cU, .int .i64 tm.main, .slice km.aL (glob tm).length km.cL, .slice (rtrapV vm x).ai (rtrapV vm x).ni (rtrapV vm x).ci, .slice c.aR c.B.length c.cR, .slice c.aL c.L.length c.cL, .int .i64 c.peak, .int .i64 c.most, .slice (some ⟨km.gb, 0, none⟩) tm.globals.length tm.globals.length, .slice (rtrapV vm x).af (rtrapV vm x).nf (rtrapV vm x).cf, .int .i64 (rtrapV vm x).en, .int .i64 (rtrapV vm x).code, .slice (rtrapV vm x).ao (rtrapV vm x).no (rtrapV vm x).co, .int .i64 (rtrapV vm x).steps, .int .i64 (rtrapV vm x).slack], GX.Own 4 Ty.bool c.aR c.cR c.B, GX.Own 139 tyThing c.aL c.cL (c.L.map thg), Owns 3 Ty.int (c.L.map (fun x : Th => x.2))]) := by
 refine enter Tryz.func79 rfl Tryz.ntmps79 rfl fun _ => ?_
 by_cases h0 : x = -1
 ·rw [show rtrapV vm x = { vm with en := 4 } from if_pos h0]
  refine GX.wp_R ?_; intros
  exact en0 ()
 by_cases h1 : x ≠ 0
 ·rw [show rtrapV vm x = { vm with en := 2, code := x } by unfold rtrapV; rw [if_neg h0, if_pos h1]]
  refine GX.wp_R ?_; intros
  exact en0 ()
 ·rw [show rtrapV vm x = vm by unfold rtrapV; rw [if_neg h0, if_neg h1]]
  refine GX.wp_R ?_; intros
  exact en0 ()
theorem rtop_spec (tm : RTg) (km : MK) (vm : MV) (p : Nat) (c : RefC) (q : Nat) (haf : vm.af = some ⟨q, 0, none⟩) (n : Nat) (hn : vm.nf = n + 1) (hb : n ≤ 1000) : Does Tryz.prog 71 [.pointer (some ⟨p, 0, none⟩)] [] [RowR p 74 [.slice km.aC tm.classes.length km.cC, .slice km.aG tm.globals.length km.cG, .slice km.aU tm.units.length km.cU, .int .i64 tm.main, .slice km.aL (glob tm).length km.cL, .slice vm.ai vm.ni vm.ci, .slice c.aR c.B.length c.cR, .slice c.aL c.L.length c.cL, .int .i64 c.peak, .int .i64 c.most, .slice (some ⟨km.gb, 0, none⟩) tm.globals.length tm.globals.length, .slice vm.af vm.nf vm.cf, .int .i64 vm.en, .int .i64 vm.code, .slice vm.ao vm.no vm.co, .int .i64 vm.steps, .int .i64 vm.slack], GX.Own 4 Ty.bool c.aR c.cR c.B, GX.Own 139 tyThing c.aL c.cL (c.L.map thg), Owns 3 Ty.int (c.L.map (fun x : Th => x.2))] (fun _ : Unit => .pointer (some ⟨q, n * 5, none⟩)) (fun _ => []) (fun _ => [RowR p 74 [.slice km.aC tm.classes.length km.cC, .slice km.aG tm.globals.length km.cG, .slice km.aU tm.units.length km.cU, .int .i64 tm.main, .slice km.aL (glob tm).length km.cL, .slice vm.ai vm.ni vm.ci, .slice c.aR c.B.length c.cR, .slice c.aL c.L.length c.cL, .int .i64 c.peak, .int .i64 c.most, .slice (some ⟨km.gb, 0, none⟩) tm.globals.length tm.globals.length, .slice vm.af vm.nf vm.cf, .int .i64 vm.en, .int .i64 vm.code, .slice vm.ao vm.no vm.co, .int .i64 vm.steps, .int .i64 vm.slack], GX.Own 4 Ty.bool c.aR c.cR c.B, GX.Own 139 tyThing c.aL c.cL (c.L.map thg), Owns 3 Ty.int (c.L.map (fun x : Th => x.2))]) := by
 refine enter Tryz.func71 rfl Tryz.ntmps71 rfl fun _ => ?_
 rw [haf, hn]
 refine GX.wp_R ?_; intros
 refine GX.drawn1 (RowR p 74 _) (fun j => !(List.contains [] j)) [(0, true), (1, true), (2, true), (3, true), (4, true), (5, true), (6, true), (7, true), (8, true), (9, true), (10, true), (11, true)] rfl (by kernel_rfl) (by kernel_rfl) GX.sA ?_; intro wd F hW hR
 refine GX.wp_T ?_; intros
 refine GX.unpin (RowR p 74 _) ?_
 refine GX.wp_R ?_; intros
 exact rt1 () rfl
theorem rregion_spec (tm : RTg) (km : MK) (vm : MV) (p : Nat) (c : RefC) (q : Nat) (haf : vm.af = some ⟨q, 0, none⟩) (l : List RFr) (x : RFr) (hn : vm.nf = l.length + 1) (hb : l.length ≤ 1000) (gr : Nat) (rl : List Int) (hrh : x.rh = (some ⟨gr, 0, none⟩, rl.length, rl.length)) (j : Nat) (y : Int) (hy : rl[j]? = some y) :
  Does Tryz.prog 117 [.pointer (some ⟨p, 0, none⟩), .int .i64 (j : Int)] [Sl Ty.int km.aL km.cL (glob tm)] [RowR p 74 [.slice km.aC tm.classes.length km.cC, .slice km.aG tm.globals.length km.cG, .slice km.aU tm.units.length km.cU, .int .i64 tm.main, .slice km.aL (glob tm).length km.cL, .slice vm.ai vm.ni vm.ci, .slice c.aR c.B.length c.cR, .slice c.aL c.L.length c.cL, .int .i64 c.peak, .int .i64 c.most, .slice (some ⟨km.gb, 0, none⟩) tm.globals.length tm.globals.length, .slice vm.af vm.nf vm.cf, .int .i64 vm.en, .int .i64 vm.code, .slice vm.ao vm.no vm.co, .int .i64 vm.steps, .int .i64 vm.slack], GX.Own 4 Ty.bool c.aR c.cR c.B, GX.Own 139 tyThing c.aL c.cL (c.L.map thg), Owns 3 Ty.int (c.L.map (fun x : Th => x.2)), GX.Own 98 tyRFr vm.af vm.cf (l ++ [x]), GX.Own 3 Ty.int (some ⟨gr, 0, none⟩) rl.length rl] (fun _ : Unit => .int .i64 (if (j : Int) ∈ glob tm then 1 else y)) (fun _ => []) (fun _ => [RowR p 74 [.slice km.aC tm.classes.length km.cC, .slice km.aG tm.globals.length km.cG, .slice km.aU tm.units.length km.cU, .int .i64 tm.main, .slice km.aL (glob tm).length km.cL, .slice vm.ai vm.ni vm.ci, .slice c.aR c.B.length c.cR, .slice c.aL c.L.length c.cL, .int .i64 c.peak, .int .i64 c.most, .slice (some ⟨km.gb, 0, none⟩) tm.globals.length tm.globals.length, .slice vm.af vm.nf vm.cf, .int .i64 vm.en, .int .i64 vm.code, .slice vm.ao vm.no vm.co, .int .i64 vm.steps, .int .i64 vm.slack], GX.Own 4 Ty.bool c.aR c.cR c.B, GX.Own 139 tyThing c.aL c.cL (c.L.map thg), Owns 3 Ty.int (c.L.map (fun x : Th => x.2)), GX.Own 98 tyRFr vm.af vm.cf (l ++ [x]), GX.Own 3 Ty.int (some ⟨gr, 0, none⟩) rl.length rl]) := by
 refine enter Tryz.func117 rfl Tryz.ntmps117 rfl fun _ => ?_
 have hx : (l ++ [x])[l.length]? = some x := by simp
 by_cases hg : (j : Int) ∈ glob tm
 ·rw [if_pos hg]
  refine GX.wp_R ?_; intros
  refine GX.o (cl (in_spec km.aL km.cL (glob tm) (j : Int)) fun _ => ?_)
  refine GX.wp_R ?_; intros
  exact rt1 () rfl
 ·rw [if_neg hg]
  refine GX.wp_R ?_; intros
  refine GX.o (cl (in_spec km.aL km.cL (glob tm) (j : Int)) fun _ => ?_)
  refine GX.wp_R ?_; intros
  refine GX.o (cl (rtop_spec tm km vm p c q haf l.length hn hb) fun _ => ?_)
  rw [haf]
  refine GX.wp_R ?_; intros
  rw [hrh]
  dsimp only
  refine GX.wp_R ?_; intros
  exact rt1 () rfl
theorem liveM_le (B : List Bool) : liveN B ≤ B.length := List.countP_le_length
def ownsU (tm : RTg) (l : List RFr) : Nat := (l.map fun x => match gt tm.units x.u with | some u => u.owns.length | none => 0).sum
theorem ownsU_snoc (tm : RTg) (l : List RFr) (x : RFr) : ownsU tm (l ++ [x]) = ownsU tm l + (match gt tm.units x.u with | some u => u.owns.length | none => 0) := by
 unfold ownsU
 rw [List.map_append, List.sum_append]; simp
theorem ownsU_le (tm : RTg) (h : ∀ u ∈ tm.units, u.owns.length ≤ 1000) (l : List RFr) : ownsU tm l ≤ 1000 * l.length := by
 induction l with
 | nil => exact Nat.le_refl _
 | cons x l ih =>
  have e : (match gt tm.units x.u with | some u => u.owns.length | none => 0) ≤ 1000 := by
   cases hg : gt tm.units x.u with
   | none => exact Nat.zero_le _
   | some u => exact h u (gt_mem hg)
  unfold ownsU at ih ⊢
  rw [List.map_cons, List.sum_cons, List.length_cons]
  omega
theorem rroom_spec (tm : RTg) (km : MK) (vm : MV) (p : Nat) (c : RefC) (q : Nat) (haf : vm.af = some ⟨q, 0, none⟩) (l : List RFr) (hn : vm.nf = l.length) (hb : l.length ≤ 1000) (hB : c.B.length ≤ 1000000000) (hu : ∀ x ∈ l, ∃ u, gt tm.units x.u = some u) (ho : ∀ u ∈ tm.units, u.owns.length ≤ 1000) :
  Does Tryz.prog 32 [.pointer (some ⟨p, 0, none⟩)] [Sl tyUnt km.aU km.cU tm.units] [RowR p 74 [.slice km.aC tm.classes.length km.cC, .slice km.aG tm.globals.length km.cG, .slice km.aU tm.units.length km.cU, .int .i64 tm.main, .slice km.aL (glob tm).length km.cL, .slice vm.ai vm.ni vm.ci, .slice c.aR c.B.length c.cR, .slice c.aL c.L.length c.cL, .int .i64 c.peak, .int .i64 c.most, .slice (some ⟨km.gb, 0, none⟩) tm.globals.length tm.globals.length, .slice vm.af vm.nf vm.cf, .int .i64 vm.en, .int .i64 vm.code, .slice vm.ao vm.no vm.co, .int .i64 vm.steps, .int .i64 vm.slack], GX.Own 4 Ty.bool c.aR c.cR c.B, GX.Own 139 tyThing c.aL c.cL (c.L.map thg), Owns 3 Ty.int (c.L.map (fun x : Th => x.2)), GX.Own 98 tyRFr vm.af vm.cf l] (fun _ : Unit => .int .i64 (1 - (liveN c.B : Int) + (ownsU tm l : Int))) (fun _ => []) (fun _ => [RowR p 74 [.slice km.aC tm.classes.length km.cC, .slice km.aG tm.globals.length km.cG, .slice km.aU tm.units.length km.cU, .int .i64 tm.main, .slice km.aL (glob tm).length km.cL, .slice vm.ai vm.ni vm.ci, .slice c.aR c.B.length c.cR, .slice c.aL c.L.length c.cL, .int .i64 c.peak, .int .i64 c.most, .slice (some ⟨km.gb, 0, none⟩) tm.globals.length tm.globals.length, .slice vm.af vm.nf vm.cf, .int .i64 vm.en, .int .i64 vm.code, .slice vm.ao vm.no vm.co, .int .i64 vm.steps, .int .i64 vm.slack], GX.Own 4 Ty.bool c.aR c.cR c.B, GX.Own 139 tyThing c.aL c.cL (c.L.map thg), Owns 3 Ty.int (c.L.map (fun x : Th => x.2)), GX.Own 98 tyRFr vm.af vm.cf l]) := by
 refine enter Tryz.func32 rfl Tryz.ntmps32 rfl fun _ => ?_
 have hlv := liveM_le c.B
 refine GX.wp_R ?_; intros
 refine GX.o (cl (mlive_spec tm km vm p c hB) fun _ => ?_)
 refine GX.wp_R ?_; intros
 refine GX.loop (σ := Nat) (fun i => [(0, .pointer (some ⟨p, 0, none⟩)), (3, .int .i64 (1 - (liveN c.B : Int) + (ownsU tm (l.take i) : Int))), (4, .int .i64 (i : Int))]) (fun _ => []) (fun _ => [RowR p 74 [.slice km.aC tm.classes.length km.cC, .slice km.aG tm.globals.length km.cG, .slice km.aU tm.units.length km.cU, .int .i64 tm.main, .slice km.aL (glob tm).length km.cL, .slice vm.ai vm.ni vm.ci, .slice c.aR c.B.length c.cR, .slice c.aL c.L.length c.cL, .int .i64 c.peak, .int .i64 c.most, .slice (some ⟨km.gb, 0, none⟩) tm.globals.length tm.globals.length, .slice vm.af vm.nf vm.cf, .int .i64 vm.en, .int .i64 vm.code, .slice vm.ao vm.no vm.co, .int .i64 vm.steps, .int .i64 vm.slack], GX.Own 4 Ty.bool c.aR c.cR c.B, GX.Own 139 tyThing c.aL c.cL (c.L.map thg), Owns 3 Ty.int (c.L.map (fun x : Th => x.2)), GX.Own 98 tyRFr vm.af vm.cf l])
  (fun i => i ≤ l.length) (fun i => l.length - i) 0 ⟨rfl, by show _ = some (Value.int _ (1 - _ + ((0 : Nat) : Int))); rw [show ((0 : Nat) : Int) = 0 from rfl, Int.add_zero]; rfl, rfl, trivial⟩ (Nat.zero_le _) (fun i hi => ?_)
 rw [haf]
 have hle := ownsU_le tm ho (l.take i)
 have htl : (l.take i).length = i := by rw [List.length_take]; omega
 by_cases hlt : i < l.length
 ·obtain ⟨x, hx⟩ := GX.get_lt hlt
  obtain ⟨u, hxu⟩ := hu x (List.mem_of_getElem? hx)
  obtain ⟨j, hj, hjl, hju⟩ := gt_some hxu
  have hou := ho u (gt_mem hxu)
  have hs : ownsU tm (l.take (i + 1)) = ownsU tm (l.take i) + u.owns.length := by
   rw [List.take_add_one, hx]
   show ownsU tm (l.take i ++ [x]) = _
   rw [ownsU_snoc, hxu]
  have hv : (1 - (liveN c.B : Int) + (ownsU tm (l.take (i + 1)) : Int)) = 1 - (liveN c.B : Int) + (ownsU tm (l.take i) : Int) + (u.owns.length : Int) := by rw [hs]; omega
  refine GX.wp_R ?_; intros
  refine GX.drawn2 (RowR p 74 _) (GX.Own 98 tyRFr (some ⟨q, 0, none⟩) _ _) (fun j => !(List.contains [] j)) [(0, true), (1, true), (2, true), (3, true), (4, true), (5, true), (6, true), (7, true), (8, true), (9, true), (10, true), (11, true), (12, true), (13, true), (14, true), (15, true), (16, true), (17, true), (18, true), (19, true)] rfl (by kernel_rfl) (by kernel_rfl) GX.sA ?_; intro wd F hW hR
  refine GX.wp_T ?_; intros
  refine GX.unpin (RowR p 74 _) ?_
  refine GX.unpin (GX.Own 98 tyRFr (some ⟨q, 0, none⟩) _ _) ?_
  refine GX.wp_R ?_; intros
  rw [← haf]
  exact again (i + 1) ⟨rfl, by rw [hv]; rfl, rfl, trivial⟩ (by omega) (by omega)
 ·obtain rfl : i = l.length := by omega
  rw [List.take_length]
  refine GX.wp_R ?_; intros
  rw [← haf]
  exact rt1 () rfl
structure RCl where
 av : Option Addr
 cv : Nat
 gr : Nat
def regL (nc : Nat) (m : Int → Int) : List Int := (List.range nc).map fun c : Nat => m (c : Int)
theorem regL_len (nc : Nat) (m : Int → Int) : (regL nc m).length = nc := by unfold regL; rw [List.length_map, List.length_range]
theorem regL_get {nc : Nat} {m : Int → Int} {j : Nat} (h : j < nc) : (regL nc m)[j]? = some (m (j : Int)) := by
 unfold regL
 rw [List.getElem?_map, List.getElem?_range h]; rfl
theorem regL_set {nc : Nat} {m : Int → Int} {j : Nat} (r : Int) : (regL nc m).set j r = regL nc (updI m (j : Int) r) := by
 apply List.ext_getElem?
 intro i
 rw [List.getElem?_set]
 by_cases hi : i < nc
 ·rw [regL_get hi, regL_get hi, regL_len]
  by_cases e : j = i
  ·subst e
   rw [if_pos rfl, if_pos hi]
   unfold updI
   rw [if_pos rfl]
  ·rw [if_neg e]
   unfold updI
   rw [if_neg (by omega)]
 ·rw [List.getElem?_eq_none (l := regL nc m) (by rw [regL_len]; omega), List.getElem?_eq_none (l := regL nc _) (by rw [regL_len]; omega), regL_len]
  by_cases e : j = i
  ·rw [if_pos e, if_neg (by omega)]
  ·rw [if_neg e]
def rfr (nc : Nat) (y : RCl) (f : Fr) : RFr := ⟨f.u, f.pc, f.into, (y.av, f.vars.length, y.cv), (some ⟨y.gr, 0, none⟩, nc, nc)⟩
def rfrs (nc : Nat) : List RCl → List Fr → List RFr
 | y :: ys, f :: fs => rfrs nc ys fs ++ [rfr nc y f]
 | _, _ => []
def rres (nc : Nat) : List RCl → List Fr → List Res
 | y :: ys, f :: fs => [GX.Own 3 Ty.int y.av y.cv f.vars, GX.Own 3 Ty.int (some ⟨y.gr, 0, none⟩) nc (regL nc f.regs)] ++ rres nc ys fs
 | _, _ => []
theorem rfrs_len {nc : Nat} : ∀ {ys : List RCl} {fs : List Fr}, ys.length = fs.length → (rfrs nc ys fs).length = fs.length
 | [], [], _ => rfl
 | y :: ys, f :: fs, h => by show (rfrs nc ys fs ++ [_]).length = _; rw [List.length_append, rfrs_len (by simpa using h)]; rfl
 | [], f :: fs, h => by simp at h
 | y :: ys, [], h => by simp at h
theorem ownsU_rfrs (tm : RTg) {nc : Nat} : ∀ {ys : List RCl} {fs : List Fr}, ys.length = fs.length → ownsU tm (rfrs nc ys fs) = (fs.map (ownsN tm)).sum
 | [], [], _ => rfl
 | y :: ys, f :: fs, h => by
  show ownsU tm (rfrs nc ys fs ++ [rfr nc y f]) = _
  rw [ownsU_snoc, ownsU_rfrs tm (by simpa using h), List.map_cons, List.sum_cons]
  show _ + ownsN tm f = _
  omega
 | [], f :: fs, h => by simp at h
 | y :: ys, [], h => by simp at h
theorem rleave_last (tm : RTg) (km : MK) (vm : MV) (p : Nat) (c : RefC) (q : Nat) (haf : vm.af = some ⟨q, 0, none⟩) (x : RFr) (l : List RFr) (hl0 : l.length = 0) (hn : vm.nf = l.length + 1) (y : Int) :
  Does Tryz.prog 75 [.pointer (some ⟨p, 0, none⟩), .int .i64 y] [] [RowR p 74 [.slice km.aC tm.classes.length km.cC, .slice km.aG tm.globals.length km.cG, .slice km.aU tm.units.length km.cU, .int .i64 tm.main, .slice km.aL (glob tm).length km.cL, .slice vm.ai vm.ni vm.ci, .slice c.aR c.B.length c.cR, .slice c.aL c.L.length c.cL, .int .i64 c.peak, .int .i64 c.most, .slice (some ⟨km.gb, 0, none⟩) tm.globals.length tm.globals.length, .slice vm.af vm.nf vm.cf, .int .i64 vm.en, .int .i64 vm.code, .slice vm.ao vm.no vm.co, .int .i64 vm.steps, .int .i64 vm.slack], GX.Own 4 Ty.bool c.aR c.cR c.B, GX.Own 139 tyThing c.aL c.cL (c.L.map thg), Owns 3 Ty.int (c.L.map (fun x : Th => x.2)), GX.Own 98 tyRFr vm.af vm.cf (l ++ [x])] (fun _ : Unit => .tuple #[]) (fun _ => []) (fun _ => [RowR p 74 [.slice km.aC tm.classes.length km.cC, .slice km.aG tm.globals.length km.cG, .slice km.aU tm.units.length km.cU, .int .i64 tm.main, .slice km.aL (glob tm).length km.cL, .slice vm.ai vm.ni vm.ci, .slice c.aR c.B.length c.cR, .slice c.aL c.L.length c.cL, .int .i64 c.peak, .int .i64 c.most, .slice (some ⟨km.gb, 0, none⟩) tm.globals.length tm.globals.length, .slice vm.af l.length vm.cf, .int .i64 1, .int .i64 vm.code, .slice vm.ao vm.no vm.co, .int .i64 vm.steps, .int .i64 vm.slack], GX.Own 4 Ty.bool c.aR c.cR c.B, GX.Own 139 tyThing c.aL c.cL (c.L.map thg), Owns 3 Ty.int (c.L.map (fun x : Th => x.2)), GX.Own 98 tyRFr vm.af vm.cf l]) := by
 refine enter Tryz.func75 rfl Tryz.ntmps75 rfl fun _ => ?_
 obtain ⟨ai, ni, ci, af, nf, cf, bd, en, code, ao, no, co, st, sl⟩ := vm
 dsimp only at *
 subst hn haf
 have hll : (l : List RFr).length = l.length := by simp
 have hx : (l ++ [x])[l.length]? = some x := by rw [← hll]; simp
 have htk : (l ++ [x]).take l.length = l := by rw [← hll]; exact List.take_left
 refine GX.opn (some ⟨q, 0, none⟩) fun hc _ _ => ?_
 have hcc : l.length ≤ cf := by simp at hc; omega
 refine GX.wp_R ?_; intros
 refine GX.o (cl (rtop_spec tm km (⟨ai, ni, ci, some ⟨q, 0, none⟩, l.length + 1, cf, bd, en, code, ao, no, co, st, sl⟩ : MV) p c q rfl l.length rfl (by omega)) fun _ => ?_)
 try dsimp only
 refine GX.wp_R ?_; intros
 refine GX.drawn1 (RowR p 74 _) (fun j => !(List.contains [14] j)) [(0, true), (1, true), (2, true), (3, true), (4, true), (5, true), (6, true), (7, true), (8, true), (9, true), (10, true), (11, true), (12, true), (13, true), (14, false)] rfl (by kernel_rfl) (by kernel_rfl) GX.sA ?_; intro wd F hW hR
 refine GX.wp_T ?_; intros
 try rw [show ((l.length + 1 : Nat) : Int) - 1 = ((l.length : Nat) : Int) by omega]
 refine GX.tkr ?_
 refine GX.roh (j := l.length) ?_
 refine GX.unpin (RowR p 74 _) ?_
 refine GX.wp_T ?_; intros
 refine GX.ownTake (some ⟨q, 0, none⟩) l.length ?_
 rw [htk]
 refine GX.wp_R ?_; intros
 refine GX.wp_R ?_; intros
 exact rt0 ()
theorem rleave_more (tm : RTg) (km : MK) (vm : MV) (p : Nat) (c : RefC) (q : Nat) (haf : vm.af = some ⟨q, 0, none⟩) (x : RFr) (l : List RFr) (z : RFr) (hb : l.length ≤ 900) (av : Option Addr) (cv : Nat) (vars : List Int) (hz : z.vh = (av, vars.length, cv)) (hin : 0 ≤ x.into → ∃ j : Nat, x.into = j ∧ j < vars.length) (hn : vm.nf = (l.length + 1) + 1) (y : Int) :
  Does Tryz.prog 75 [.pointer (some ⟨p, 0, none⟩), .int .i64 y] [] [RowR p 74 [.slice km.aC tm.classes.length km.cC, .slice km.aG tm.globals.length km.cG, .slice km.aU tm.units.length km.cU, .int .i64 tm.main, .slice km.aL (glob tm).length km.cL, .slice vm.ai vm.ni vm.ci, .slice c.aR c.B.length c.cR, .slice c.aL c.L.length c.cL, .int .i64 c.peak, .int .i64 c.most, .slice (some ⟨km.gb, 0, none⟩) tm.globals.length tm.globals.length, .slice vm.af vm.nf vm.cf, .int .i64 vm.en, .int .i64 vm.code, .slice vm.ao vm.no vm.co, .int .i64 vm.steps, .int .i64 vm.slack], GX.Own 4 Ty.bool c.aR c.cR c.B, GX.Own 139 tyThing c.aL c.cL (c.L.map thg), Owns 3 Ty.int (c.L.map (fun x : Th => x.2)), GX.Own 98 tyRFr vm.af vm.cf ((l ++ [z]) ++ [x]), GX.Own 3 Ty.int av cv vars] (fun _ : Unit => .tuple #[]) (fun _ => []) (fun _ => [RowR p 74 [.slice km.aC tm.classes.length km.cC, .slice km.aG tm.globals.length km.cG, .slice km.aU tm.units.length km.cU, .int .i64 tm.main, .slice km.aL (glob tm).length km.cL, .slice vm.ai vm.ni vm.ci, .slice c.aR c.B.length c.cR, .slice c.aL c.L.length c.cL, .int .i64 c.peak, .int .i64 c.most, .slice (some ⟨km.gb, 0, none⟩) tm.globals.length tm.globals.length, .slice vm.af (l.length + 1) vm.cf, .int .i64 vm.en, .int .i64 vm.code, .slice vm.ao vm.no vm.co, .int .i64 vm.steps, .int .i64 vm.slack], GX.Own 4 Ty.bool c.aR c.cR c.B, GX.Own 139 tyThing c.aL c.cL (c.L.map thg), Owns 3 Ty.int (c.L.map (fun x : Th => x.2)), GX.Own 98 tyRFr vm.af vm.cf (l ++ [z]), GX.Own 3 Ty.int av cv (if 0 ≤ x.into then vars.set x.into.toNat y else vars)]) := by
 refine enter Tryz.func75 rfl Tryz.ntmps75 rfl fun _ => ?_
 obtain ⟨ai, ni, ci, af, nf, cf, bd, en, code, ao, no, co, st, sl⟩ := vm
 dsimp only at *
 subst hn haf
 have hll : ((l ++ [z]) : List RFr).length = (l.length + 1) := by simp
 have hx : ((l ++ [z]) ++ [x])[(l.length + 1)]? = some x := by rw [← hll]; simp
 have htk : ((l ++ [z]) ++ [x]).take (l.length + 1) = (l ++ [z]) := by rw [← hll]; exact List.take_left
 refine GX.opn (some ⟨q, 0, none⟩) fun hc _ _ => ?_
 have hcc : (l.length + 1) ≤ cf := by simp at hc; omega
 refine GX.wp_R ?_; intros
 refine GX.o (cl (rtop_spec tm km (⟨ai, ni, ci, some ⟨q, 0, none⟩, (l.length + 1) + 1, cf, bd, en, code, ao, no, co, st, sl⟩ : MV) p c q rfl (l.length + 1) rfl (by omega)) fun _ => ?_)
 try dsimp only
 refine GX.wp_R ?_; intros
 refine GX.drawn1 (RowR p 74 _) (fun j => !(List.contains [14] j)) [(0, true), (1, true), (2, true), (3, true), (4, true), (5, true), (6, true), (7, true), (8, true), (9, true), (10, true), (11, true), (12, true), (13, true), (14, false)] rfl (by kernel_rfl) (by kernel_rfl) GX.sA ?_; intro wd F hW hR
 refine GX.wp_T ?_; intros
 try rw [show (((l.length + 1) + 1 : Nat) : Int) - 1 = (((l.length + 1) : Nat) : Int) by omega]
 refine GX.tkr ?_
 refine GX.roh (j := (l.length + 1)) ?_
 refine GX.unpin (RowR p 74 _) ?_
 refine GX.wp_T ?_; intros
 refine GX.ownTake (some ⟨q, 0, none⟩) (l.length + 1) ?_
 rw [htk]
 refine GX.wp_R ?_; intros
 have hx2 : (l ++ [z])[l.length]? = some z := by simp
 by_cases hto : 0 ≤ x.into
 ·rw [if_pos hto]
  obtain ⟨j, hj, hjl⟩ := hin hto
  obtain ⟨w, hw⟩ := GX.get_lt hjl
  refine GX.opn av fun _ _ ha => ?_
  obtain ⟨h9, _⟩ | ⟨g, rfl⟩ := ha
  ·rw [h9] at hjl; simp at hjl
  refine GX.wp_R ?_; intros
  refine GX.o (cl (rtop_spec tm km (⟨ai, ni, ci, some ⟨q, 0, none⟩, (l.length + 1), cf, bd, en, code, ao, no, co, st, sl⟩ : MV) p c q rfl l.length rfl (by omega)) fun _ => ?_)
  try dsimp only
  refine GX.wp_R ?_; intros
  rw [hz, hj, Int.toNat_natCast]
  try dsimp only
  refine GX.wp_R ?_; intros
  exact en0 ()
 ·rw [if_neg hto]
  refine GX.wp_R ?_; intros
  exact en0 ()
end Go.Proofs.YtomadjefdghliaaGreat
namespace Go.Proofs.YtomadjefdghliaaGreat
open Go Go.RR Go.RX Go.GX Go.Api
attribute [local irreducible] wpList Code.wp wpPlan Exit.then Exit.inBlock bodyPost NoPanic Went GX.Post GX.Again GX.Meet GX.RowR GX.Own GX.Owns GX.Box GX.Sl GX.Pt GX.Ag GX.MapR GX.Kept GX.Pin wpT GoK AtEnd Both
theorem r1flag_spec (b : Bool) : Does Tryz.prog 116 [.bool b] [] [] (fun _ : Unit => .int .i64 (if b = true then 1 else 0)) (fun _ => []) (fun _ => []) := by
 refine enter Tryz.func116 rfl Tryz.ntmps116 rfl fun _ => ?_
 cases b with
 | true =>
  refine GX.wp_R ?_; intros
  exact rt1 () rfl
 | false =>
  refine GX.wp_R ?_; intros
  exact rt1 () rfl
theorem r1flagP_spec (p : Prop) [Decidable p] : Does Tryz.prog 116 [.bool (decide p)] [] [] (fun _ : Unit => .int .i64 (flg p)) (fun _ => []) (fun _ => []) := by
 have := r1flag_spec (decide p)
 rwa [flg_dec] at this
theorem r1div_spec (op a b : Int) (ho : op = 17 ∨ op = 18) : Does Tryz.prog 115 [.int .i64 op, .int .i64 a, .int .i64 b] [] [] (fun _ : Unit => .tuple #[.int .i64 (bin op a b).1, .int .i64 (bin op a b).2]) (fun _ => []) (fun _ => []) := by
 refine enter Tryz.func115 rfl Tryz.ntmps115 rfl fun _ => ?_
 by_cases hb : b = 0
 ·have e : bin op a b = (0, 3) := by obtain rfl | rfl := ho <;> (subst hb; rfl)
  rw [e]
  refine GX.wp_R ?_; intros
  exact rt2 () rfl
 by_cases h1 : b = -1
 ·obtain h17 | h18 := ho
  ·have e : bin op a b = (w64 (0 - a), 0) := by subst h17; subst h1; show (w64 (Int.tdiv a (-1)), (0 : Int)) = _; rw [show Int.tdiv a (-1) = 0 - a by rw [Int.tdiv_neg, Int.tdiv_one]; omega]
   rw [e]
   refine GX.wp_R ?_; intros
   exact rt2 () rfl
  ·have e : bin op a b = (0, 0) := by subst h18; subst h1; show (Int.tmod a (-1), (0 : Int)) = _; rw [show Int.tmod a (-1) = 0 by rw [Int.tmod_neg]; simp]
   have h17 : ¬ op = 17 := by omega
   rw [e]
   refine GX.wp_R ?_; intros
   exact rt2 () rfl
 by_cases h17 : op = 17
 ·have e : bin op a b = (w64 (Int.tdiv a b), 0) := by unfold bin; simp [h17, hb]
  rw [e]
  refine GX.wp_R ?_; intros
  exact rt2 () rfl
 ·have h18 : op = 18 := ho.resolve_left h17
  have e : bin op a b = (Int.tmod a b, 0) := by unfold bin; simp [h18, hb]
  rw [e]
  refine GX.wp_R ?_; intros
  exact rt2 () rfl
set_option maxHeartbeats 2000000 in
theorem r1bin_spec (op a b : Int) : Does Tryz.prog 72 [.int .i64 op, .int .i64 a, .int .i64 b] [] [] (fun _ : Unit => .tuple #[.int .i64 (bin op a b).1, .int .i64 (bin op a b).2]) (fun _ => []) (fun _ => []) := by
 refine enter Tryz.func72 rfl Tryz.ntmps72 rfl fun _ => ?_
 by_cases h14 : op = 14
 ·refine GX.wp_R ?_; intros
  exact rt2 () (by subst h14; rfl)
 by_cases h15 : op = 15
 ·refine GX.wp_R ?_; intros
  exact rt2 () (by subst h15; rfl)
 by_cases h16 : op = 16
 ·refine GX.wp_R ?_; intros
  exact rt2 () (by subst h16; rfl)
 by_cases h17 : op = 17
 ·refine GX.wp_R ?_; intros
  refine GX.o (cl (r1div_spec op a b (Or.inl h17)) fun _ => ?_)
  refine GX.wp_R ?_; intros
  exact rt2 () rfl
 by_cases h18 : op = 18
 ·refine GX.wp_R ?_; intros
  refine GX.o (cl (r1div_spec op a b (Or.inr h18)) fun _ => ?_)
  refine GX.wp_R ?_; intros
  exact rt2 () rfl
 by_cases h19 : op = 19
 ·have e : bin op a b = (flg (a < b), 0) := by subst h19; rfl
  rw [e]
  refine GX.wp_R ?_; intros
  refine GX.o (cl (r1flagP_spec (a < b)) fun _ => ?_)
  refine GX.wp_R ?_; intros
  exact rt2 () rfl
 by_cases h20 : op = 20
 ·have e : bin op a b = (flg (a ≤ b), 0) := by subst h20; rfl
  rw [e]
  refine GX.wp_R ?_; intros
  refine GX.o (cl (r1flagP_spec (a ≤ b)) fun _ => ?_)
  refine GX.wp_R ?_; intros
  exact rt2 () rfl
 by_cases h21 : op = 21
 ·have e : bin op a b = (flg (a = b), 0) := by subst h21; rfl
  rw [e]
  refine GX.wp_R ?_; intros
  refine GX.o (cl (r1flagP_spec (a = b)) fun _ => ?_)
  refine GX.wp_R ?_; intros
  exact rt2 () rfl
 by_cases h22 : op = 22
 ·have e : bin op a b = (flg (a ≠ b), 0) := by subst h22; rfl
  rw [e]
  refine GX.wp_R ?_; intros
  refine GX.o (cl (r1flagP_spec (a ≠ b)) fun _ => ?_)
  refine GX.wp_R ?_; intros
  exact rt2 () rfl
 by_cases h23 : op = 23
 ·by_cases ha : a = 0
  ·have e : bin op a b = (0, 0) := by subst h23; simp [bin, flg, ha]
   rw [e]
   refine GX.wp_R ?_; intros
   refine GX.o (cl (r1flag_spec false) fun _ => ?_)
   refine GX.wp_R ?_; intros
   exact rt2 () rfl
  ·have e : bin op a b = (flg (b ≠ 0), 0) := by subst h23; simp [bin, flg, ha]
   rw [e]
   refine GX.wp_R ?_; intros
   refine GX.o (cl (r1flagP_spec (b ≠ 0)) fun _ => ?_)
   refine GX.wp_R ?_; intros
   exact rt2 () rfl
 by_cases h24 : op = 24
 ·by_cases ha : a = 0
  ·have e : bin op a b = (flg (b ≠ 0), 0) := by subst h24; simp [bin, flg, ha]
   rw [e]
   refine GX.wp_R ?_; intros
   refine GX.o (cl (r1flagP_spec (b ≠ 0)) fun _ => ?_)
   refine GX.wp_R ?_; intros
   exact rt2 () rfl
  ·have e : bin op a b = (1, 0) := by subst h24; simp [bin, flg, ha]
   rw [e]
   refine GX.wp_R ?_; intros
   refine GX.o (cl (r1flag_spec true) fun _ => ?_)
   refine GX.wp_R ?_; intros
   exact rt2 () rfl
 have e : bin op a b = (0, 0) := by unfold bin; simp [h14, h15, h16, h17, h18, h19, h20, h21, h22, h23, h24]
 rw [e]
 refine GX.wp_R ?_; intros
 exact rt2 () rfl
theorem r1un_spec (op a : Int) : Does Tryz.prog 73 [.int .i64 op, .int .i64 a] [] [] (fun _ : Unit => .int .i64 (unN op a)) (fun _ => []) (fun _ => []) := by
 refine enter Tryz.func73 rfl Tryz.ntmps73 rfl fun _ => ?_
 by_cases h12 : op = 12
 ·have e : unN op a = w64 (0 - a) := by subst h12; simp [unN]
  rw [e]
  refine GX.wp_R ?_; intros
  exact rt1 () rfl
 by_cases h13 : op = 13
 ·have e : unN op a = flg (a = 0) := by subst h13; rfl
  rw [e]
  refine GX.wp_R ?_; intros
  refine GX.o (cl (r1flagP_spec (a = 0)) fun _ => ?_)
  refine GX.wp_R ?_; intros
  exact rt1 () rfl
 have e : unN op a = 0 := by unfold unN; simp [h12, h13]
 rw [e]
 refine GX.wp_R ?_; intros
 exact rt1 () rfl
end Go.Proofs.YtomadjefdghliaaGreat
namespace Go.GX
open Go Go.RowKit Go.RR Go.RX
section
variable {P : Program} {n : Nat} {env : Env} {b : Base} {ps : List Pf} {hp : List Res} {Q : Exit → Act → World → Prop} {K : Act → World → Prop}
theorem drawnTR {id : Nat} {l : List Oper} (hpS : List Res) (hold : Nat → Bool) (t : Tr) {rest : List Res} [hm : Mixed P] (hs : Region.noSelect l.toArray = true) (hpl : (t.isPlan && t.ok l.toArray hold l.length (Array.replicate l.length false)) = true)
  (hl : SelR hpS hp rest) (h : ∀ wd F, AllP F wd ps → AllR F wd hpS → G n env b (Kept wd F :: ps) (hpS.map (Pin wd) ++ rest) (wpT P l.toArray (NoPanic Q) (SS wd F hpS) hold t)) : G n env b ps hp ((Code.region id l.toArray true).wp P Q) := by
 constructor
 rintro w ⟨F, s⟩
 have s := s.drew.perm hl.perm
 refine RX.drawnT (SS w.drew F hpS) hold t hs hpl ((h w.drew F s.fs (fun r hr => s.rs r (by simp [hr]))).run w.drew ⟨F, s.upd, s.lt, s.old, ?_, ?_, ?_, ?_, ?_⟩)
 ·intro p hp
  rcases List.mem_cons.1 hp with rfl | hp
  ·exact ⟨Agree.refl _ _, fun _ _ h => h⟩
  ·exact s.fs p hp
 ·intro r hr
  rw [List.mem_append, List.mem_map] at hr
  rcases hr with ⟨r', hr', rfl⟩ | hr
  ·exact ⟨s.rs r' (by simp [hr']), Agree.refl _ _⟩
  ·exact s.rs r (by simp [hr])
 ·intro r hr
  rw [List.mem_append, List.mem_map] at hr
  rcases hr with ⟨r', hr', rfl⟩ | hr
  ·exact s.apF r' (by simp [hr'])
  ·exact s.apF r (by simp [hr])
 ·have := List.pairwise_append.1 s.apart
  refine List.pairwise_append.2 ⟨List.pairwise_map.2 (this.1.imp fun h => h), this.2.1, fun r hr q hq => ?_⟩
  obtain ⟨r', hr', rfl⟩ := List.mem_map.1 hr
  exact this.2.2 r' hr' q hq
 ·intro r hr
  rw [List.mem_append, List.mem_map] at hr
  rcases hr with ⟨r', hr', rfl⟩ | hr
  ·exact s.on r' (by simp [hr'])
  ·exact s.on r (by simp [hr])
theorem drawnT1 {id : Nat} {l : List Oper} (r0 : Res) (hold : Nat → Bool) (t : Tr) {rest : List Res} [hm : Mixed P] (hs : Region.noSelect l.toArray = true) (hpl : (t.isPlan && t.ok l.toArray hold l.length (Array.replicate l.length false)) = true)
  (hl : SelR [r0] hp rest) (h : ∀ wd F, AllP F wd ps → AllR F wd [r0] → G n env b (Kept wd F :: ps) (Pin wd r0 :: rest) (wpT P l.toArray (NoPanic Q) (SS wd F [r0]) hold t)) : G n env b ps hp ((Code.region id l.toArray true).wp P Q) := drawnTR [r0] hold t hs hpl hl h
end
end Go.GX
namespace Go.RX
open Go Go.RowKit Go.RR
theorem wpOp_soft {P : Program} {n : Nat} {env : Env} {w : World} {Q : Exit → Act → World → Prop} {S : World → Prop} {hold : Nat → Bool} {ops : Array Oper} {i d : Nat} {p : Op} {ty : TypeId} {pos : String} {aft : Array Edge} {gd : Option (Nat × Bool)} {v : Value} {K : Act → World → Prop} (hi : nth ops.toList i = some ⟨some d, p, ty, pos, aft, gd⟩) (hw : Wanted n env ops ⟨some d, p, ty, pos, aft, gd⟩ true)
  (hs : Soft P n env (fun w' => w' = w) p v) (hd : Nat.blt d n = true) (h : E n ((d, v) :: env) w K) : E n env w (fun a w => wpOp P ops Q i (fun a' w' => (hold i = true → S w → S w') ∧ K a' w') a w) := by
 constructor; intro a ha
 have hi := (nth_array ops i).symm.trans hi
 unfold wpOp
 simp only [hi, hw a ha, if_true]
 exact .inl ((soft (P := P) (Q := Q) (K := fun a' w' => (hold i = true → S w → S w') ∧ K a' w') hs hd ⟨fun a' ha' => ⟨fun _ h => h, h.run a' ha'⟩⟩).run a ha)
end Go.RX
namespace Go.GX
open Go Go.RowKit Go.RR Go.RX
section
variable {P : Program} {n : Nat} {env : Env} {b : Base} {ps : List Pf} {hp : List Res} {K : Act → World → Prop} {Q : Exit → Act → World → Prop} {S : World → Prop} {hold : Nat → Bool} {ops : Array Oper} {i d : Nat} {ty : TypeId} {pos : String} {aft : Array Edge} {gd : Option (Nat × Bool)} {v : Value} {r : List (Nat × Bool)}
theorem exW {x : Operand} {k : Nat} {vs : Array Value} (h : G n ((d, v) :: env) b ps hp (wpPlan P ops Q S hold r)) (hi : nth ops.toList i = some ⟨some d, .extract x k, ty, pos, aft, gd⟩ := by exact rfl) (hw : Wanted n env ops ⟨some d, .extract x k, ty, pos, aft, gd⟩ true := by first | exact Go.RX.plain rfl | exact Go.RX.guarded rfl rfl rfl (by with_reducible rfl))
  (hx : ev env x = some (.tuple vs) := by exact rfl) (hv : vs[k]? = some v := by exact rfl) (hd : Nat.blt d n = true := by exact rfl) : G n env b ps hp (wpPlan P ops Q S hold ((i, false) :: r)) := ⟨fun w s => RX.wpOp_soft hi hw (RX.extract hx hv) hd (h.run w s)⟩
theorem ldK {α : Type} {e : Ty α} {bl o' off : Nat} {y : α} {t : TypeId} {x : Operand} {k : IntKind} {get : α → Int} {put : Int → α → α} [UOne P t] (h : G n ((d, .int k (get y)) :: env) b ps hp (K)) (hi : nth ops.toList i = some ⟨some d, .load t x, ty, pos, aft, gd⟩ := by exact rfl) (hw : Wanted n env ops ⟨some d, .load t x, ty, pos, aft, gd⟩ true := by first | exact Go.RX.plain rfl | exact Go.RX.guarded rfl rfl rfl (by with_reducible rfl))
  (hx : ev env x = some (.pointer (some ⟨bl, o', none⟩)) := by exact rfl) (i0 : Look bl o' ps hp e off y := by exact inferInstance) (i1 : Sub e off (Ty.num k) get put := by exact inferInstance) (hd : Nat.blt d n = true := by exact rfl) : G n env b ps hp (GoK P ops Q S hold i K) := by
 constructor
 rintro w ⟨F, s⟩
 exact RX.wpOp_soft hi hw (fun a ha o ho w' hw => ld_num (e := e) (off := off) (get := get) (put := put) hx F w s.fs s.rs a ha o ho w' (by subst hw; exact Agree.refl _ _)) hd (h.run w ⟨F, s⟩)
theorem ldW {α : Type} {e : Ty α} {bl o' off : Nat} {y : α} {t : TypeId} {x : Operand} {k : IntKind} {get : α → Int} {put : Int → α → α} [UOne P t] (h : G n ((d, .int k (get y)) :: env) b ps hp (wpPlan P ops Q S hold r)) (hi : nth ops.toList i = some ⟨some d, .load t x, ty, pos, aft, gd⟩ := by exact rfl) (hw : Wanted n env ops ⟨some d, .load t x, ty, pos, aft, gd⟩ true := by first | exact Go.RX.plain rfl | exact Go.RX.guarded rfl rfl rfl (by with_reducible rfl))
  (hx : ev env x = some (.pointer (some ⟨bl, o', none⟩)) := by exact rfl) (i0 : Look bl o' ps hp e off y := by exact inferInstance) (i1 : Sub e off (Ty.num k) get put := by exact inferInstance) (hd : Nat.blt d n = true := by exact rfl) : G n env b ps hp (wpPlan P ops Q S hold ((i, false) :: r)) := by
 constructor
 rintro w ⟨F, s⟩
 exact RX.wpOp_soft hi hw (fun a ha o ho w' hw => ld_num (e := e) (off := off) (get := get) (put := put) hx F w s.fs s.rs a ha o ho w' (by subst hw; exact Agree.refl _ _)) hd (h.run w ⟨F, s⟩)
end
end Go.GX
