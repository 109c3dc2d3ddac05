import Derived.Test.YtomadjefdghliaaGreatU24
import Derived.Test.YtomadjefdghliaaGreatU33
import Derived.Test.YtomadjefdghliaaGreatU35
namespace Go.Proofs.YtomadjefdghliaaGreat
open Go Go.RR Go.RX Go.GX Go.Api Go.RtM
attribute [local irreducible] wpList Code.wp wpPlan Exit.then Exit.inBlock bodyPost NoPanic Went GX.Post GX.Again GX.Meet GX.RowR GX.Own GX.Owns GX.Box GX.Sl GX.Pt GX.Ag GX.MapR GX.Star GX.Kept GX.Pin wpT GoK AtEnd Both
theorem ran_of (M : Ms) : M.clear.ran = ⟨⟨M.en, M.code, M.out, M.steps⟩, (clearT M.tb M.en).B.length, ((clearT M.tb M.en).B.length : Int) - (liveN (clearT M.tb M.en).B : Int), ((clearT M.tb M.en).B.length : Int) - (((clearT M.tb M.en).B.length : Int) - (liveN (clearT M.tb M.en).B : Int)), (clearT M.tb M.en).peak, M.slack, (clearT M.tb M.en).most⟩ := by
 rw [show ∀ a b : Int, a - (a - b) = b by intro a b; omega]
 unfold Ms.clear Ms.ran clearT
 split
 ·rfl
 ·split <;> rfl
theorem zero_tab : RTab (RefC.mk none 0 [] none 0 [] 0 0) Tb.zero := ⟨rfl, rfl, rfl, rfl⟩
theorem rfrs_u {nc : Nat} : ∀ {ys : List RCl} {fs : List Fr} {x : RFr}, x ∈ rfrs nc ys fs → ∃ f ∈ fs, x.u = f.u
 | [], _, _, h => by simp [rfrs] at h
 | y :: ys, [], _, h => by simp [rfrs] at h
 | y :: ys, f :: fs, x, h => by
  rcases List.mem_append.1 (show x ∈ rfrs nc ys fs ++ [rfr nc y f] from h) with h | h
  ·obtain ⟨g, hg, e⟩ := rfrs_u h
   exact ⟨g, by simp [hg], e⟩
  ·obtain rfl := List.mem_singleton.1 h
   exact ⟨f, by simp, rfl⟩
theorem rmakeT_spec (tm : RTg) (km : MK) (vm : MV) (p : Nat) (c : RefC) (T : Tb) (hT : RTab c T) (hl : T.B.length < 1000000000) : Does Tryz.prog 30 [.pointer (some ⟨p, 6, none⟩)] [] [RowR p 74 [.slice km.aC tm.classes.length km.cC, .slice km.aG tm.globals.length km.cG, .slice km.aU tm.units.length km.cU, .int .i64 tm.main, .slice km.aL (glob tm).length km.cL, .slice vm.ai vm.ni vm.ci, .slice c.aR c.B.length c.cR, .slice c.aL c.L.length c.cL, .int .i64 c.peak, .int .i64 c.most, .slice (some ⟨km.gb, 0, none⟩) tm.globals.length tm.globals.length, .slice vm.af vm.nf vm.cf, .int .i64 vm.en, .int .i64 vm.code, .slice vm.ao vm.no vm.co, .int .i64 vm.steps, .int .i64 vm.slack], GX.Own 4 Ty.bool c.aR c.cR c.B, GX.Own 139 tyThing c.aL c.cL (c.L.map thg), Owns 3 Ty.int (c.L.map (fun x : Th => x.2))] (fun _ : { c1 : RefC // RTab c1 T.make } => .int .i64 ((T.B.length + 1 : Nat) : Int)) (fun _ => []) (fun s => [RowR p 74 [.slice km.aC tm.classes.length km.cC, .slice km.aG tm.globals.length km.cG, .slice km.aU tm.units.length km.cU, .int .i64 tm.main, .slice km.aL (glob tm).length km.cL, .slice vm.ai vm.ni vm.ci, .slice s.1.aR s.1.B.length s.1.cR, .slice s.1.aL s.1.L.length s.1.cL, .int .i64 s.1.peak, .int .i64 s.1.most, .slice (some ⟨km.gb, 0, none⟩) tm.globals.length tm.globals.length, .slice vm.af vm.nf vm.cf, .int .i64 vm.en, .int .i64 vm.code, .slice vm.ao vm.no vm.co, .int .i64 vm.steps, .int .i64 vm.slack], GX.Own 4 Ty.bool s.1.aR s.1.cR s.1.B, GX.Own 139 tyThing s.1.aL s.1.cL (s.1.L.map thg), Owns 3 Ty.int (s.1.L.map (fun x : Th => x.2))]) :=
 Does.fitT (mmake_spec tm km vm p c (by rw [hT.B]; exact hl)) (fun s => ⟨_, hT.make s.1 s.2⟩) GX.aA GX.sA (fun _ => by rw [hT.B]) (fun s => by
  show AllIn [] _
  exact GX.aA) (fun s => Turn.sel GX.sA)
theorem rmake0_spec (tm : RTg) (km : MK) (ai : Option Addr) (ni ci : Nat) (p : Nat) : Does Tryz.prog 30 [.pointer (some ⟨p, 6, none⟩)] []
  [RowR p 74 [.slice km.aC tm.classes.length km.cC, .slice km.aG tm.globals.length km.cG, .slice km.aU tm.units.length km.cU, .int .i64 tm.main, .slice km.aL (glob tm).length km.cL, .slice ai ni ci, .slice none 0 0, .slice none 0 0, .int .i64 0, .int .i64 0, .slice (some ⟨km.gb, 0, none⟩) tm.globals.length tm.globals.length, .slice none 0 0, .int .i64 0, .int .i64 0, .slice none 0 0, .int .i64 0, .int .i64 0],
   GX.Own 4 Ty.bool none 0 [], GX.Own 139 tyThing none 0 [], GX.Owns 3 Ty.int []] (fun _ : { c1 : RefC // RTab c1 Tb.zero.make } => .int .i64 ((Tb.zero.B.length + 1 : Nat) : Int)) (fun _ => []) (fun s => [RowR p 74 [.slice km.aC tm.classes.length km.cC, .slice km.aG tm.globals.length km.cG, .slice km.aU tm.units.length km.cU, .int .i64 tm.main, .slice km.aL (glob tm).length km.cL, .slice ai ni ci, .slice s.1.aR s.1.B.length s.1.cR, .slice s.1.aL s.1.L.length s.1.cL, .int .i64 s.1.peak, .int .i64 s.1.most, .slice (some ⟨km.gb, 0, none⟩) tm.globals.length tm.globals.length, .slice none 0 0, .int .i64 0, .int .i64 0, .slice none 0 0, .int .i64 0, .int .i64 0], GX.Own 4 Ty.bool s.1.aR s.1.cR s.1.B, GX.Own 139 tyThing s.1.aL s.1.cL (s.1.L.map thg), Owns 3 Ty.int (s.1.L.map (fun x : Th => x.2))]) :=
 rmakeT_spec tm km ⟨ai, ni, ci, none, 0, 0, 0, 0, 0, none, 0, 0, 0, 0⟩ p (RefC.mk none 0 [] none 0 [] 0 0) Tb.zero zero_tab (by show 0 < 1000000000; omega)
theorem rrun_spec (cs : List Value) (tm : RTg) (hs : Small tm) (hT : Tame30 tm) (hTk : ∀ g ∈ tm.units, g.takes.length ≤ 1000000) (ai : Option Addr) (ci : Nat) (inp : List Int) (fuel : Int) (hf : fuel ≤ 100000) :
  Does Tryz.prog 10 [.agg cs.toArray, .slice ai inp.length ci, .int .i64 fuel] [Ag tyRTg cs tm, Sl Ty.int ai ci inp] [] (fun s : List Value => .agg s.toArray) (fun s => [Ag tyRan s (playP tm inp fuel)]) (fun _ => []) := by
 refine enter Tryz.func10 rfl Tryz.ntmps10 rfl fun _ => ?_
 refine GX.wp_R ?_; intros
 refine GX.nmP 3 ?_; rintro b3 rfl
 refine GX.nmP 6 ?_; rintro b6 rfl
 refine GX.nmA 8 ?_; rintro c8 rfl
 refine GX.o (cl (rright_spec c8 tm hs) fun _ => ?_)
 by_cases hRt : RightP tm
 ·rw [show playP tm inp fuel = ranP tm (glob tm) inp fuel from if_pos hRt]
  have hRn := Classical.not_not.2 hRt
  refine GX.wp_RN ?_; intros
  have hgl := hRt.1.2.1
  refine GX.cut (σ := RnS) (fun s => [(2, .int .i64 fuel), (3, .pointer (some ⟨b3, 0, none⟩)), (6, .pointer (some ⟨b6, 0, none⟩)), (7, .pointer (some ⟨s.p, 0, none⟩))]) (fun s => [Sl Ty.int s.k.aL s.k.cL (glob tm), Sl tyLayout s.k.aC s.k.cC tm.classes, Sl tyUnt s.k.aU s.k.cU tm.units])
   (fun s => [RowR s.p 74 [.slice s.k.aC tm.classes.length s.k.cC, .slice s.k.aG tm.globals.length s.k.cG, .slice s.k.aU tm.units.length s.k.cU, .int .i64 tm.main, .slice s.k.aL (glob tm).length s.k.cL, .slice ai inp.length ci, .slice none 0 0, .slice none 0 0, .int .i64 0, .int .i64 0, .slice (some ⟨s.k.gb, 0, none⟩) tm.globals.length tm.globals.length, .slice none 0 0, .int .i64 0, .int .i64 0, .slice none 0 0, .int .i64 0, .int .i64 0], GX.Own 3 Ty.int (some ⟨s.k.gb, 0, none⟩) tm.globals.length (List.replicate tm.globals.length 0), Box 32 tyRan b6 ran0]) (fun _ => True) ?_ (fun s _ => ?_)
  ·refine GX.drawnT (fun j => !(List.contains [] j)) (.br [(0, true), (1, true), (3, true), (4, true), (5, true), (6, true)] (.alt 2 (.lin [(7, false), (8, true), (9, false), (10, true)]) (.alt 7 (.lin [(2, false), (8, true), (9, false), (10, true)]) .nil))) (by kernel_rfl) (by kernel_rfl) ?_; intro wd F hW hR
   refine GX.wp_TA ?_; intros
   refine GX.nmA 12 ?_; rintro c12 rfl
   refine GX.nmA 13 ?_; rintro c13 rfl
   refine opRTg c12 fun aC cC aG cG aU cU e12 => ?_
   subst e12
   repeat' first
    | (refine GX.treeA ?_ ?_ <;> (refine GX.wp_TA ?_; intros))
    | (refine GX.gok ?_; refine (cl (rglobal_spec c13 tm hs) fun s => ?_); obtain ⟨aL, cL⟩ := s; dsimp only; refine GX.wp_TA ?_; intros)
    | (refine GX.gow ?_; refine (cl (rglobal_spec c13 tm hs) fun s => ?_); obtain ⟨aL, cL⟩ := s; dsimp only; refine GX.wp_TA ?_; intros)
   all_goals (
    refine GX.wp_R ?_; intros
    refine GX.nmP 7 ?_; rintro p rfl
    refine GX.nmB 19 ?_; rintro gb rfl
    exact GX.meet ⟨p, ⟨aC, cC, aG, cG, aU, cU, aL, cL, 0, gb, 0⟩⟩ ⟨rfl, rfl, rfl, rfl, trivial⟩ trivial)
  obtain ⟨p, km⟩ := s
  dsimp only
  have hm := hRt.2.1
  unfold MainOk at hm
  cases hg : gt tm.units tm.main with
  | none => rw [hg] at hm; exact hm.elim
  | some u =>
  obtain ⟨j, hj, hjl, hju⟩ := gt_some hg
  have hum : u ∈ tm.units := gt_mem hg
  have huv : u.vars.length ≤ 4000 := (right_unit hRt hum).1.1.2.2.2
  have huo := hT.owns u hum
  have hnc := hRt.1.1
  refine ownNil 4 Ty.bool ?_
  refine ownNil 139 tyThing ?_
  refine osN 3 Ty.int 0 ?_
  rw [List.replicate_zero]
  refine GX.wp_R ?_; intros
  refine GX.o (cl (rmake0_spec tm km ai inp.length ci p) fun s => ?_)
  obtain ⟨c1, hT1⟩ := s
  dsimp only
  refine GX.wp_R ?_; intros
  refine ownNil 98 tyRFr ?_
  refine slNil Ty.int ?_
  refine GX.drawn0  (fun j => !(List.contains [7] j)) [(0, true), (1, true), (2, true), (3, true), (4, true), (5, true), (6, false), (7, false)] rfl (by kernel_rfl) (by kernel_rfl) GX.sA ?_; intro wd F hW hR
  refine GX.wp_T ?_; intros
  refine GX.nmB 32 ?_; rintro gr rfl
  have hen := renter_spec tm km (⟨ai, inp.length, ci, none, 0, 0, 0, 0, 0, none, 0, 0, 0, 0⟩ : MV) p c1 [] rfl (by simp) j u hju (by omega) (-1) none 0 [] (by simp) gr
  rw [← hj] at hen
  refine GX.gow ?_
  refine (cl hen fun s => ?_)
  obtain ⟨⟨av, cv⟩, af, cf⟩ := s
  dsimp only
  refine GX.wp_T ?_; intros
  rw [show ([] ++ List.replicate (u.vars.length - ([] : List Int).length) (0 : Int)) = List.replicate u.vars.length 0 from rfl, show ([] ++ [(⟨tm.main, 0, -1, (av, u.vars.length, cv), (some ⟨gr, 0, none⟩, tm.classes.length, tm.classes.length)⟩ : RFr)]) = rfrs tm.classes.length [⟨av, cv, gr⟩] [(⟨tm.main, 0, List.replicate u.vars.length 0, -1, fun _ => 0⟩ : Fr)] by show _ = [rfr _ _ _]; unfold rfr; dsimp only; rw [List.length_replicate]; rfl, regL_zero tm.classes.length]
  refine GX.wp_R ?_; intros
  refine GX.opn af fun _ _ haf => ?_
  obtain ⟨h9, _⟩ | ⟨q, rfl⟩ := haf
  ·exact absurd h9 (by simp [rfrs])
  refine GX.o (cl (rroom_spec tm km (⟨ai, inp.length, ci, some ⟨q, 0, none⟩, 1, cf, 0, 0, 0, none, 0, 0, 0, 0⟩ : MV) p c1 q rfl (rfrs tm.classes.length [⟨av, cv, gr⟩] [(⟨tm.main, 0, List.replicate u.vars.length 0, -1, fun _ => 0⟩ : Fr)]) rfl (by simp [rfrs]) (by rw [hT1.B]; show 1 ≤ 1000000000; omega) (fun x hx => by
   obtain ⟨f9, hf9, e9⟩ := rfrs_u hx
   obtain rfl := List.mem_singleton.1 hf9
   exact ⟨u, by rw [e9]; exact hg⟩) (fun w hw => hT.owns w hw)) fun _ => ?_)
  have hroom : (1 - (liveN c1.B : Int) + (ownsU tm (rfrs tm.classes.length [⟨av, cv, gr⟩] [(⟨tm.main, 0, List.replicate u.vars.length 0, -1, fun _ => 0⟩ : Fr)]) : Int)) = 1 + u.owns.length - (liveN Tb.zero.make.B : Int) := by
   rw [ownsU_rfrs tm rfl, hT1.B]
   unfold ownsN
   simp [hg, Tb.make, Tb.zero]
   omega
  rw [hroom]
  refine GX.wp_R ?_; intros
  refine GX.starN ?_
  refine GX.starI (l := [GX.Own 3 Ty.int av cv (List.replicate u.vars.length 0), GX.Own 3 Ty.int (some ⟨gr, 0, none⟩) tm.classes.length (regL tm.classes.length (fun _ => 0))]) (m := []) ?_
  refine ownNil 3 Ty.int ?_
  have hbe : begin_ tm inp = (⟨Tb.zero.make, inp, List.replicate tm.globals.length 0, [(⟨tm.main, 0, List.replicate u.vars.length 0, -1, fun _ => 0⟩ : Fr)], 0, 0, [], 0, 1 + u.owns.length - (liveN Tb.zero.make.B : Int)⟩ : Ms) := by
   unfold begin_ start Ms.room bound ownsN
   dsimp only
   rw [hg]
   simp [hg]
  obtain ⟨hok, hbn⟩ := begin_ok (inp := inp) hRt
  unfold ranP
  rw [hbe] at hok hbn ⊢
  have hI : RInv (⟨ai, inp.length, ci, some ⟨q, 0, none⟩, 1, cf, 0, 0, 0, none, 0, 0, 0, 1 + u.owns.length - (liveN Tb.zero.make.B : Int)⟩ : MV) [⟨av, cv, gr⟩] c1 (⟨Tb.zero.make, inp, List.replicate tm.globals.length 0, [(⟨tm.main, 0, List.replicate u.vars.length 0, -1, fun _ => 0⟩ : Fr)], 0, 0, [], 0, 1 + u.owns.length - (liveN Tb.zero.make.B : Int)⟩ : Ms) := ⟨hT1, rfl, rfl, rfl, rfl, rfl, rfl, rfl, rfl⟩
  have hro : ROk tm (⟨Tb.zero.make, inp, List.replicate tm.globals.length 0, [(⟨tm.main, 0, List.replicate u.vars.length 0, -1, fun _ => 0⟩ : Fr)], 0, 0, [], 0, 1 + u.owns.length - (liveN Tb.zero.make.B : Int)⟩ : Ms) := by
   refine ⟨rfl, fun g hg c _ h0 => ?_, fun g hg c _ d _ _ h0 => ?_, List.pairwise_singleton _ _⟩
   ·obtain rfl := List.mem_singleton.1 hg
    exact absurd rfl h0
   ·obtain rfl := List.mem_singleton.1 hg
    exact absurd rfl h0
  obtain ⟨Fu, hF⟩ : ∃ Fu : Int, Fu = max fuel 0 := ⟨_, rfl⟩
  have hF0 : 0 ≤ Fu := by omega
  obtain ⟨Mf, hMf⟩ : ∃ Mf : Ms, Mf = runM tm (glob tm) (max fuel 0).toNat (⟨Tb.zero.make, inp, List.replicate tm.globals.length 0, [(⟨tm.main, 0, List.replicate u.vars.length 0, -1, fun _ => 0⟩ : Fr)], 0, 0, [], 0, 1 + u.owns.length - (liveN Tb.zero.make.B : Int)⟩ : Ms) := ⟨_, rfl⟩
  rw [← hMf]
  refine GX.loop (σ := RS) (fun _ => [(2, .int .i64 fuel), (6, .pointer (some ⟨b6, 0, none⟩)), (7, .pointer (some ⟨p, 0, none⟩))]) (fun s => [Sl Ty.int s.v.ai s.v.ci s.M.inp]) (fun s => [RowR p 74 [.slice km.aC tm.classes.length km.cC, .slice km.aG tm.globals.length km.cG, .slice km.aU tm.units.length km.cU, .int .i64 tm.main, .slice km.aL (glob tm).length km.cL, .slice s.v.ai s.v.ni s.v.ci, .slice s.c.aR s.c.B.length s.c.cR, .slice s.c.aL s.c.L.length s.c.cL, .int .i64 s.c.peak, .int .i64 s.c.most, .slice (some ⟨km.gb, 0, none⟩) tm.globals.length tm.globals.length, .slice s.v.af s.v.nf s.v.cf, .int .i64 s.v.en, .int .i64 s.v.code, .slice s.v.ao s.v.no s.v.co, .int .i64 s.v.steps, .int .i64 s.v.slack], GX.Own 4 Ty.bool s.c.aR s.c.cR s.c.B, GX.Own 139 tyThing s.c.aL s.c.cL (s.c.L.map thg), Owns 3 Ty.int (s.c.L.map (fun x : Th => x.2)), GX.Own 98 tyRFr s.v.af s.v.cf (rfrs tm.classes.length s.ys s.M.fs), GX.Star (rres tm.classes.length s.ys s.M.fs), GX.Own 3 Ty.int s.v.ao s.v.co s.M.out, GX.Own 3 Ty.int (some ⟨km.gb, 0, none⟩) tm.globals.length s.M.gl, Box 32 tyRan b6 ran0])
   (fun s => RInv s.v s.ys s.c s.M ∧ s.M.tb.B.length ≤ 1000000000 ∧ 0 ≤ s.M.steps ∧ s.M.steps ≤ Fu ∧ (s.M.en = 0 ∧ MsOk tm s.M ∧ ROk tm s.M ∧ Bnd s.M ∧ (∃ n : Nat, s.M.steps + n = Fu ∧ runM tm (glob tm) n s.M = Mf) ∨ s.M.en ≠ 0 ∧ Sim s.M Mf)) (fun s => (Fu - s.M.steps).toNat + (if s.M.en = 0 then 1 else 0)) ⟨(⟨ai, inp.length, ci, some ⟨q, 0, none⟩, 1, cf, 0, 0, 0, none, 0, 0, 0, 1 + u.owns.length - (liveN Tb.zero.make.B : Int)⟩ : MV), [⟨av, cv, gr⟩], c1, (⟨Tb.zero.make, inp, List.replicate tm.globals.length 0, [(⟨tm.main, 0, List.replicate u.vars.length 0, -1, fun _ => 0⟩ : Fr)], 0, 0, [], 0, 1 + u.owns.length - (liveN Tb.zero.make.B : Int)⟩ : Ms)⟩ ⟨rfl, rfl, rfl, trivial⟩ ⟨hI, by show 1 ≤ 1000000000; omega, by show (0 : Int) ≤ 0; omega, by show (0 : Int) ≤ Fu; omega, .inl ⟨rfl, hok, hro, hbn, Fu.toNat, by show (0 : Int) + _ = Fu; omega, by rw [hMf, hF]⟩⟩ (fun s hs => ?_)
  obtain ⟨v, ys, c, M⟩ := s
  obtain ⟨hI, hBl, hst0, hstF, hs⟩ := hs
  dsimp only at hI hBl hst0 hstF hs ⊢
  have hen : v.en = M.en := hI.en
  have hst : v.steps = M.steps := hI.steps
  rcases hs with ⟨hz, hok, hro, hb, n, hn, he⟩ | ⟨hz, hsim⟩
  ·have hz' : v.en = 0 := hen.trans hz
   cases n with
   | zero =>
    have hge : max fuel 0 ≤ v.steps := by omega
    have he' : runM tm (glob tm) 0 M = M.ends 3 0 := if_pos hz
    refine GX.wp_R ?_; intros
    refine GX.o (cl (rran_spec tm km { v with en := 3 } p c M.tb hI.tab hBl M.out hI.no) fun s => ?_)
    have hres : (⟨⟨3, v.code, M.out, v.steps⟩, (clearT M.tb 3).B.length, ((clearT M.tb 3).B.length : Int) - (liveN (clearT M.tb 3).B : Int), ((clearT M.tb 3).B.length : Int) - (((clearT M.tb 3).B.length : Int) - (liveN (clearT M.tb 3).B : Int)), (clearT M.tb 3).peak, v.slack, (clearT M.tb 3).most⟩ : Api.Ran) = Mf.clear.ran := by
     rw [← he, he', ran_of]
     dsimp only [Ms.ends]
     rw [show v.code = 0 from hI.code.trans hro.code, hst, show v.slack = M.slack from hI.slack]
    rw [hres]
    refine GX.wp_R ?_; intros
    exact rt1B (fun cs => cs) (fun _ => rfl)
   | succ n =>
    obtain ⟨f, r, u9, i, hnx, hnext⟩ := hok.nextOf hz
    have hfs := hnx.fs
    have hu := hnx.unit
    have hlen := hI.len
    rw [hfs] at hlen
    cases ys with
    | nil => exact absurd hlen (by simp)
    | cons y ys =>
    have hlt : ¬ max fuel 0 ≤ v.steps := by omega
    have hlt2 : v.steps < 100000 := by omega
    have hge2 : 0 ≤ v.steps := by omega
    rw [hfs, show rres tm.classes.length (y :: ys) (f :: r) = [GX.Own 3 Ty.int y.av y.cv f.vars, GX.Own 3 Ty.int (some ⟨y.gr, 0, none⟩) tm.classes.length (regL tm.classes.length f.regs)] ++ rres tm.classes.length ys r from rfl, show rfrs tm.classes.length (y :: ys) (f :: r) = rfrs tm.classes.length ys r ++ [rfr tm.classes.length y f] from rfl]
    refine GX.starO (l := [GX.Own 3 Ty.int y.av y.cv f.vars, GX.Own 3 Ty.int (some ⟨y.gr, 0, none⟩) tm.classes.length (regL tm.classes.length f.regs)]) (m := rres tm.classes.length ys r) ?_
    dsimp only [List.cons_append, List.nil_append]
    have hum9 : u9 ∈ tm.units := gt_mem hu
    obtain ⟨u', hu1, hu2, hu3⟩ := hok.fr f (by rw [hfs]; simp)
    obtain rfl : u' = u9 := by rw [hu] at hu1; exact (Option.some.inj hu1).symm
    have hvi := right_ins hRt hum9 (gt_mem hnx.ins)
    have hd := hok.deep
    have hpre : RPre tm { v with steps := v.steps + 1 } (y :: ys) f r c { M with steps := M.steps + 1 } u' i := by
     refine ⟨⟨hI.tab, hI.nf, hI.len, hI.en, hI.code, by show v.steps + 1 = M.steps + 1; rw [hst], hI.slack, hI.no, hI.ni⟩, hfs, hu, hnx.ins, hvi, hu2, hd, hok.gl, ?_, ?_, ?_, ?_, ?_⟩
     ·show M.tb.B.length ≤ _; have := hb.B; omega
     ·show M.tb.L.length ≤ _; have := hb.L; omega
     ·show M.out.length ≤ _; have := hb.O; omega
     ·have := hT.args u' hum9 i (gt_mem hnx.ins); omega
     ·cases r with
      | nil => exact .inr fun h r' e => by cases e
      | cons hh r =>
       refine (Goal.of hok hfs).imp id fun q h r' e => ?_
       cases e
       exact q
    have hrm : i.op = 22 → rmR i.args M.tb f.regs = rmT i.args M.tb f.regs := fun h22 => (hro.top hfs).rmR (fun d hd => by
     unfold ownsL
     rw [hu]
     exact (hvi.own (.inr h22)).2 d hd)
    have hrop := rop_all (km := km) (p := p) hpre hro.code hRt hTk hrm
    refine GX.wp_R ?_; intros
    refine GX.o (cl hrop fun s => ?_)
    obtain ⟨⟨v', ys', c', M'⟩, hI', hsim⟩ := s
    dsimp only at hI' hsim ⊢
    rw [show (({ M with steps := M.steps + 1 } : Ms).adv f) = M.pre f from rfl] at hsim
    have hok' := hok.go (G := glob tm) hRt hnx
    have hb' := hb.go (G := glob tm) hRt hT hnx
    have hst' := (go_grow (M.pre f) tm (glob tm) { f with pc := f.pc + 1 } i hvi.op.1 hvi.op.2).st
    have hro' : ((M.pre f).go tm (glob tm) f.on i).en = 0 → ROk tm ((M.pre f).go tm (glob tm) f.on i) := fun h => by
     refine ROk.go (f := f.on) (r := r) (u := u') hRt ?_ (by show _ :: M.fs.tail = _; rw [hfs]; rfl) hu hvi h
     exact hro.of hfs f.on (by show _ :: M.fs.tail = _; rw [hfs]; rfl) rfl (hro.top hfs) hro.code
    have he' : runM tm (glob tm) n (((M.pre f).go tm (glob tm) f.on i).less tm) = Mf := by
     rw [← he, ← step_next hnext]
     exact (if_pos hz).symm
    have hst2 : (M.pre f).steps = M.steps + 1 := rfl
    have hok' : MsOk tm ((M.pre f).go tm (glob tm) f.on i) := hok'
    have hb' : Bnd ((M.pre f).go tm (glob tm) f.on i) := hb'
    have hst' : ((M.pre f).go tm (glob tm) f.on i).steps = (M.pre f).steps := hst'
    generalize (M.pre f).go tm (glob tm) f.on i = N at hsim hok' hb' hst' hro' he'
    by_cases hz2 : v'.en = 0
    ·have hN : N.en = 0 := by rw [← hsim.en, ← hI'.en]; exact hz2
     obtain rfl := hsim.eq hN
     have hles : M'.less tm = { M' with slack := min M'.slack (M'.room tm) } := if_pos hN
     have hlv : liveN M'.tb.B ≤ M'.tb.B.length := List.countP_le_length
     have hln := hI'.len
     have hdp := hok'.deep
     have hne := hok'.en hN
     obtain ⟨ai', ni', ci', af', nf', cf', bd', en', code', ao', no', co', st', sl'⟩ := v'
     refine GX.opn af' fun _ _ haf => ?_
     obtain ⟨h9, _⟩ | ⟨q', rfl⟩ := haf
     ·exact absurd (by have h8 := congrArg List.length h9; rw [rfrs_len hln] at h8; exact List.length_eq_zero_iff.1 h8) hne
     have hrs := rroom_spec tm km (⟨ai', ni', ci', some ⟨q', 0, none⟩, nf', cf', bd', en', code', ao', no', co', st', sl'⟩ : MV) p c' q' rfl (rfrs tm.classes.length ys' M'.fs) (by rw [rfrs_len hln, ← hln]; exact hI'.nf) (by rw [rfrs_len hln]; omega) (by rw [hI'.tab.B]; have := hb'.B; omega) (fun x hx => by
      obtain ⟨g, hg, e⟩ := rfrs_u hx
      obtain ⟨w, hw, _⟩ := hok'.fr g hg
      exact ⟨w, by rw [e]; exact hw⟩) (fun w hw => hT.owns w hw)
     have hroom : 1 - (liveN c'.B : Int) + (ownsU tm (rfrs tm.classes.length ys' M'.fs) : Int) = M'.room tm := by
      rw [ownsU_rfrs tm hln, hI'.tab.B]
      unfold Ms.room bound
      omega
     rw [hroom] at hrs
     refine GX.wp_R ?_; intros
     refine GX.drawnE [RowR p 74 [.slice km.aC tm.classes.length km.cC, .slice km.aG tm.globals.length km.cG, .slice km.aU tm.units.length km.cU, .int .i64 tm.main, .slice km.aL (glob tm).length km.cL, .slice ai' ni' ci', .slice c'.aR c'.B.length c'.cR, .slice c'.aL c'.L.length c'.cL, .int .i64 c'.peak, .int .i64 c'.most, .slice (some ⟨km.gb, 0, none⟩) tm.globals.length tm.globals.length, .slice (⟨ai', ni', ci', some ⟨q', 0, none⟩, nf', cf', bd', en', code', ao', no', co', st', sl'⟩ : MV).af nf' cf', .int .i64 en', .int .i64 code', .slice ao' no' co', .int .i64 st', .int .i64 sl']] (fun j => !(List.contains [10] j)) [(0, true), (1, true), (2, true), (3, true), (4, true), (5, true), (6, false), (7, true), (8, true), (9, true), (10, false)] rfl (by kernel_rfl) (by kernel_rfl) GX.sA ?_; intro wd F hW hR
     refine GX.wp_T ?_; intros
     refine GX.gow ?_
     refine (cl hrs fun _ => ?_)
     try dsimp only
     refine GX.wp_T ?_; intros
     refine GX.wp_R ?_; intros
     rw [hles] at he'
     have hok2 := hok'.less
     have hb2 := hb'.less tm
     rw [hles] at hok2 hb2
     refine again ⟨⟨ai', ni', ci', some ⟨q', 0, none⟩, nf', cf', bd', en', code', ao', no', co', st', min sl' (M'.room tm)⟩, ys', c', { M' with slack := min M'.slack (M'.room tm) }⟩ ⟨rfl, rfl, rfl, trivial⟩ ⟨⟨hI'.tab, hI'.nf, hI'.len, hI'.en, hI'.code, hI'.steps, by show min sl' _ = min M'.slack _; rw [show sl' = M'.slack from hI'.slack], hI'.no, hI'.ni⟩, ?_, ?_, ?_, .inl ⟨hN, hok2, ⟨(hro' hN).code, (hro' hN).live, (hro' hN).one, (hro' hN).two⟩, hb2, n, ?_, he'⟩⟩ ?_
     ·show M'.tb.B.length ≤ _; have := hb'.B; omega
     ·show 0 ≤ M'.steps; omega
     ·show M'.steps ≤ Fu; omega
     ·show M'.steps + n = Fu; omega
     ·show (Fu - M'.steps).toNat + (if M'.en = 0 then 1 else 0) < (Fu - M.steps).toNat + (if M.en = 0 then 1 else 0)
      rw [if_pos hz]
      split <;> omega
    ·have hM2 : M'.en ≠ 0 := fun h => hz2 (hI'.en.trans h)
     have hN2 : N.en ≠ 0 := fun h => hM2 (hsim.en.trans h)
     have hles : N.less tm = N := if_neg hN2
     rw [hles, runM_ended hN2] at he'
     subst he'
     have hs9 := hsim.steps
     have hb9 : M'.tb.B.length = N.tb.B.length := by rw [hsim.tb]
     refine GX.wp_R ?_; intros
     refine again ⟨v', ys', c', M'⟩ ⟨rfl, rfl, rfl, trivial⟩ ⟨hI', ?_, ?_, ?_, .inr ⟨hM2, hsim⟩⟩ ?_
     ·show M'.tb.B.length ≤ _; have := hb'.B; omega
     ·show 0 ≤ M'.steps; omega
     ·show M'.steps ≤ Fu; omega
     ·show (Fu - M'.steps).toNat + (if M'.en = 0 then 1 else 0) < (Fu - M.steps).toNat + (if M.en = 0 then 1 else 0)
      rw [if_pos hz]
      split <;> omega
  ·have hz' : ¬ v.en = 0 := fun h => hz (hen.symm.trans h)
   refine GX.wp_R ?_; intros
   refine GX.o (cl (rran_spec tm km v p c M.tb hI.tab hBl M.out hI.no) fun s => ?_)
   have hres : (⟨⟨v.en, v.code, M.out, v.steps⟩, (clearT M.tb v.en).B.length, ((clearT M.tb v.en).B.length : Int) - (liveN (clearT M.tb v.en).B : Int), ((clearT M.tb v.en).B.length : Int) - (((clearT M.tb v.en).B.length : Int) - (liveN (clearT M.tb v.en).B : Int)), (clearT M.tb v.en).peak, v.slack, (clearT M.tb v.en).most⟩ : Api.Ran) = Mf.clear.ran := by
    rw [ran_of, ← hsim.tb, ← hsim.en, ← hsim.code, ← hsim.out, ← hsim.steps, ← hsim.slack, hen, hst, show v.code = M.code from hI.code, show v.slack = M.slack from hI.slack]
   rw [hres]
   refine GX.wp_R ?_; intros
   exact rt1B (fun cs => cs) (fun _ => rfl)
 ·rw [show playP tm inp fuel = ran0 from if_neg hRt]
  refine GX.wp_R ?_; intros
  exact rt1B (fun cs => cs) (fun _ => rfl)
end Go.Proofs.YtomadjefdghliaaGreat
