import Derived.Test.YtomadjefdghliaaGreatU20
import Derived.Test.YtomadjefdghliaaGreatU31
namespace Go.Proofs.YtomadjefdghliaaGreat
open Go Go.RR Go.RX Go.GX Go.Api Go.RtM
attribute [local irreducible] wpList Code.wp wpPlan Exit.then Exit.inBlock bodyPost NoPanic Went GX.Post GX.Again GX.Meet GX.RowR GX.Own GX.Owns GX.Box GX.Sl GX.Pt GX.Ag GX.MapR GX.Star GX.Kept GX.Pin wpT GoK AtEnd Both
theorem toMRH {tm : RTg} {km : MK} {p : Nat} {v : MV} {y : RCl} {ys : List RCl} {f : Fr} {r : List Fr} {c : RefC} {O L : List Int} : Turn [RowR p 74 [.slice km.aC tm.classes.length km.cC, .slice km.aG tm.globals.length km.cG, .slice km.aU tm.units.length km.cU, .int .i64 tm.main, .slice km.aL (glob tm).length km.cL, .slice v.ai v.ni v.ci, .slice c.aR c.B.length c.cR, .slice c.aL c.L.length c.cL, .int .i64 c.peak, .int .i64 c.most, .slice (some ⟨km.gb, 0, none⟩) tm.globals.length tm.globals.length, .slice v.af v.nf v.cf, .int .i64 v.en, .int .i64 v.code, .slice v.ao v.no v.co, .int .i64 v.steps, .int .i64 v.slack], GX.Own 4 Ty.bool c.aR c.cR c.B, GX.Own 139 tyThing c.aL c.cL (c.L.map thg), Owns 3 Ty.int (c.L.map (fun x : Th => x.2)), GX.Own 98 tyRFr v.af v.cf (rfrs tm.classes.length ys r ++ [rfr tm.classes.length y f]), GX.Own 3 Ty.int y.av y.cv f.vars, GX.Own 3 Ty.int (some ⟨y.gr, 0, none⟩) tm.classes.length (regL tm.classes.length f.regs), GX.Star (rres tm.classes.length ys r), GX.Own 3 Ty.int v.ao v.co O, GX.Own 3 Ty.int (some ⟨km.gb, 0, none⟩) tm.globals.length L] [RowR p 74 [.slice km.aC tm.classes.length km.cC, .slice km.aG tm.globals.length km.cG, .slice km.aU tm.units.length km.cU, .int .i64 tm.main, .slice km.aL (glob tm).length km.cL, .slice v.ai v.ni v.ci, .slice c.aR c.B.length c.cR, .slice c.aL c.L.length c.cL, .int .i64 c.peak, .int .i64 c.most, .slice (some ⟨km.gb, 0, none⟩) tm.globals.length tm.globals.length, .slice v.af v.nf v.cf, .int .i64 v.en, .int .i64 v.code, .slice v.ao v.no v.co, .int .i64 v.steps, .int .i64 v.slack], GX.Own 4 Ty.bool c.aR c.cR c.B, GX.Own 139 tyThing c.aL c.cL (c.L.map thg), Owns 3 Ty.int (c.L.map (fun x : Th => x.2)), GX.Own 98 tyRFr v.af v.cf (rfrs tm.classes.length (y :: ys) (f :: r)), GX.Star (rres tm.classes.length (y :: ys) (f :: r)), GX.Own 3 Ty.int v.ao v.co O, GX.Own 3 Ty.int (some ⟨km.gb, 0, none⟩) tm.globals.length L] := by
 rw [show rres tm.classes.length (y :: ys) (f :: r) = [GX.Own 3 Ty.int y.av y.cv f.vars, GX.Own 3 Ty.int (some ⟨y.gr, 0, none⟩) tm.classes.length (regL tm.classes.length f.regs)] ++ rres tm.classes.length ys r from rfl, show rfrs tm.classes.length (y :: ys) (f :: r) = rfrs tm.classes.length ys r ++ [rfr tm.classes.length y f] from rfl]
 exact (Turn.sel (hp2 := [GX.Own 3 Ty.int y.av y.cv f.vars, GX.Own 3 Ty.int (some ⟨y.gr, 0, none⟩) tm.classes.length (regL tm.classes.length f.regs)] ++ (GX.Star (rres tm.classes.length ys r) :: [RowR p 74 [.slice km.aC tm.classes.length km.cC, .slice km.aG tm.globals.length km.cG, .slice km.aU tm.units.length km.cU, .int .i64 tm.main, .slice km.aL (glob tm).length km.cL, .slice v.ai v.ni v.ci, .slice c.aR c.B.length c.cR, .slice c.aL c.L.length c.cL, .int .i64 c.peak, .int .i64 c.most, .slice (some ⟨km.gb, 0, none⟩) tm.globals.length tm.globals.length, .slice v.af v.nf v.cf, .int .i64 v.en, .int .i64 v.code, .slice v.ao v.no v.co, .int .i64 v.steps, .int .i64 v.slack], GX.Own 4 Ty.bool c.aR c.cR c.B, GX.Own 139 tyThing c.aL c.cL (c.L.map thg), Owns 3 Ty.int (c.L.map (fun x : Th => x.2)), GX.Own 98 tyRFr v.af v.cf (rfrs tm.classes.length ys r ++ [rfr tm.classes.length y f]), GX.Own 3 Ty.int v.ao v.co O, GX.Own 3 Ty.int (some ⟨km.gb, 0, none⟩) tm.globals.length L])) GX.sA).trans (Turn.starI.trans (Turn.sel GX.sA))
abbrev ROpOk (tm : RTg) (km : MK) (p : Nat) (v : MV) (y : RCl) (ys : List RCl) (f : Fr) (r : List Fr) (c : RefC) (M N : Ms) : Prop :=
 Does Tryz.prog 33 [.pointer (some ⟨p, 0, none⟩)] [Sl Ty.int km.aL km.cL (glob tm), Sl tyLayout km.aC km.cC tm.classes, Sl tyUnt km.aU km.cU tm.units, Sl Ty.int v.ai v.ci M.inp] [RowR p 74 [.slice km.aC tm.classes.length km.cC, .slice km.aG tm.globals.length km.cG, .slice km.aU tm.units.length km.cU, .int .i64 tm.main, .slice km.aL (glob tm).length km.cL, .slice v.ai v.ni v.ci, .slice c.aR c.B.length c.cR, .slice c.aL c.L.length c.cL, .int .i64 c.peak, .int .i64 c.most, .slice (some ⟨km.gb, 0, none⟩) tm.globals.length tm.globals.length, .slice v.af v.nf v.cf, .int .i64 v.en, .int .i64 v.code, .slice v.ao v.no v.co, .int .i64 v.steps, .int .i64 v.slack], GX.Own 4 Ty.bool c.aR c.cR c.B, GX.Own 139 tyThing c.aL c.cL (c.L.map thg), Owns 3 Ty.int (c.L.map (fun x : Th => x.2)), GX.Own 98 tyRFr v.af v.cf (rfrs tm.classes.length ys r ++ [rfr tm.classes.length y f]), GX.Own 3 Ty.int y.av y.cv f.vars, GX.Own 3 Ty.int (some ⟨y.gr, 0, none⟩) tm.classes.length (regL tm.classes.length f.regs), GX.Star (rres tm.classes.length ys r), GX.Own 3 Ty.int v.ao v.co M.out, GX.Own 3 Ty.int (some ⟨km.gb, 0, none⟩) tm.globals.length M.gl] (fun _ : { S : RS // RInv S.v S.ys S.c S.M ∧ Sim S.M N } => .tuple #[]) (fun s => [Sl Ty.int s.1.v.ai s.1.v.ci s.1.M.inp])
  (fun s => [RowR p 74 [.slice km.aC tm.classes.length km.cC, .slice km.aG tm.globals.length km.cG, .slice km.aU tm.units.length km.cU, .int .i64 tm.main, .slice km.aL (glob tm).length km.cL, .slice s.1.v.ai s.1.v.ni s.1.v.ci, .slice s.1.c.aR s.1.c.B.length s.1.c.cR, .slice s.1.c.aL s.1.c.L.length s.1.c.cL, .int .i64 s.1.c.peak, .int .i64 s.1.c.most, .slice (some ⟨km.gb, 0, none⟩) tm.globals.length tm.globals.length, .slice s.1.v.af s.1.v.nf s.1.v.cf, .int .i64 s.1.v.en, .int .i64 s.1.v.code, .slice s.1.v.ao s.1.v.no s.1.v.co, .int .i64 s.1.v.steps, .int .i64 s.1.v.slack], GX.Own 4 Ty.bool s.1.c.aR s.1.c.cR s.1.c.B, GX.Own 139 tyThing s.1.c.aL s.1.c.cL (s.1.c.L.map thg), Owns 3 Ty.int (s.1.c.L.map (fun x : Th => x.2)), GX.Own 98 tyRFr s.1.v.af s.1.v.cf (rfrs tm.classes.length s.1.ys s.1.M.fs), GX.Star (rres tm.classes.length s.1.ys s.1.M.fs), GX.Own 3 Ty.int s.1.v.ao s.1.v.co s.1.M.out, GX.Own 3 Ty.int (some ⟨km.gb, 0, none⟩) tm.globals.length s.1.M.gl])
section
variable {tm : RTg} {km : MK} {p : Nat} {v : MV} {y : RCl} {ys : List RCl} {f : Fr} {r : List Fr} {c : RefC} {M N : Ms} {u : Unt} {i : Ins}
theorem rop_keep {σ : Type} (v2 : σ → MV) (c2 : σ → RefC) (f2 : Fr) (M2 : Ms)
  (h : RSt tm km p v y ys f r c M v2 c2 f2 M2.inp M2.out M2.gl)
  (hfs : M2.fs = f2 :: r) (hI : ∀ s, RInv (v2 s) (y :: ys) (c2 s) M2) (hS : Sim M2 N) : ROpOk tm km p v y ys f r c M N :=
 Does.fitT h (fun s => ⟨⟨v2 s, y :: ys, c2 s, M2⟩, hI s, hS⟩) GX.aA GX.sA (fun _ => rfl) (fun s => by
  show AllIn [Sl Ty.int (v2 s).ai (v2 s).ci M2.inp] (Sl Ty.int (v2 s).ai (v2 s).ci M2.inp :: _)
  exact GX.aA) (fun s => by
  dsimp only
  rw [hfs]
  exact (Turn.sel GX.sA).trans toMRH)
theorem RInv.keep {T : Tb} {c2 : RefC} (hI : RInv v (y :: ys) c M) (hfs : M.fs = f :: r) (f2 : Fr) (hT : RTab c2 T) (e d : Int) : RInv { v with en := e, code := d } (y :: ys) c2 { M with tb := T, fs := f2 :: r, en := e, code := d } :=
 ⟨hT, hI.nf, by have := hI.len; rw [hfs] at this; exact this, rfl, rfl, hI.steps, hI.slack, hI.no, hI.ni⟩
theorem RInv.keep0 {T : Tb} {c2 : RefC} (hI : RInv v (y :: ys) c M) (hfs : M.fs = f :: r) (f2 : Fr) (hT : RTab c2 T) : RInv v (y :: ys) c2 { M with tb := T, fs := f2 :: r } :=
 ⟨hT, hI.nf, by have := hI.len; rw [hfs] at this; exact this, hI.en, hI.code, hI.steps, hI.slack, hI.no, hI.ni⟩
theorem RInv.same (hI : RInv v (y :: ys) c M) (hfs : M.fs = f :: r) (f2 : Fr) : RInv v (y :: ys) c { M with fs := f2 :: r } :=
 ⟨hI.tab, hI.nf, by have := hI.len; rw [hfs] at this; exact this, hI.en, hI.code, hI.steps, hI.slack, hI.no, hI.ni⟩
abbrev Fr.on (f : Fr) : Fr := { f with pc := f.pc + 1 }
theorem adv_tail (hfs : M.fs = f :: r) : (M.adv f).fs = f.on :: r := by show _ :: M.fs.tail = _; rw [hfs]; rfl
theorem adv_var (hfs : M.fs = f :: r) (a x : Int) : (M.adv f).var f.on a x = { M with fs := { f.on with vars := setv f.vars a x } :: r } := by
 show ({ M with fs := _ :: (M.adv f).fs.tail } : Ms) = _
 rw [adv_tail hfs]; rfl
theorem adv_eq (hfs : M.fs = f :: r) : M.adv f = { M with fs := f.on :: r } := by
 show ({ M with fs := _ :: M.fs.tail } : Ms) = _
 rw [hfs]; rfl
theorem Sim.ended {A B : Ms} (tb : A.tb = B.tb) (out : A.out = B.out) (steps : A.steps = B.steps) (slack : A.slack = B.slack) (e d : Int) (he : e ≠ 0) : Sim { A with en := e, code := d } (B.ends e d) :=
 ⟨tb, rfl, rfl, out, steps, slack, fun h => absurd h he⟩
theorem sim_trap {v : MV} {A B : Ms} (x : Int) (he : v.en = B.en) (hc : v.code = B.code) (hc0 : B.code = 0) (tb : A.tb = B.tb) (out : A.out = B.out) (steps : A.steps = B.steps) (slack : A.slack = B.slack) (h0 : x = 0 → ({ A with en := v.en, code := v.code } : Ms) = B) : Sim { A with en := rtE v x, code := rtC v x } (B.trap x) := by
 unfold rtE rtC Ms.trap
 by_cases hx : x = 0
 ·subst hx
  have e0 : ¬ ((0 : Int) = -1) := by omega
  have e1 : ¬ ((0 : Int) ≠ 0) := fun h => h rfl
  rw [if_neg e0, if_neg e1, if_neg e0, if_neg e1, if_pos rfl, h0 rfl]
  exact Sim.refl B
 ·by_cases h1 : x = -1
  ·rw [if_pos h1, if_pos h1, if_neg hx, if_pos h1, hc, hc0]
   exact Sim.ended tb out steps slack 4 0 (by omega)
  ·rw [if_neg h1, if_pos hx, if_neg h1, if_pos hx, if_neg hx, if_neg h1]
   exact Sim.ended tb out steps slack 2 x (by omega)
theorem rvar (hp : RPre tm v (y :: ys) f r c M u i) (x : Int)
  (h : RSt tm km p v y ys f r c M (fun _ : Unit => v) (fun _ => c) { f with pc := f.pc + 1, vars := setv f.vars i.a x } M.inp M.out M.gl) :
  ROpOk tm km p v y ys f r c M ((M.adv f).var f.on i.a x) :=
 rop_keep (fun _ => v) (fun _ => c) { f with pc := f.pc + 1, vars := setv f.vars i.a x } { M with fs := { f with pc := f.pc + 1, vars := setv f.vars i.a x } :: r } h rfl (fun _ => hp.hI.same hp.fs _) (by rw [adv_var hp.fs]; exact Sim.refl _)
theorem rgot (hp : RPre tm v (y :: ys) f r c M u i) (hc0 : M.code = 0) (q : Int × Int)
  (h : RSt tm km p v y ys f r c M (fun _ : Unit => { v with en := rtE v q.2, code := rtC v q.2 }) (fun _ => c) { f with pc := f.pc + 1, vars := setv f.vars i.a q.1 } M.inp M.out M.gl) :
  ROpOk tm km p v y ys f r c M ((M.adv f).got f.on i.a q) := by
 refine rop_keep (fun _ => { v with en := rtE v q.2, code := rtC v q.2 }) (fun _ => c) { f with pc := f.pc + 1, vars := setv f.vars i.a q.1 } { M with tb := M.tb, fs := { f with pc := f.pc + 1, vars := setv f.vars i.a q.1 } :: r, en := rtE v q.2, code := rtC v q.2 } h rfl (fun _ => hp.hI.keep hp.fs _ hp.hI.tab _ _) ?_
 unfold Ms.got
 by_cases hq : q.2 = 0
 ·rw [if_pos hq, adv_var hp.fs, hq]
  have := sim_trap (v := v) (A := { M with fs := { f.on with vars := setv f.vars i.a q.1 } :: r }) (B := { M with fs := { f.on with vars := setv f.vars i.a q.1 } :: r }) 0 hp.hI.en hp.hI.code hc0 rfl rfl rfl rfl (fun _ => by rw [hp.hI.en, hp.hI.code])
  exact this
 ·rw [if_neg hq]
  exact sim_trap (A := { M with fs := { f with pc := f.pc + 1, vars := setv f.vars i.a q.1 } :: r }) q.2 hp.hI.en hp.hI.code hc0 rfl rfl rfl rfl (fun h => absurd h hq)
theorem rtrapB {σ : Type} (hp : RPre tm v (y :: ys) f r c M u i) (hc0 : M.code = 0) (x : Int) (T : Tb) (c2 : σ → RefC) (hT : ∀ s, RTab (c2 s) T)
  (h : RSt tm km p v y ys f r c M (fun _ : σ => { v with en := rtE v x, code := rtC v x }) c2 { f with pc := f.pc + 1 } M.inp M.out M.gl) :
  ROpOk tm km p v y ys f r c M (({ M.adv f with tb := T } : Ms).trap x) :=
 rop_keep (fun _ => { v with en := rtE v x, code := rtC v x }) c2 { f with pc := f.pc + 1 } { M with tb := T, fs := { f with pc := f.pc + 1 } :: r, en := rtE v x, code := rtC v x } h rfl (fun s => hp.hI.keep hp.fs _ (hT s) _ _)
  (sim_trap (A := { M with tb := T, fs := { f with pc := f.pc + 1 } :: r }) x hp.hI.en hp.hI.code hc0 rfl rfl rfl rfl (fun _ => by rw [hp.hI.en, hp.hI.code, adv_eq hp.fs]))
theorem rfaultB {σ : Type} (hp : RPre tm v (y :: ys) f r c M u i) (hc0 : M.code = 0) (f2 : Fr) (T : Tb) (B : Ms) (c2 : σ → RefC) (hT : ∀ s, RTab (c2 s) T) (h1 : B.tb = T) (h2 : B.out = M.out) (h3 : B.steps = M.steps) (h4 : B.slack = M.slack)
  (h : RSt tm km p v y ys f r c M (fun _ : σ => { v with en := 4 }) c2 f2 M.inp M.out M.gl) :
  ROpOk tm km p v y ys f r c M (B.ends 4 0) :=
 rop_keep (fun _ => { v with en := 4 }) c2 f2 { M with tb := T, fs := f2 :: r, en := 4, code := v.code } h rfl (fun s => hp.hI.keep hp.fs _ (hT s) 4 v.code)
  (by rw [hp.hI.code, hc0]; exact Sim.ended (A := { M with tb := T, fs := f2 :: r }) h1.symm h2.symm h3.symm h4.symm 4 0 (by omega))
theorem RPre.ld (hp : RPre tm v (y :: ys) f r c M u i) (a b : Int) : loadP c.B (c.L.map row) a b = loadP M.tb.B M.tb.L a b := by rw [hp.hI.tab.B, hp.hI.tab.L]
theorem RPre.len (hp : RPre tm v (y :: ys) f r c M u i) (a : Int) : lenP c.B (c.L.map row) a = lenP M.tb.B M.tb.L a := by rw [hp.hI.tab.B, hp.hI.tab.L]
theorem RPre.Ll (hp : RPre tm v (y :: ys) f r c M u i) : c.L.length = M.tb.L.length := by rw [← hp.hI.tab.L, List.length_map]
theorem RPre.put (hp : RPre tm v (y :: ys) f r c M u i) (a b z : Int) : RTab (RefC.mk c.aR c.cR c.B c.aL c.cL (putTo c.B c.L a b z) c.peak c.most) (M.tb.put a b z) :=
 ⟨hp.hI.tab.B, by show (putTo c.B c.L a b z).map row = (putP M.tb.B M.tb.L a b z).2; rw [putTo_row, hp.hI.tab.B, hp.hI.tab.L], hp.hI.tab.peak, hp.hI.tab.most⟩
theorem rop1 (hp : RPre tm v (y :: ys) f r c M u i) (hc0 : M.code = 0) (ho : i.op = 1) : ROpOk tm km p v y ys f r c M ((M.adv f).go tm (glob tm) f.on i) := by
 rw [go1 ho]
 exact rvar hp _ (rstep1 tm km p v y ys f r c M u i hp ho)
theorem rop2 (hp : RPre tm v (y :: ys) f r c M u i) (hc0 : M.code = 0) (ho : i.op = 2) : ROpOk tm km p v y ys f r c M ((M.adv f).go tm (glob tm) f.on i) := by
 rw [go2 ho]
 exact rvar hp _ (rstep2 tm km p v y ys f r c M u i hp ho)
theorem rop3 (hp : RPre tm v (y :: ys) f r c M u i) (hc0 : M.code = 0) (ho : i.op = 3) : ROpOk tm km p v y ys f r c M ((M.adv f).go tm (glob tm) f.on i) := by
 rw [go3 ho]
 exact rvar hp _ (rstep3 tm km p v y ys f r c M u i hp ho)
theorem rop5 (hp : RPre tm v (y :: ys) f r c M u i) (hc0 : M.code = 0) (ho : i.op = 5) : ROpOk tm km p v y ys f r c M ((M.adv f).go tm (glob tm) f.on i) := by
 rw [go5 ho]
 exact rvar hp _ (rstep5 tm km p v y ys f r c M u i hp ho)
theorem rop19 (hp : RPre tm v (y :: ys) f r c M u i) (hc0 : M.code = 0) (ho : i.op = 19) : ROpOk tm km p v y ys f r c M ((M.adv f).go tm (glob tm) f.on i) := by
 rw [go19 ho]
 exact rvar hp _ (rstep19 tm km p v y ys f r c M u i hp ho)
theorem rop4 (hp : RPre tm v (y :: ys) f r c M u i) (hc0 : M.code = 0) (ho : i.op = 4) : ROpOk tm km p v y ys f r c M ((M.adv f).go tm (glob tm) f.on i) := by
 rw [go4 ho]
 exact rgot hp hc0 _ (rstep4 tm km p v y ys f r c M u i hp ho)
theorem rop6 (hp : RPre tm v (y :: ys) f r c M u i) (hc0 : M.code = 0) (ho : i.op = 6) : ROpOk tm km p v y ys f r c M ((M.adv f).go tm (glob tm) f.on i) := by
 rw [go6 ho]
 have h := rstep6 tm km p v y ys f r c M u i hp ho
 rw [hp.ld] at h
 exact rgot hp hc0 _ h
theorem rop8 (hp : RPre tm v (y :: ys) f r c M u i) (hc0 : M.code = 0) (ho : i.op = 8) : ROpOk tm km p v y ys f r c M ((M.adv f).go tm (glob tm) f.on i) := by
 rw [go8 ho]
 have h := rstep8 tm km p v y ys f r c M u i hp ho
 rw [hp.ld] at h
 exact rgot hp hc0 _ h
theorem rop10 (hp : RPre tm v (y :: ys) f r c M u i) (hc0 : M.code = 0) (ho : i.op = 10) : ROpOk tm km p v y ys f r c M ((M.adv f).go tm (glob tm) f.on i) := by
 rw [go10 ho]
 have h := rstep10 tm km p v y ys f r c M u i hp ho
 rw [hp.len] at h
 exact rgot hp hc0 _ h
theorem rop7 (hp : RPre tm v (y :: ys) f r c M u i) (hc0 : M.code = 0) (ho : i.op = 7) : ROpOk tm km p v y ys f r c M ((M.adv f).go tm (glob tm) f.on i) := by
 rw [go7 ho]
 have h := rstep7 tm km p v y ys f r c M u i hp ho
 rw [hp.ld] at h
 exact rtrapB hp hc0 _ _ (fun _ => _) (fun _ => hp.put _ _ _) h
theorem rop9 (hp : RPre tm v (y :: ys) f r c M u i) (hc0 : M.code = 0) (ho : i.op = 9) : ROpOk tm km p v y ys f r c M ((M.adv f).go tm (glob tm) f.on i) := by
 rw [go9 ho]
 have h := rstep9 tm km p v y ys f r c M u i hp ho
 rw [hp.ld] at h
 exact rtrapB hp hc0 _ _ (fun _ => _) (fun _ => hp.put _ _ _) h
theorem RTab.add {c : RefC} {T : Tb} (h : RTab c T) (a : Option Addr) (k : Nat) (bl : Nat) (r n : Int) (hr : hasB T.B r = true) : RTab (RefC.mk c.aR c.cR c.B a k (c.L ++ [(r, some ⟨bl, 0, none⟩, cells n, List.replicate (cells n) 0)]) c.peak (max c.most (nowN c.B (c.L.map row ++ [(r, List.replicate (cells n) 0)]) : Int))) (T.add r n) := by
 obtain ⟨h1, h2, h3, h4⟩ := h
 unfold Tb.add
 rw [if_pos hr]
 exact ⟨h1, by show (c.L ++ [_]).map row = T.L ++ _; rw [List.map_append, h2]; rfl, h3, by show max c.most _ = max T.most _; rw [h1, h2, h4]⟩
theorem class_of (n : Int) (h : 0 ≤ n ∧ n < (tm.classes.length : Int)) : ∃ j : Nat, n = j ∧ j < tm.classes.length := ⟨n.toNat, by omega, by omega⟩
theorem own_class (hR : RightP tm) {u : Unt} (hu : u ∈ tm.units) : ∀ n ∈ u.owns, ∃ j : Nat, n = j ∧ j < tm.classes.length := fun n hn => class_of n ((right_unit hR hu).1.2.2.2.2.2.1.2 n hn).1
theorem take_class (hR : RightP tm) {u : Unt} (hu : u ∈ tm.units) : ∀ n ∈ u.takes, ∃ j : Nat, n = j ∧ j < tm.classes.length := fun n hn => by
 have h := (right_unit hR hu).1.2.2.2.2.1.2 n hn
 unfold outOf at h
 have := ReachM.fromL_in (List.mem_filter.1 h).1
 rw [flds_len] at this
 exact class_of n this
theorem rop11 (hp : RPre tm v (y :: ys) f r c M u i) (hc0 : M.code = 0) (ho : i.op = 11) : ROpOk tm km p v y ys f r c M ((M.adv f).go tm (glob tm) f.on i) := by
 rw [go11 ho]
 obtain ⟨C, hC⟩ := hp.hi.cls (.inl ho)
 rw [hC]
 dsimp only
 have hB := hp.hI.tab.B
 cases hh : hasB c.B (reg (glob tm) f i.n) with
 | false =>
  rw [show (M.adv f).lies (glob tm) f.on i.a i.n ((C.refs.length : Nat) : Int) = (M.adv f).ends 4 0 from if_neg (by show ¬ hasB M.tb.B (reg (glob tm) f i.n) = true; rw [← hB, hh]; exact Bool.noConfusion)]
  exact rfaultB hp hc0 _ M.tb (M.adv f) (fun _ => c) (fun _ => hp.hI.tab) rfl rfl rfl rfl (rstep11f tm km p v y ys f r c M u i hp ho C hC hh)
 | true =>
  have hh2 : hasB M.tb.B (reg (glob tm) f i.n) = true := by rw [← hB]; exact hh
  rw [show (M.adv f).lies (glob tm) f.on i.a i.n ((C.refs.length : Nat) : Int) = { (M.adv f).var f.on i.a ((M.tb.L.length + 1 : Nat) : Int) with tb := M.tb.add (reg (glob tm) f i.n) ((C.refs.length : Nat) : Int) } from if_pos hh2]
  have h := rstep11t tm km p v y ys f r c M u i hp ho C hC hh
  rw [← hp.Ll]
  exact rop_keep (fun _ => v) (fun s : Nat × Option Addr × Nat => RefC.mk c.aR c.cR c.B s.2.1 s.2.2 (c.L ++ [(reg (glob tm) f i.n, some ⟨s.1, 0, none⟩, cells ((C.refs.length : Nat) : Int), List.replicate (cells ((C.refs.length : Nat) : Int)) 0)]) c.peak (max c.most (nowN c.B (c.L.map row ++ [(reg (glob tm) f i.n, List.replicate (cells ((C.refs.length : Nat) : Int)) 0)]) : Int))) { f with pc := f.pc + 1, vars := setv f.vars i.a ((c.L.length + 1 : Nat) : Int) } { M with tb := M.tb.add (reg (glob tm) f i.n) ((C.refs.length : Nat) : Int), fs := { f with pc := f.pc + 1, vars := setv f.vars i.a ((c.L.length + 1 : Nat) : Int) } :: r } h rfl (fun s => hp.hI.keep0 hp.fs _ (hp.hI.tab.add _ _ _ _ _ hh2)) (by rw [adv_var hp.fs]; exact Sim.refl _)
theorem rop12 (hp : RPre tm v (y :: ys) f r c M u i) (hc0 : M.code = 0) (ho : i.op = 12) : ROpOk tm km p v y ys f r c M ((M.adv f).go tm (glob tm) f.on i) := by
 rw [go12 ho]
 by_cases hz : lkv f.vars i.b < 0
 ·rw [if_pos (.inl hz)]
  exact rtrapB hp hc0 4 M.tb (fun _ => c) (fun _ => hp.hI.tab) (rstep12n tm km p v y ys f r c M u i hp ho hz)
 by_cases hz2 : 50 < lkv f.vars i.b
 ·rw [if_pos (.inr hz2)]
  exact rtrapB hp hc0 4 M.tb (fun _ => c) (fun _ => hp.hI.tab) (rstep12m tm km p v y ys f r c M u i hp ho hz hz2)
 rw [if_neg (fun h => h.elim hz hz2)]
 have hB := hp.hI.tab.B
 cases hh : hasB c.B (reg (glob tm) f i.n) with
 | false =>
  rw [show (M.adv f).lies (glob tm) f.on i.a i.n (lkv f.vars i.b) = (M.adv f).ends 4 0 from if_neg (by show ¬ hasB M.tb.B (reg (glob tm) f i.n) = true; rw [← hB, hh]; exact Bool.noConfusion)]
  exact rfaultB hp hc0 _ M.tb (M.adv f) (fun _ => c) (fun _ => hp.hI.tab) rfl rfl rfl rfl (rstep12f tm km p v y ys f r c M u i hp ho hz hz2 hh)
 | true =>
  have hh2 : hasB M.tb.B (reg (glob tm) f i.n) = true := by rw [← hB]; exact hh
  rw [show (M.adv f).lies (glob tm) f.on i.a i.n (lkv f.vars i.b) = { (M.adv f).var f.on i.a ((M.tb.L.length + 1 : Nat) : Int) with tb := M.tb.add (reg (glob tm) f i.n) (lkv f.vars i.b) } from if_pos hh2]
  have h := rstep12t tm km p v y ys f r c M u i hp ho hz hz2 hh
  rw [← hp.Ll]
  exact rop_keep (fun _ => v) (fun s : Nat × Option Addr × Nat => RefC.mk c.aR c.cR c.B s.2.1 s.2.2 (c.L ++ [(reg (glob tm) f i.n, some ⟨s.1, 0, none⟩, cells (lkv f.vars i.b), List.replicate (cells (lkv f.vars i.b)) 0)]) c.peak (max c.most (nowN c.B (c.L.map row ++ [(reg (glob tm) f i.n, List.replicate (cells (lkv f.vars i.b)) 0)]) : Int))) { f with pc := f.pc + 1, vars := setv f.vars i.a ((c.L.length + 1 : Nat) : Int) } { M with tb := M.tb.add (reg (glob tm) f i.n) (lkv f.vars i.b), fs := { f with pc := f.pc + 1, vars := setv f.vars i.a ((c.L.length + 1 : Nat) : Int) } :: r } h rfl (fun s => hp.hI.keep0 hp.fs _ (hp.hI.tab.add _ _ _ _ _ hh2)) (by rw [adv_var hp.fs]; exact Sim.refl _)
theorem rop14 (hp : RPre tm v (y :: ys) f r c M u i) (hc0 : M.code = 0) (ho : i.op = 14) : ROpOk tm km p v y ys f r c M ((M.adv f).go tm (glob tm) f.on i) := by
 rw [go14 ho]
 show ROpOk tm km p v y ys f r c M (match M.inp with | [] => (M.adv f).trap 5 | y :: l => { (M.adv f).var f.on i.a y with inp := l })
 cases hin : M.inp with
 | nil => 
  have h := rtrapB hp hc0 5 M.tb (fun _ => c) (fun _ => hp.hI.tab) (rstep14n tm km p v y ys f r c M u i hp ho hin)
  exact h
 | cons z l =>
  have h := rstep14y tm km p v y ys f r c M u i hp ho z l hin
  exact rop_keep (fun s : Option Addr × Nat => { v with ai := s.1, ni := l.length, ci := s.2 }) (fun _ => c) { f with pc := f.pc + 1, vars := setv f.vars i.a z } { M with fs := { f with pc := f.pc + 1, vars := setv f.vars i.a z } :: r, inp := l } h rfl (fun s => ⟨hp.hI.tab, hp.hI.nf, (hp.hI.same hp.fs f).len, hp.hI.en, hp.hI.code, hp.hI.steps, hp.hI.slack, hp.hI.no, rfl⟩) (by
   show Sim _ ({ M with fs := _ :: (M.adv f).fs.tail, inp := l } : Ms)
   rw [adv_tail hp.fs]
   exact Sim.refl _)
theorem rop15 (hp : RPre tm v (y :: ys) f r c M u i) (hc0 : M.code = 0) (ho : i.op = 15) : ROpOk tm km p v y ys f r c M ((M.adv f).go tm (glob tm) f.on i) := by
 rw [go15 ho]
 exact rop_keep (fun s : Option Addr × Nat => { v with ao := s.1, no := M.out.length + 1, co := s.2 }) (fun _ => c) { f with pc := f.pc + 1 } { M with fs := { f with pc := f.pc + 1 } :: r, out := M.out ++ [lkv f.vars i.a] } (rstep15 tm km p v y ys f r c M u i hp ho) rfl (fun s => ⟨hp.hI.tab, hp.hI.nf, (hp.hI.same hp.fs f).len, hp.hI.en, hp.hI.code, hp.hI.steps, hp.hI.slack, by show M.out.length + 1 = _; rw [List.length_append]; rfl, hp.hI.ni⟩) (by rw [adv_eq hp.fs]; exact Sim.refl _)
theorem rop16 (hp : RPre tm v (y :: ys) f r c M u i) (hc0 : M.code = 0) (ho : i.op = 16) : ROpOk tm km p v y ys f r c M ((M.adv f).go tm (glob tm) f.on i) := by
 rw [go16 ho]
 exact rop_keep (fun _ => v) (fun _ => c) { f with pc := i.n } { M with fs := { f with pc := i.n } :: r } (rstep16 tm km p v y ys f r c M u i hp ho) rfl (fun _ => hp.hI.same hp.fs _) (by
  show Sim _ ({ M with fs := _ :: (M.adv f).fs.tail } : Ms)
  rw [adv_tail hp.fs]
  exact Sim.refl _)
theorem rop17 (hp : RPre tm v (y :: ys) f r c M u i) (hc0 : M.code = 0) (ho : i.op = 17) : ROpOk tm km p v y ys f r c M ((M.adv f).go tm (glob tm) f.on i) := by
 rw [go17 ho]
 exact rop_keep (fun _ => v) (fun _ => c) { f with pc := if lkv f.vars i.a ≠ 0 then i.n else i.c } { M with fs := { f with pc := if lkv f.vars i.a ≠ 0 then i.n else i.c } :: r } (rstep17 tm km p v y ys f r c M u i hp ho) rfl (fun _ => hp.hI.same hp.fs _) (by
  show Sim _ ({ M with fs := _ :: (M.adv f).fs.tail } : Ms)
  rw [adv_tail hp.fs]
  exact Sim.refl _)
theorem rop20 (hp : RPre tm v (y :: ys) f r c M u i) (hc0 : M.code = 0) (ho : i.op = 20) : ROpOk tm km p v y ys f r c M ((M.adv f).go tm (glob tm) f.on i) := by
 rw [go20 ho]
 exact rop_keep (fun _ => v) (fun _ => c) { f with pc := f.pc + 1 } { M with fs := { f with pc := f.pc + 1 } :: r, gl := setv M.gl i.n (lkv f.vars i.a) } (rstep20 tm km p v y ys f r c M u i hp ho) rfl (fun _ => ⟨hp.hI.tab, hp.hI.nf, (hp.hI.same hp.fs f).len, hp.hI.en, hp.hI.code, hp.hI.steps, hp.hI.slack, hp.hI.no, hp.hI.ni⟩) (by rw [adv_eq hp.fs]; exact Sim.refl _)
theorem rop21 (hp : RPre tm v (y :: ys) f r c M u i) (hc0 : M.code = 0) (ho : i.op = 21) (hR : RightP tm) : ROpOk tm km p v y ys f r c M ((M.adv f).go tm (glob tm) f.on i) := by
 rw [go21 ho]
 have hcl : ∀ n ∈ i.args, ∃ j : Nat, n = j ∧ j < tm.classes.length := fun n hn => own_class hR (gt_mem hp.unit) n ((hp.hi.own (by omega)).2 n hn)
 show ROpOk tm km p v y ys f r c M ((M.adv f).regs f.on (crT i.args M.tb f.regs))
 obtain ⟨⟨T1, m1, ok⟩, hr⟩ : ∃ q : Tb × (Int → Int) × Bool, crT i.args M.tb f.regs = q := ⟨_, rfl⟩
 rw [hr]
 cases ok with
 | true =>
  refine rop_keep (fun _ => v) (fun s : {c1 : RefC // RTab c1 T1} => s.1) { f with pc := f.pc + 1, regs := m1 } { M with tb := T1, fs := { f with pc := f.pc + 1, regs := m1 } :: r } (rstep21t tm km p v y ys f r c M u i hp ho hcl T1 m1 hr) rfl (fun s => hp.hI.keep0 hp.fs _ s.2) ?_
  show Sim _ ({ M with tb := T1, fs := _ :: (M.adv f).fs.tail } : Ms)
  rw [adv_tail hp.fs]
  exact Sim.refl _
 | false =>
  exact rfaultB hp hc0 { f with pc := f.pc + 1, regs := m1 } T1 ({ (M.adv f).top { f.on with regs := m1 } with tb := T1 } : Ms) (fun s : {c1 : RefC // RTab c1 T1} => s.1) (fun s => s.2) rfl rfl rfl rfl (rstep21f tm km p v y ys f r c M u i hp ho hcl T1 m1 hr)
theorem rop22 (hp : RPre tm v (y :: ys) f r c M u i) (hc0 : M.code = 0) (ho : i.op = 22) (hR : RightP tm) (hrm : rmR i.args M.tb f.regs = rmT i.args M.tb f.regs) : ROpOk tm km p v y ys f r c M ((M.adv f).go tm (glob tm) f.on i) := by
 rw [go22 ho]
 have hcl : ∀ n ∈ i.args, ∃ j : Nat, n = j ∧ j < tm.classes.length := fun n hn => own_class hR (gt_mem hp.unit) n ((hp.hi.own (by omega)).2 n hn)
 show ROpOk tm km p v y ys f r c M ((M.adv f).regs f.on (rmT i.args M.tb f.regs))
 rw [← hrm]
 obtain ⟨⟨T1, m1, ok⟩, hr⟩ : ∃ q : Tb × (Int → Int) × Bool, rmR i.args M.tb f.regs = q := ⟨_, rfl⟩
 rw [hr]
 cases ok with
 | true =>
  refine rop_keep (fun _ => v) (fun s : {c1 : RefC // RTab c1 T1} => s.1) { f with pc := f.pc + 1, regs := m1 } { M with tb := T1, fs := { f with pc := f.pc + 1, regs := m1 } :: r } (rstep22t tm km p v y ys f r c M u i hp ho hcl T1 m1 hr) rfl (fun s => hp.hI.keep0 hp.fs _ s.2) ?_
  show Sim _ ({ M with tb := T1, fs := _ :: (M.adv f).fs.tail } : Ms)
  rw [adv_tail hp.fs]
  exact Sim.refl _
 | false =>
  exact rfaultB hp hc0 { f with pc := f.pc + 1, regs := m1 } T1 ({ (M.adv f).top { f.on with regs := m1 } with tb := T1 } : Ms) (fun s : {c1 : RefC // RTab c1 T1} => s.1) (fun s => s.2) rfl rfl rfl rfl (rstep22f tm km p v y ys f r c M u i hp ho hcl T1 m1 hr)
theorem rop13 (hp : RPre tm v (y :: ys) f r c M u i) (hc0 : M.code = 0) (ho : i.op = 13) (hR : RightP tm) (hTk : ∀ g ∈ tm.units, g.takes.length ≤ 1000000) : ROpOk tm km p v y ys f r c M ((M.adv f).go tm (glob tm) f.on i) := by
 rw [go13 ho]
 obtain ⟨g, hg, _, hal, hargs, hia, _⟩ := call_v (hp.hi.call ho)
 obtain ⟨j, hj, _, hjg⟩ := gt_some hg
 have hgm : g ∈ tm.units := gt_mem hg
 have hgv : g.vars.length ≤ 4000 := (right_unit hR hgm).1.1.2.2.2
 have hnf : v.nf = M.fs.length := hp.hI.nf.trans hp.hI.len
 have hlen : (M.adv f).fs.length = M.fs.length := by rw [adv_tail hp.fs, hp.fs]; rfl
 by_cases hd : 40 ≤ M.fs.length
 ·rw [show (M.adv f).call tm (glob tm) f.on i = (M.adv f).trap 6 from if_pos (by rw [hlen]; exact hd)]
  exact rtrapB hp hc0 6 M.tb (fun _ => c) (fun _ => hp.hI.tab) (rstep13d tm km p v y ys f r c M u i hp ho (by omega))
 have hnc := hR.1.1
 have hargs2 : ∀ n ∈ i.args, Vok f n := fun n hn => vok hp.hv (hargs n hn)
 have hB := hp.hI.tab.B
 cases hm : takeR (glob tm) M.tb.B f.on g.takes (fun _ => 0) with
 | none =>
  rw [show (M.adv f).call tm (glob tm) f.on i = (M.adv f).ends 4 0 by
   unfold Ms.call
   rw [if_neg (by rw [hlen]; exact hd), hg]
   dsimp only
   rw [show takeR (glob tm) (M.adv f).tb.B f.on g.takes (fun _ => 0) = none from hm]]
  exact rfaultB hp hc0 _ M.tb (M.adv f) (fun _ => c) (fun _ => hp.hI.tab) rfl rfl rfl rfl (rstep13n tm km p v y ys f r c M u i hp ho j g hjg hj (by omega) (take_class hR hgm) (by have := hTk g hgm; omega) (by omega) hargs2 hal (by omega) (by rw [hB]; exact hm))
 | some m' =>
  rw [show (M.adv f).call tm (glob tm) f.on i = { M with fs := ⟨i.c, 0, argsV f.on i g.vars.length, i.a, m'⟩ :: f.on :: r } by
   unfold Ms.call
   rw [if_neg (by rw [hlen]; exact hd), hg]
   dsimp only
   rw [show takeR (glob tm) (M.adv f).tb.B f.on g.takes (fun _ => 0) = some m' from hm]
   dsimp only
   rw [adv_tail hp.fs]; rfl]
  have h := rstep13y tm km p v y ys f r c M u i hp ho j g hjg hj (by omega) (take_class hR hgm) (by have := hTk g hgm; omega) (by omega) hargs2 hal (by omega) m' (by rw [hB]; exact hm)
  refine Does.fitT h (fun s => ⟨⟨{ v with af := s.2.2.1, nf := v.nf + 1, cf := s.2.2.2 }, ⟨s.2.1.1, s.2.1.2, s.1⟩ :: y :: ys, c, { M with fs := ⟨i.c, 0, argsV f.on i g.vars.length, i.a, m'⟩ :: f.on :: r }⟩, ⟨hp.hI.tab, ?_, ?_, hp.hI.en, hp.hI.code, hp.hI.steps, hp.hI.slack, hp.hI.no, hp.hI.ni⟩, Sim.refl _⟩) GX.aA GX.sA (fun _ => rfl) (fun s => by
   show AllIn [Sl Ty.int v.ai v.ci M.inp] (Sl Ty.int v.ai v.ci M.inp :: _)
   exact GX.aA) (fun s => ?_)
  ·show v.nf + 1 = (y :: ys).length + 1
   rw [hp.hI.nf]
  ·have := hp.hI.len
   rw [hp.fs] at this
   show (y :: ys).length + 1 = (f :: r).length + 1
   rw [this]
  ·dsimp only
   refine Turn.trans ?_ (toMRH (v := { v with af := s.2.2.1, nf := v.nf + 1, cf := s.2.2.2 }) (y := ⟨s.2.1.1, s.2.1.2, s.1⟩) (ys := y :: ys) (f := ⟨i.c, 0, argsV f.on i g.vars.length, i.a, m'⟩) (r := f.on :: r) (c := c) (O := M.out) (L := M.gl))
   rw [show rres tm.classes.length (y :: ys) (f.on :: r) = [GX.Own 3 Ty.int y.av y.cv f.vars, GX.Own 3 Ty.int (some ⟨y.gr, 0, none⟩) tm.classes.length (regL tm.classes.length f.regs)] ++ rres tm.classes.length ys r from rfl, show rfrs tm.classes.length (y :: ys) (f.on :: r) = rfrs tm.classes.length ys r ++ [rfr tm.classes.length y f.on] from rfl]
   exact (Turn.sel (hp2 := [GX.Own 3 Ty.int y.av y.cv f.vars, GX.Own 3 Ty.int (some ⟨y.gr, 0, none⟩) tm.classes.length (regL tm.classes.length f.regs)] ++ (GX.Star (rres tm.classes.length ys r) :: [RowR p 74 [.slice km.aC tm.classes.length km.cC, .slice km.aG tm.globals.length km.cG, .slice km.aU tm.units.length km.cU, .int .i64 tm.main, .slice km.aL (glob tm).length km.cL, .slice v.ai v.ni v.ci, .slice c.aR c.B.length c.cR, .slice c.aL c.L.length c.cL, .int .i64 c.peak, .int .i64 c.most, .slice (some ⟨km.gb, 0, none⟩) tm.globals.length tm.globals.length, .slice s.2.2.1 (v.nf + 1) s.2.2.2, .int .i64 v.en, .int .i64 v.code, .slice v.ao v.no v.co, .int .i64 v.steps, .int .i64 v.slack], GX.Own 4 Ty.bool c.aR c.cR c.B, GX.Own 139 tyThing c.aL c.cL (c.L.map thg), Owns 3 Ty.int (c.L.map (fun x : Th => x.2)), GX.Own 98 tyRFr s.2.2.1 s.2.2.2 (rfrs tm.classes.length ys r ++ [rfr tm.classes.length y f.on] ++ [rfr tm.classes.length ⟨s.2.1.1, s.2.1.2, s.1⟩ ⟨i.c, 0, argsV f.on i g.vars.length, i.a, m'⟩]), GX.Own 3 Ty.int s.2.1.1 s.2.1.2 (argsV f.on i g.vars.length), GX.Own 3 Ty.int (some ⟨s.1, 0, none⟩) tm.classes.length (regL tm.classes.length m'), GX.Own 3 Ty.int v.ao v.co M.out, GX.Own 3 Ty.int (some ⟨km.gb, 0, none⟩) tm.globals.length M.gl])) GX.sA).trans (Turn.starI.trans (Turn.sel GX.sA))
theorem rop18 (hp : RPre tm v (y :: ys) f r c M u i) (hc0 : M.code = 0) (ho : i.op = 18) : ROpOk tm km p v y ys f r c M ((M.adv f).go tm (glob tm) f.on i) := by
 rw [go18 ho]
 have hia0 : i.a = -1 ∨ Vok f i.a := (hp.hi.ret ho).imp id (vok hp.hv)
 have hlen := hp.hI.len
 rw [hp.fs] at hlen
 cases r with
 | nil =>
  obtain rfl : ys = [] := List.length_eq_zero_iff.1 (by simpa using hlen)
  rw [show (M.adv f).ret f.on i = ({ M.adv f with fs := [] } : Ms).ends 1 0 by unfold Ms.ret; rw [adv_tail hp.fs]; rfl]
  refine Does.fitT (rstep18l tm km p v y f c M u i hp ho hia0) (fun s => ⟨⟨{ v with nf := 0, en := 1 }, [], c, { M with fs := [], en := 1, code := v.code }⟩, ⟨hp.hI.tab, rfl, rfl, rfl, rfl, hp.hI.steps, hp.hI.slack, hp.hI.no, hp.hI.ni⟩, ?_⟩) GX.aA GX.sA (fun _ => rfl) (fun s => by
   show AllIn [Sl Ty.int v.ai v.ci M.inp] (Sl Ty.int v.ai v.ci M.inp :: _)
   exact GX.aA) (fun s => Turn.sel GX.sA)
  rw [hp.hI.code, hc0]
  exact Sim.ended (A := { M with fs := [] }) (B := { M.adv f with fs := [] }) rfl rfl rfl rfl 1 0 (by omega)
 | cons h r =>
  cases ys with
  | nil => exact absurd hlen (by simp)
  | cons y2 ys =>
   obtain ⟨h', hh'⟩ : ∃ h' : Fr, h' = { h with vars := if 0 ≤ f.into then setv h.vars f.into (if 0 ≤ i.a then lkv f.vars i.a else 0) else h.vars } := ⟨_, rfl⟩
   rw [show (M.adv f).ret f.on i = { M with fs := h' :: r } by
    unfold Ms.ret
    rw [adv_tail hp.fs, hh']
    show ({ M with fs := (if 0 ≤ f.into then ({ h with vars := setv h.vars f.into (if 0 ≤ i.a then lkv f.vars i.a else 0) } : Fr) else h) :: r } : Ms) = _
    split <;> rfl]
   have hc := rstep18m tm km p v y y2 ys f h r c M u i hp ho hia0
   rw [← hh'] at hc
   refine Does.fitU (rest := []) hc (fun s => ⟨⟨{ v with nf := (rfrs tm.classes.length ys r).length + 1 }, y2 :: ys, c, { M with fs := h' :: r }⟩, ⟨hp.hI.tab, ?_, ?_, hp.hI.en, hp.hI.code, hp.hI.steps, hp.hI.slack, hp.hI.no, hp.hI.ni⟩, Sim.refl _⟩) GX.aA ?_ (fun _ => rfl) (fun s => ?_) (fun s => ?_)
   ·have h2 : ys.length = r.length := by simpa using hlen
    show (rfrs tm.classes.length ys r).length + 1 = ys.length + 1
    rw [rfrs_len h2, h2]
   ·show (y2 :: ys).length = (h' :: r).length
    simpa using hlen
   ·rw [show rres tm.classes.length (y2 :: ys) (h :: r) = [GX.Own 3 Ty.int y2.av y2.cv h.vars, GX.Own 3 Ty.int (some ⟨y2.gr, 0, none⟩) tm.classes.length (regL tm.classes.length h.regs)] ++ rres tm.classes.length ys r from rfl]
    exact (Turn.sel (hp2 := GX.Star ([GX.Own 3 Ty.int y2.av y2.cv h.vars, GX.Own 3 Ty.int (some ⟨y2.gr, 0, none⟩) tm.classes.length (regL tm.classes.length h.regs)] ++ rres tm.classes.length ys r) :: [RowR p 74 [.slice km.aC tm.classes.length km.cC, .slice km.aG tm.globals.length km.cG, .slice km.aU tm.units.length km.cU, .int .i64 tm.main, .slice km.aL (glob tm).length km.cL, .slice v.ai v.ni v.ci, .slice c.aR c.B.length c.cR, .slice c.aL c.L.length c.cL, .int .i64 c.peak, .int .i64 c.most, .slice (some ⟨km.gb, 0, none⟩) tm.globals.length tm.globals.length, .slice v.af v.nf v.cf, .int .i64 v.en, .int .i64 v.code, .slice v.ao v.no v.co, .int .i64 v.steps, .int .i64 v.slack], GX.Own 4 Ty.bool c.aR c.cR c.B, GX.Own 139 tyThing c.aL c.cL (c.L.map thg), Owns 3 Ty.int (c.L.map (fun x : Th => x.2)), GX.Own 98 tyRFr v.af v.cf (rfrs tm.classes.length (y2 :: ys) (h :: r) ++ [rfr tm.classes.length y f]), GX.Own 3 Ty.int y.av y.cv f.vars, GX.Own 3 Ty.int (some ⟨y.gr, 0, none⟩) tm.classes.length (regL tm.classes.length f.regs), GX.Own 3 Ty.int v.ao v.co M.out, GX.Own 3 Ty.int (some ⟨km.gb, 0, none⟩) tm.globals.length M.gl]) GX.sA).trans (Turn.starO.trans (Turn.sel GX.sA))
   ·show AllIn [Sl Ty.int v.ai v.ci M.inp] (Sl Ty.int v.ai v.ci M.inp :: _)
    exact GX.aA
   ·dsimp only
    rw [show (if 0 ≤ f.into then setv h.vars f.into (if 0 ≤ i.a then lkv f.vars i.a else 0) else h.vars) = h'.vars by rw [hh'], show regL tm.classes.length h.regs = regL tm.classes.length h'.regs by rw [hh']]
    exact (Turn.sel (hp2 := [RowR p 74 [.slice km.aC tm.classes.length km.cC, .slice km.aG tm.globals.length km.cG, .slice km.aU tm.units.length km.cU, .int .i64 tm.main, .slice km.aL (glob tm).length km.cL, .slice ({ v with nf := (rfrs tm.classes.length ys r).length + 1 } : MV).ai ({ v with nf := (rfrs tm.classes.length ys r).length + 1 } : MV).ni ({ v with nf := (rfrs tm.classes.length ys r).length + 1 } : MV).ci, .slice c.aR c.B.length c.cR, .slice c.aL c.L.length c.cL, .int .i64 c.peak, .int .i64 c.most, .slice (some ⟨km.gb, 0, none⟩) tm.globals.length tm.globals.length, .slice ({ v with nf := (rfrs tm.classes.length ys r).length + 1 } : MV).af ({ v with nf := (rfrs tm.classes.length ys r).length + 1 } : MV).nf ({ v with nf := (rfrs tm.classes.length ys r).length + 1 } : MV).cf, .int .i64 ({ v with nf := (rfrs tm.classes.length ys r).length + 1 } : MV).en, .int .i64 ({ v with nf := (rfrs tm.classes.length ys r).length + 1 } : MV).code, .slice ({ v with nf := (rfrs tm.classes.length ys r).length + 1 } : MV).ao ({ v with nf := (rfrs tm.classes.length ys r).length + 1 } : MV).no ({ v with nf := (rfrs tm.classes.length ys r).length + 1 } : MV).co, .int .i64 ({ v with nf := (rfrs tm.classes.length ys r).length + 1 } : MV).steps, .int .i64 ({ v with nf := (rfrs tm.classes.length ys r).length + 1 } : MV).slack], GX.Own 4 Ty.bool c.aR c.cR c.B, GX.Own 139 tyThing c.aL c.cL (c.L.map thg), Owns 3 Ty.int (c.L.map (fun x : Th => x.2)), GX.Own 98 tyRFr ({ v with nf := (rfrs tm.classes.length ys r).length + 1 } : MV).af ({ v with nf := (rfrs tm.classes.length ys r).length + 1 } : MV).cf (rfrs tm.classes.length ys r ++ [rfr tm.classes.length y2 h']), GX.Own 3 Ty.int y2.av y2.cv h'.vars, GX.Own 3 Ty.int (some ⟨y2.gr, 0, none⟩) tm.classes.length (regL tm.classes.length h'.regs), GX.Star (rres tm.classes.length ys r), GX.Own 3 Ty.int ({ v with nf := (rfrs tm.classes.length ys r).length + 1 } : MV).ao ({ v with nf := (rfrs tm.classes.length ys r).length + 1 } : MV).co M.out, GX.Own 3 Ty.int (some ⟨km.gb, 0, none⟩) tm.globals.length M.gl]) GX.sA).trans toMRH
theorem rop_all (hp : RPre tm v (y :: ys) f r c M u i) (hc0 : M.code = 0) (hR : RightP tm) (hTk : ∀ g ∈ tm.units, g.takes.length ≤ 1000000) (hrm : i.op = 22 → rmR i.args M.tb f.regs = rmT i.args M.tb f.regs) : ROpOk tm km p v y ys f r c M ((M.adv f).go tm (glob tm) f.on i) := by
 have h1 := hp.hi.op.1
 have h2 := hp.hi.op.2
 obtain h | h | h | h | h | h | h | h | h | h | h | h | h | h | h | h | h | h | h | h | h | h : i.op = 1 ∨ i.op = 2 ∨ i.op = 3 ∨ i.op = 4 ∨ i.op = 5 ∨ i.op = 6 ∨ i.op = 7 ∨ i.op = 8 ∨ i.op = 9 ∨ i.op = 10 ∨ i.op = 11 ∨ i.op = 12 ∨ i.op = 13 ∨ i.op = 14 ∨ i.op = 15 ∨ i.op = 16 ∨ i.op = 17 ∨ i.op = 18 ∨ i.op = 19 ∨ i.op = 20 ∨ i.op = 21 ∨ i.op = 22 := by omega
 ·exact rop1 hp hc0 h
 ·exact rop2 hp hc0 h
 ·exact rop3 hp hc0 h
 ·exact rop4 hp hc0 h
 ·exact rop5 hp hc0 h
 ·exact rop6 hp hc0 h
 ·exact rop7 hp hc0 h
 ·exact rop8 hp hc0 h
 ·exact rop9 hp hc0 h
 ·exact rop10 hp hc0 h
 ·exact rop11 hp hc0 h
 ·exact rop12 hp hc0 h
 ·exact rop13 hp hc0 h hR hTk
 ·exact rop14 hp hc0 h
 ·exact rop15 hp hc0 h
 ·exact rop16 hp hc0 h
 ·exact rop17 hp hc0 h
 ·exact rop18 hp hc0 h
 ·exact rop19 hp hc0 h
 ·exact rop20 hp hc0 h
 ·exact rop21 hp hc0 h hR
 ·exact rop22 hp hc0 h hR (hrm h)
end
end Go.Proofs.YtomadjefdghliaaGreat
