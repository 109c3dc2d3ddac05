import Derived.Test.YtomadjefdghliaaGreatU27
import Derived.Test.YtomadjefdghliaaGreatU28
namespace Go.Proofs.YtomadjefdghliaaGreat
open Go Go.RR Go.RX Go.GX Go.Api Go.RtM
attribute [local irreducible] wpList Code.wp wpPlan Exit.then Exit.inBlock bodyPost NoPanic Went GX.Post GX.Again GX.Meet GX.RowR GX.Own GX.Owns GX.Box GX.Sl GX.Pt GX.Ag GX.MapR GX.Star GX.Kept GX.Pin wpT GoK AtEnd Both
theorem RTab.len {c : RefC} {T : Tb} (h : RTab c T) {n : Nat} (hn : T.L.length ≤ n) : c.L.length ≤ n := by
 have h := congrArg List.length h.L
 rw [List.length_map] at h
 omega
theorem rstep6 (tm : RTg) (km : MK) (p : Nat) (v : MV) (y : RCl) (ys : List RCl) (f : Fr) (r : List Fr) (c : RefC) (M : Ms) (u : Unt) (i : Ins) (hp : RPre tm v (y :: ys) f r c M u i) (ho : i.op = 6) : RSt tm km p v y ys f r c M (fun _ : Unit => { v with en := rtE v (loadP c.B (c.L.map row) (lkv f.vars i.b) i.c).2, code := rtC v (loadP c.B (c.L.map row) (lkv f.vars i.b) i.c).2 }) (fun _ => c) { f with pc := f.pc + 1, vars := setv f.vars i.a (loadP c.B (c.L.map row) (lkv f.vars i.b) i.c).1 } M.inp M.out M.gl := by
 obtain ⟨ai, ni, ci, af, nf, cf, bd, en, code, ao, no, co, st, sl⟩ := v
 obtain ⟨av, cv, gr⟩ := y
 refine rstep_pre tm km p _ _ _ f _ c M u i _ hp fun _ q ju jp b3 ll hll haf hnf hnb hju hjp => ?_
 dsimp only at haf hnf ⊢
 subst haf hnf
 try rw [hll]
 obtain ⟨ka, hka, hla⟩ := vok hp.hv (hp.hi.va (by omega))
 try rw [hka]
 obtain ⟨kb, hkb, hlb⟩ := vok hp.hv (hp.hi.vb (by omega))
 try rw [hkb]
 refine GX.opn av fun _ _ ha9 => ?_
 obtain ⟨h9, _⟩ | ⟨g, rfl⟩ := ha9
 ·exact absurd h9 (by omega)
 obtain ⟨wa, hwa⟩ := GX.get_lt hla
 obtain ⟨wb, hwb⟩ := GX.get_lt hlb
 rw [show lkv f.vars (kb : Int) = wb by unfold lkv; rw [gt_nat, hwb]; rfl]
 rw [show rfr tm.classes.length ⟨some ⟨g, 0, none⟩, cv, gr⟩ ({ f with pc := f.pc + 1, vars := setv f.vars (ka : Int) (loadP c.B (c.L.map row) wb i.c).1 } : Fr) = ⟨(ju : Int), ((jp + 1 : Nat) : Int), f.into, (some ⟨g, 0, none⟩, f.vars.length, cv), (some ⟨gr, 0, none⟩, tm.classes.length, tm.classes.length)⟩ by unfold rfr; dsimp only; rw [hju, hjp, setv_len]; try rfl]
 rw [setv_set]
 have hcm := fun cs => rmem6 tm km (⟨ai, ni, ci, some ⟨q, 0, none⟩, ll.length + 1, cf, bd, en, code, ao, no, co, st, sl⟩ : MV) p c cs i ho g cv f.vars (hp.hI.tab.len hp.hL) ka hka hla wa hwa kb hkb hlb wb hwb
 refine GX.wp_R ?_; intros
 refine GX.nmA 40 ?_; rintro cs40 rfl
 refine GX.o (cl (hcm cs40) fun s => ?_)
 try dsimp only
 refine GX.wp_R ?_; intros
 refine GX.o (cl (rtrap_spec tm km (⟨ai, ni, ci, some ⟨q, 0, none⟩, ll.length + 1, cf, bd, en, code, ao, no, co, st, sl⟩ : MV) p c (loadP c.B (c.L.map row) wb i.c).2) fun _ => ?_)
 rw [rtrapV_eq]
 dsimp only
 refine GX.wp_R ?_; intros
 exact en0 ()
theorem rstep8 (tm : RTg) (km : MK) (p : Nat) (v : MV) (y : RCl) (ys : List RCl) (f : Fr) (r : List Fr) (c : RefC) (M : Ms) (u : Unt) (i : Ins) (hp : RPre tm v (y :: ys) f r c M u i) (ho : i.op = 8) : RSt tm km p v y ys f r c M (fun _ : Unit => { v with en := rtE v (loadP c.B (c.L.map row) (lkv f.vars i.b) (lkv f.vars i.c)).2, code := rtC v (loadP c.B (c.L.map row) (lkv f.vars i.b) (lkv f.vars i.c)).2 }) (fun _ => c) { f with pc := f.pc + 1, vars := setv f.vars i.a (loadP c.B (c.L.map row) (lkv f.vars i.b) (lkv f.vars i.c)).1 } M.inp M.out M.gl := by
 obtain ⟨ai, ni, ci, af, nf, cf, bd, en, code, ao, no, co, st, sl⟩ := v
 obtain ⟨av, cv, gr⟩ := y
 refine rstep_pre tm km p _ _ _ f _ c M u i _ hp fun _ q ju jp b3 ll hll haf hnf hnb hju hjp => ?_
 dsimp only at haf hnf ⊢
 subst haf hnf
 try rw [hll]
 obtain ⟨ka, hka, hla⟩ := vok hp.hv (hp.hi.va (by omega))
 try rw [hka]
 obtain ⟨kb, hkb, hlb⟩ := vok hp.hv (hp.hi.vb (by omega))
 try rw [hkb]
 obtain ⟨kc, hkc, hlc⟩ := vok hp.hv (hp.hi.vc (by omega))
 try rw [hkc]
 refine GX.opn av fun _ _ ha9 => ?_
 obtain ⟨h9, _⟩ | ⟨g, rfl⟩ := ha9
 ·exact absurd h9 (by omega)
 obtain ⟨wa, hwa⟩ := GX.get_lt hla
 obtain ⟨wb, hwb⟩ := GX.get_lt hlb
 rw [show lkv f.vars (kb : Int) = wb by unfold lkv; rw [gt_nat, hwb]; rfl]
 obtain ⟨wc, hwc⟩ := GX.get_lt hlc
 rw [show lkv f.vars (kc : Int) = wc by unfold lkv; rw [gt_nat, hwc]; rfl]
 rw [show rfr tm.classes.length ⟨some ⟨g, 0, none⟩, cv, gr⟩ ({ f with pc := f.pc + 1, vars := setv f.vars (ka : Int) (loadP c.B (c.L.map row) wb wc).1 } : Fr) = ⟨(ju : Int), ((jp + 1 : Nat) : Int), f.into, (some ⟨g, 0, none⟩, f.vars.length, cv), (some ⟨gr, 0, none⟩, tm.classes.length, tm.classes.length)⟩ by unfold rfr; dsimp only; rw [hju, hjp, setv_len]; try rfl]
 rw [setv_set]
 have hcm := fun cs => rmem8 tm km (⟨ai, ni, ci, some ⟨q, 0, none⟩, ll.length + 1, cf, bd, en, code, ao, no, co, st, sl⟩ : MV) p c cs i ho g cv f.vars (hp.hI.tab.len hp.hL) ka hka hla wa hwa kb hkb hlb wb hwb kc hkc hlc wc hwc
 refine GX.wp_R ?_; intros
 refine GX.nmA 40 ?_; rintro cs40 rfl
 refine GX.o (cl (hcm cs40) fun s => ?_)
 try dsimp only
 refine GX.wp_R ?_; intros
 refine GX.o (cl (rtrap_spec tm km (⟨ai, ni, ci, some ⟨q, 0, none⟩, ll.length + 1, cf, bd, en, code, ao, no, co, st, sl⟩ : MV) p c (loadP c.B (c.L.map row) wb wc).2) fun _ => ?_)
 rw [rtrapV_eq]
 dsimp only
 refine GX.wp_R ?_; intros
 exact en0 ()
theorem rstep10 (tm : RTg) (km : MK) (p : Nat) (v : MV) (y : RCl) (ys : List RCl) (f : Fr) (r : List Fr) (c : RefC) (M : Ms) (u : Unt) (i : Ins) (hp : RPre tm v (y :: ys) f r c M u i) (ho : i.op = 10) : RSt tm km p v y ys f r c M (fun _ : Unit => { v with en := rtE v (lenP c.B (c.L.map row) (lkv f.vars i.b)).2, code := rtC v (lenP c.B (c.L.map row) (lkv f.vars i.b)).2 }) (fun _ => c) { f with pc := f.pc + 1, vars := setv f.vars i.a (lenP c.B (c.L.map row) (lkv f.vars i.b)).1 } M.inp M.out M.gl := by
 obtain ⟨ai, ni, ci, af, nf, cf, bd, en, code, ao, no, co, st, sl⟩ := v
 obtain ⟨av, cv, gr⟩ := y
 refine rstep_pre tm km p _ _ _ f _ c M u i _ hp fun _ q ju jp b3 ll hll haf hnf hnb hju hjp => ?_
 dsimp only at haf hnf ⊢
 subst haf hnf
 try rw [hll]
 obtain ⟨ka, hka, hla⟩ := vok hp.hv (hp.hi.va (by omega))
 try rw [hka]
 obtain ⟨kb, hkb, hlb⟩ := vok hp.hv (hp.hi.vb (by omega))
 try rw [hkb]
 refine GX.opn av fun _ _ ha9 => ?_
 obtain ⟨h9, _⟩ | ⟨g, rfl⟩ := ha9
 ·exact absurd h9 (by omega)
 obtain ⟨wa, hwa⟩ := GX.get_lt hla
 obtain ⟨wb, hwb⟩ := GX.get_lt hlb
 rw [show lkv f.vars (kb : Int) = wb by unfold lkv; rw [gt_nat, hwb]; rfl]
 rw [show rfr tm.classes.length ⟨some ⟨g, 0, none⟩, cv, gr⟩ ({ f with pc := f.pc + 1, vars := setv f.vars (ka : Int) (lenP c.B (c.L.map row) wb).1 } : Fr) = ⟨(ju : Int), ((jp + 1 : Nat) : Int), f.into, (some ⟨g, 0, none⟩, f.vars.length, cv), (some ⟨gr, 0, none⟩, tm.classes.length, tm.classes.length)⟩ by unfold rfr; dsimp only; rw [hju, hjp, setv_len]; try rfl]
 rw [setv_set]
 have hcm := fun cs => rmem10 tm km (⟨ai, ni, ci, some ⟨q, 0, none⟩, ll.length + 1, cf, bd, en, code, ao, no, co, st, sl⟩ : MV) p c cs i ho g cv f.vars (hp.hI.tab.len hp.hL) ka hka hla wa hwa kb hkb hlb wb hwb
 refine GX.wp_R ?_; intros
 refine GX.nmA 40 ?_; rintro cs40 rfl
 refine GX.o (cl (hcm cs40) fun s => ?_)
 try dsimp only
 refine GX.wp_R ?_; intros
 refine GX.o (cl (rtrap_spec tm km (⟨ai, ni, ci, some ⟨q, 0, none⟩, ll.length + 1, cf, bd, en, code, ao, no, co, st, sl⟩ : MV) p c (lenP c.B (c.L.map row) wb).2) fun _ => ?_)
 rw [rtrapV_eq]
 dsimp only
 refine GX.wp_R ?_; intros
 exact en0 ()
theorem rstep7 (tm : RTg) (km : MK) (p : Nat) (v : MV) (y : RCl) (ys : List RCl) (f : Fr) (r : List Fr) (c : RefC) (M : Ms) (u : Unt) (i : Ins) (hp : RPre tm v (y :: ys) f r c M u i) (ho : i.op = 7) : RSt tm km p v y ys f r c M (fun _ : Unit => { v with en := rtE v (loadP c.B (c.L.map row) (lkv f.vars i.a) i.c).2, code := rtC v (loadP c.B (c.L.map row) (lkv f.vars i.a) i.c).2 }) (fun _ => RefC.mk c.aR c.cR c.B c.aL c.cL (putTo c.B c.L (lkv f.vars i.a) i.c (lkv f.vars i.b)) c.peak c.most) { f with pc := f.pc + 1 } M.inp M.out M.gl := by
 obtain ⟨ai, ni, ci, af, nf, cf, bd, en, code, ao, no, co, st, sl⟩ := v
 obtain ⟨av, cv, gr⟩ := y
 refine rstep_pre tm km p _ _ _ f _ c M u i _ hp fun _ q ju jp b3 ll hll haf hnf hnb hju hjp => ?_
 dsimp only at haf hnf ⊢
 subst haf hnf
 try rw [hll]
 obtain ⟨ka, hka, hla⟩ := vok hp.hv (hp.hi.va (by omega))
 try rw [hka]
 obtain ⟨kb, hkb, hlb⟩ := vok hp.hv (hp.hi.vb (by omega))
 try rw [hkb]
 refine GX.opn av fun _ _ ha9 => ?_
 obtain ⟨h9, _⟩ | ⟨g, rfl⟩ := ha9
 ·exact absurd h9 (by omega)
 obtain ⟨wa, hwa⟩ := GX.get_lt hla
 rw [show lkv f.vars (ka : Int) = wa by unfold lkv; rw [gt_nat, hwa]; rfl]
 obtain ⟨wb, hwb⟩ := GX.get_lt hlb
 rw [show lkv f.vars (kb : Int) = wb by unfold lkv; rw [gt_nat, hwb]; rfl]
 rw [show rfr tm.classes.length ⟨some ⟨g, 0, none⟩, cv, gr⟩ ({ f with pc := f.pc + 1 } : Fr) = ⟨(ju : Int), ((jp + 1 : Nat) : Int), f.into, (some ⟨g, 0, none⟩, f.vars.length, cv), (some ⟨gr, 0, none⟩, tm.classes.length, tm.classes.length)⟩ by unfold rfr; dsimp only; rw [hju, hjp]; try rfl]
 have hcm := fun cs => rmem7 tm km (⟨ai, ni, ci, some ⟨q, 0, none⟩, ll.length + 1, cf, bd, en, code, ao, no, co, st, sl⟩ : MV) p c cs i ho g cv f.vars (hp.hI.tab.len hp.hL) ka hka hla wa hwa kb hkb hlb wb hwb
 refine GX.wp_R ?_; intros
 refine GX.nmA 40 ?_; rintro cs40 rfl
 refine GX.o (cl (hcm cs40) fun s => ?_)
 try dsimp only
 refine GX.wp_R ?_; intros
 refine GX.o (cl (rtrap_spec tm km (⟨ai, ni, ci, some ⟨q, 0, none⟩, ll.length + 1, cf, bd, en, code, ao, no, co, st, sl⟩ : MV) p (RefC.mk c.aR c.cR c.B c.aL c.cL (putTo c.B c.L wa i.c wb) c.peak c.most) (loadP c.B (c.L.map row) wa i.c).2) fun _ => ?_)
 rw [rtrapV_eq]
 dsimp only
 refine GX.wp_R ?_; intros
 exact en0 ()
theorem rstep9 (tm : RTg) (km : MK) (p : Nat) (v : MV) (y : RCl) (ys : List RCl) (f : Fr) (r : List Fr) (c : RefC) (M : Ms) (u : Unt) (i : Ins) (hp : RPre tm v (y :: ys) f r c M u i) (ho : i.op = 9) : RSt tm km p v y ys f r c M (fun _ : Unit => { v with en := rtE v (loadP c.B (c.L.map row) (lkv f.vars i.a) (lkv f.vars i.b)).2, code := rtC v (loadP c.B (c.L.map row) (lkv f.vars i.a) (lkv f.vars i.b)).2 }) (fun _ => RefC.mk c.aR c.cR c.B c.aL c.cL (putTo c.B c.L (lkv f.vars i.a) (lkv f.vars i.b) (lkv f.vars i.c)) c.peak c.most) { f with pc := f.pc + 1 } M.inp M.out M.gl := by
 obtain ⟨ai, ni, ci, af, nf, cf, bd, en, code, ao, no, co, st, sl⟩ := v
 obtain ⟨av, cv, gr⟩ := y
 refine rstep_pre tm km p _ _ _ f _ c M u i _ hp fun _ q ju jp b3 ll hll haf hnf hnb hju hjp => ?_
 dsimp only at haf hnf ⊢
 subst haf hnf
 try rw [hll]
 obtain ⟨ka, hka, hla⟩ := vok hp.hv (hp.hi.va (by omega))
 try rw [hka]
 obtain ⟨kb, hkb, hlb⟩ := vok hp.hv (hp.hi.vb (by omega))
 try rw [hkb]
 obtain ⟨kc, hkc, hlc⟩ := vok hp.hv (hp.hi.vc (by omega))
 try rw [hkc]
 refine GX.opn av fun _ _ ha9 => ?_
 obtain ⟨h9, _⟩ | ⟨g, rfl⟩ := ha9
 ·exact absurd h9 (by omega)
 obtain ⟨wa, hwa⟩ := GX.get_lt hla
 rw [show lkv f.vars (ka : Int) = wa by unfold lkv; rw [gt_nat, hwa]; rfl]
 obtain ⟨wb, hwb⟩ := GX.get_lt hlb
 rw [show lkv f.vars (kb : Int) = wb by unfold lkv; rw [gt_nat, hwb]; rfl]
 obtain ⟨wc, hwc⟩ := GX.get_lt hlc
 rw [show lkv f.vars (kc : Int) = wc by unfold lkv; rw [gt_nat, hwc]; rfl]
 rw [show rfr tm.classes.length ⟨some ⟨g, 0, none⟩, cv, gr⟩ ({ f with pc := f.pc + 1 } : Fr) = ⟨(ju : Int), ((jp + 1 : Nat) : Int), f.into, (some ⟨g, 0, none⟩, f.vars.length, cv), (some ⟨gr, 0, none⟩, tm.classes.length, tm.classes.length)⟩ by unfold rfr; dsimp only; rw [hju, hjp]; try rfl]
 have hcm := fun cs => rmem9 tm km (⟨ai, ni, ci, some ⟨q, 0, none⟩, ll.length + 1, cf, bd, en, code, ao, no, co, st, sl⟩ : MV) p c cs i ho g cv f.vars (hp.hI.tab.len hp.hL) ka hka hla wa hwa kb hkb hlb wb hwb kc hkc hlc wc hwc
 refine GX.wp_R ?_; intros
 refine GX.nmA 40 ?_; rintro cs40 rfl
 refine GX.o (cl (hcm cs40) fun s => ?_)
 try dsimp only
 refine GX.wp_R ?_; intros
 refine GX.o (cl (rtrap_spec tm km (⟨ai, ni, ci, some ⟨q, 0, none⟩, ll.length + 1, cf, bd, en, code, ao, no, co, st, sl⟩ : MV) p (RefC.mk c.aR c.cR c.B c.aL c.cL (putTo c.B c.L wa wb wc) c.peak c.most) (loadP c.B (c.L.map row) wa wb).2) fun _ => ?_)
 rw [rtrapV_eq]
 dsimp only
 refine GX.wp_R ?_; intros
 exact en0 ()
theorem rstep11f (tm : RTg) (km : MK) (p : Nat) (v : MV) (y : RCl) (ys : List RCl) (f : Fr) (r : List Fr) (c : RefC) (M : Ms) (u : Unt) (i : Ins) (hp : RPre tm v (y :: ys) f r c M u i) (ho : i.op = 11) (C : Layout) (hC0 : gt tm.classes i.n = some C) (h : hasB c.B (reg (glob tm) f i.n) = false) : RSt tm km p v y ys f r c M (fun _ : Unit => { v with en := 4 }) (fun _ => c) { f with pc := f.pc + 1, vars := setv f.vars i.a 0 } M.inp M.out M.gl := by
 obtain ⟨ai, ni, ci, af, nf, cf, bd, en, code, ao, no, co, st, sl⟩ := v
 obtain ⟨av, cv, gr⟩ := y
 refine rstep_pre tm km p _ _ _ f _ c M u i _ hp fun _ q ju jp b3 ll hll haf hnf hnb hju hjp => ?_
 dsimp only at haf hnf ⊢
 subst haf hnf
 try rw [hll]
 obtain ⟨ka, hka, hla⟩ := vok hp.hv (hp.hi.va (by omega))
 try rw [hka]
 have hC := hC0
 obtain ⟨j, hj, hjl9, hjc⟩ := gt_some hC
 have hrg := regL_get (nc := tm.classes.length) (m := f.regs) hjl9
 rw [show (reg (glob tm) f i.n) = (if (j : Int) ∈ glob tm then 1 else f.regs (j : Int)) by unfold reg; rw [hj]] at h
 try rw [show (reg (glob tm) f i.n) = (if (j : Int) ∈ glob tm then 1 else f.regs (j : Int)) by unfold reg; rw [hj]]
 refine GX.opn av fun _ _ ha9 => ?_
 obtain ⟨h9, _⟩ | ⟨g, rfl⟩ := ha9
 ·exact absurd h9 (by omega)
 obtain ⟨wa, hwa⟩ := GX.get_lt hla
 rw [show rfr tm.classes.length ⟨some ⟨g, 0, none⟩, cv, gr⟩ ({ f with pc := f.pc + 1, vars := setv f.vars (ka : Int) 0 } : Fr) = ⟨(ju : Int), ((jp + 1 : Nat) : Int), f.into, (some ⟨g, 0, none⟩, f.vars.length, cv), (some ⟨gr, 0, none⟩, tm.classes.length, tm.classes.length)⟩ by unfold rfr; dsimp only; rw [hju, hjp, setv_len]; try rfl]
 rw [setv_set]
 have hcm := fun cs => rmem11f tm km (⟨ai, ni, ci, some ⟨q, 0, none⟩, ll.length + 1, cf, bd, en, code, ao, no, co, st, sl⟩ : MV) p c cs i ho g cv f.vars (hp.hI.tab.len hp.hL) ka hka hla wa hwa q rfl ll (⟨(ju : Int), ((jp + 1 : Nat) : Int), f.into, (some ⟨g, 0, none⟩, f.vars.length, cv), (some ⟨gr, 0, none⟩, tm.classes.length, tm.classes.length)⟩) rfl (by omega) gr (regL tm.classes.length f.regs) (by rw [regL_len]) j hj (f.regs (j : Int)) hrg C hjc h
 rw [regL_len] at hcm
 refine GX.wp_R ?_; intros
 refine GX.nmA 40 ?_; rintro cs40 rfl
 refine GX.o (cl (hcm cs40) fun s => ?_)
 try dsimp only
 refine GX.wp_R ?_; intros
 refine GX.o (cl (rtrap_spec tm km (⟨ai, ni, ci, some ⟨q, 0, none⟩, ll.length + 1, cf, bd, 4, code, ao, no, co, st, sl⟩ : MV) p (c) 0) fun _ => ?_)
 rw [rtrapV_zero]
 dsimp only
 refine GX.wp_R ?_; intros
 exact en0 ()
theorem rstep11t (tm : RTg) (km : MK) (p : Nat) (v : MV) (y : RCl) (ys : List RCl) (f : Fr) (r : List Fr) (c : RefC) (M : Ms) (u : Unt) (i : Ins) (hp : RPre tm v (y :: ys) f r c M u i) (ho : i.op = 11) (C : Layout) (hC0 : gt tm.classes i.n = some C) (h : hasB c.B (reg (glob tm) f i.n) = true) : RSt tm km p v y ys f r c M (fun _ : Nat × Option Addr × Nat => v) (fun s => RefC.mk c.aR c.cR c.B s.2.1 s.2.2 (c.L ++ [((reg (glob tm) f i.n), some ⟨s.1, 0, none⟩, cells ((C.refs.length : Nat) : Int), List.replicate (cells ((C.refs.length : Nat) : Int)) 0)]) c.peak (max c.most (nowN c.B (c.L.map row ++ [((reg (glob tm) f i.n), List.replicate (cells ((C.refs.length : Nat) : Int)) 0)]) : Int))) { f with pc := f.pc + 1, vars := setv f.vars i.a ((c.L.length + 1 : Nat) : Int) } M.inp M.out M.gl := by
 obtain ⟨ai, ni, ci, af, nf, cf, bd, en, code, ao, no, co, st, sl⟩ := v
 obtain ⟨av, cv, gr⟩ := y
 refine rstep_pre tm km p _ _ _ f _ c M u i _ hp fun _ q ju jp b3 ll hll haf hnf hnb hju hjp => ?_
 dsimp only at haf hnf ⊢
 subst haf hnf
 try rw [hll]
 obtain ⟨ka, hka, hla⟩ := vok hp.hv (hp.hi.va (by omega))
 try rw [hka]
 have hC := hC0
 obtain ⟨j, hj, hjl9, hjc⟩ := gt_some hC
 have hrg := regL_get (nc := tm.classes.length) (m := f.regs) hjl9
 rw [show (reg (glob tm) f i.n) = (if (j : Int) ∈ glob tm then 1 else f.regs (j : Int)) by unfold reg; rw [hj]] at h
 try rw [show (reg (glob tm) f i.n) = (if (j : Int) ∈ glob tm then 1 else f.regs (j : Int)) by unfold reg; rw [hj]]
 refine GX.opn av fun _ _ ha9 => ?_
 obtain ⟨h9, _⟩ | ⟨g, rfl⟩ := ha9
 ·exact absurd h9 (by omega)
 obtain ⟨wa, hwa⟩ := GX.get_lt hla
 rw [show rfr tm.classes.length ⟨some ⟨g, 0, none⟩, cv, gr⟩ ({ f with pc := f.pc + 1, vars := setv f.vars (ka : Int) ((c.L.length + 1 : Nat) : Int) } : Fr) = ⟨(ju : Int), ((jp + 1 : Nat) : Int), f.into, (some ⟨g, 0, none⟩, f.vars.length, cv), (some ⟨gr, 0, none⟩, tm.classes.length, tm.classes.length)⟩ by unfold rfr; dsimp only; rw [hju, hjp, setv_len]; try rfl]
 rw [setv_set]
 have hcm := fun cs => rmem11t tm km (⟨ai, ni, ci, some ⟨q, 0, none⟩, ll.length + 1, cf, bd, en, code, ao, no, co, st, sl⟩ : MV) p c cs i ho g cv f.vars (hp.hI.tab.len hp.hL) ka hka hla wa hwa q rfl ll (⟨(ju : Int), ((jp + 1 : Nat) : Int), f.into, (some ⟨g, 0, none⟩, f.vars.length, cv), (some ⟨gr, 0, none⟩, tm.classes.length, tm.classes.length)⟩) rfl (by omega) gr (regL tm.classes.length f.regs) (by rw [regL_len]) j hj (f.regs (j : Int)) hrg C hjc h
 rw [regL_len] at hcm
 refine GX.wp_R ?_; intros
 refine GX.nmA 40 ?_; rintro cs40 rfl
 refine GX.o (cl (hcm cs40) fun s => ?_)
 try dsimp only
 refine GX.wp_R ?_; intros
 refine GX.o (cl (rtrap_spec tm km (⟨ai, ni, ci, some ⟨q, 0, none⟩, ll.length + 1, cf, bd, en, code, ao, no, co, st, sl⟩ : MV) p (RefC.mk c.aR c.cR c.B s.2.1 s.2.2 (c.L ++ [((if (j : Int) ∈ glob tm then 1 else f.regs (j : Int)), some ⟨s.1, 0, none⟩, cells ((C.refs.length : Nat) : Int), List.replicate (cells ((C.refs.length : Nat) : Int)) 0)]) c.peak (max c.most (nowN c.B (c.L.map row ++ [((if (j : Int) ∈ glob tm then 1 else f.regs (j : Int)), List.replicate (cells ((C.refs.length : Nat) : Int)) 0)]) : Int))) 0) fun _ => ?_)
 rw [rtrapV_zero]
 dsimp only
 refine GX.wp_R ?_; intros
 exact en0 s
theorem rstep12f (tm : RTg) (km : MK) (p : Nat) (v : MV) (y : RCl) (ys : List RCl) (f : Fr) (r : List Fr) (c : RefC) (M : Ms) (u : Unt) (i : Ins) (hp : RPre tm v (y :: ys) f r c M u i) (ho : i.op = 12) (hw1 : ¬ (lkv f.vars i.b) < 0) (hw2 : ¬ 50 < (lkv f.vars i.b)) (h : hasB c.B (reg (glob tm) f i.n) = false) : RSt tm km p v y ys f r c M (fun _ : Unit => { v with en := 4 }) (fun _ => c) { f with pc := f.pc + 1, vars := setv f.vars i.a 0 } M.inp M.out M.gl := by
 obtain ⟨ai, ni, ci, af, nf, cf, bd, en, code, ao, no, co, st, sl⟩ := v
 obtain ⟨av, cv, gr⟩ := y
 refine rstep_pre tm km p _ _ _ f _ c M u i _ hp fun _ q ju jp b3 ll hll haf hnf hnb hju hjp => ?_
 dsimp only at haf hnf ⊢
 subst haf hnf
 try rw [hll]
 obtain ⟨ka, hka, hla⟩ := vok hp.hv (hp.hi.va (by omega))
 try rw [hka]
 obtain ⟨kb, hkb, hlb⟩ := vok hp.hv (hp.hi.vb (by omega))
 try rw [hkb]
 try rw [hkb] at hw1 hw2
 obtain ⟨C, hC⟩ := hp.hi.cls (by omega)
 obtain ⟨j, hj, hjl9, hjc⟩ := gt_some hC
 have hrg := regL_get (nc := tm.classes.length) (m := f.regs) hjl9
 rw [show (reg (glob tm) f i.n) = (if (j : Int) ∈ glob tm then 1 else f.regs (j : Int)) by unfold reg; rw [hj]] at h
 try rw [show (reg (glob tm) f i.n) = (if (j : Int) ∈ glob tm then 1 else f.regs (j : Int)) by unfold reg; rw [hj]]
 refine GX.opn av fun _ _ ha9 => ?_
 obtain ⟨h9, _⟩ | ⟨g, rfl⟩ := ha9
 ·exact absurd h9 (by omega)
 obtain ⟨wa, hwa⟩ := GX.get_lt hla
 obtain ⟨wb, hwb⟩ := GX.get_lt hlb
 rw [show lkv f.vars (kb : Int) = wb by unfold lkv; rw [gt_nat, hwb]; rfl] at hw1 hw2
 try rw [show lkv f.vars (kb : Int) = wb by unfold lkv; rw [gt_nat, hwb]; rfl]
 rw [show rfr tm.classes.length ⟨some ⟨g, 0, none⟩, cv, gr⟩ ({ f with pc := f.pc + 1, vars := setv f.vars (ka : Int) 0 } : Fr) = ⟨(ju : Int), ((jp + 1 : Nat) : Int), f.into, (some ⟨g, 0, none⟩, f.vars.length, cv), (some ⟨gr, 0, none⟩, tm.classes.length, tm.classes.length)⟩ by unfold rfr; dsimp only; rw [hju, hjp, setv_len]; try rfl]
 rw [setv_set]
 have hcm := fun cs => rmem12f tm km (⟨ai, ni, ci, some ⟨q, 0, none⟩, ll.length + 1, cf, bd, en, code, ao, no, co, st, sl⟩ : MV) p c cs i ho g cv f.vars (hp.hI.tab.len hp.hL) ka hka hla wa hwa kb hkb hlb wb hwb q rfl ll (⟨(ju : Int), ((jp + 1 : Nat) : Int), f.into, (some ⟨g, 0, none⟩, f.vars.length, cv), (some ⟨gr, 0, none⟩, tm.classes.length, tm.classes.length)⟩) rfl (by omega) gr (regL tm.classes.length f.regs) (by rw [regL_len]) j hj (f.regs (j : Int)) hrg hw1 hw2 h
 rw [regL_len] at hcm
 refine GX.wp_R ?_; intros
 refine GX.nmA 40 ?_; rintro cs40 rfl
 refine GX.o (cl (hcm cs40) fun s => ?_)
 try dsimp only
 refine GX.wp_R ?_; intros
 refine GX.o (cl (rtrap_spec tm km (⟨ai, ni, ci, some ⟨q, 0, none⟩, ll.length + 1, cf, bd, 4, code, ao, no, co, st, sl⟩ : MV) p (c) 0) fun _ => ?_)
 rw [rtrapV_zero]
 dsimp only
 refine GX.wp_R ?_; intros
 exact en0 ()
theorem rstep12t (tm : RTg) (km : MK) (p : Nat) (v : MV) (y : RCl) (ys : List RCl) (f : Fr) (r : List Fr) (c : RefC) (M : Ms) (u : Unt) (i : Ins) (hp : RPre tm v (y :: ys) f r c M u i) (ho : i.op = 12) (hw1 : ¬ (lkv f.vars i.b) < 0) (hw2 : ¬ 50 < (lkv f.vars i.b)) (h : hasB c.B (reg (glob tm) f i.n) = true) : RSt tm km p v y ys f r c M (fun _ : Nat × Option Addr × Nat => v) (fun s => RefC.mk c.aR c.cR c.B s.2.1 s.2.2 (c.L ++ [((reg (glob tm) f i.n), some ⟨s.1, 0, none⟩, cells (lkv f.vars i.b), List.replicate (cells (lkv f.vars i.b)) 0)]) c.peak (max c.most (nowN c.B (c.L.map row ++ [((reg (glob tm) f i.n), List.replicate (cells (lkv f.vars i.b)) 0)]) : Int))) { f with pc := f.pc + 1, vars := setv f.vars i.a ((c.L.length + 1 : Nat) : Int) } M.inp M.out M.gl := by
 obtain ⟨ai, ni, ci, af, nf, cf, bd, en, code, ao, no, co, st, sl⟩ := v
 obtain ⟨av, cv, gr⟩ := y
 refine rstep_pre tm km p _ _ _ f _ c M u i _ hp fun _ q ju jp b3 ll hll haf hnf hnb hju hjp => ?_
 dsimp only at haf hnf ⊢
 subst haf hnf
 try rw [hll]
 obtain ⟨ka, hka, hla⟩ := vok hp.hv (hp.hi.va (by omega))
 try rw [hka]
 obtain ⟨kb, hkb, hlb⟩ := vok hp.hv (hp.hi.vb (by omega))
 try rw [hkb]
 try rw [hkb] at hw1 hw2
 obtain ⟨C, hC⟩ := hp.hi.cls (by omega)
 obtain ⟨j, hj, hjl9, hjc⟩ := gt_some hC
 have hrg := regL_get (nc := tm.classes.length) (m := f.regs) hjl9
 rw [show (reg (glob tm) f i.n) = (if (j : Int) ∈ glob tm then 1 else f.regs (j : Int)) by unfold reg; rw [hj]] at h
 try rw [show (reg (glob tm) f i.n) = (if (j : Int) ∈ glob tm then 1 else f.regs (j : Int)) by unfold reg; rw [hj]]
 refine GX.opn av fun _ _ ha9 => ?_
 obtain ⟨h9, _⟩ | ⟨g, rfl⟩ := ha9
 ·exact absurd h9 (by omega)
 obtain ⟨wa, hwa⟩ := GX.get_lt hla
 obtain ⟨wb, hwb⟩ := GX.get_lt hlb
 rw [show lkv f.vars (kb : Int) = wb by unfold lkv; rw [gt_nat, hwb]; rfl] at hw1 hw2
 try rw [show lkv f.vars (kb : Int) = wb by unfold lkv; rw [gt_nat, hwb]; rfl]
 rw [show rfr tm.classes.length ⟨some ⟨g, 0, none⟩, cv, gr⟩ ({ f with pc := f.pc + 1, vars := setv f.vars (ka : Int) ((c.L.length + 1 : Nat) : Int) } : Fr) = ⟨(ju : Int), ((jp + 1 : Nat) : Int), f.into, (some ⟨g, 0, none⟩, f.vars.length, cv), (some ⟨gr, 0, none⟩, tm.classes.length, tm.classes.length)⟩ by unfold rfr; dsimp only; rw [hju, hjp, setv_len]; try rfl]
 rw [setv_set]
 have hcm := fun cs => rmem12t tm km (⟨ai, ni, ci, some ⟨q, 0, none⟩, ll.length + 1, cf, bd, en, code, ao, no, co, st, sl⟩ : MV) p c cs i ho g cv f.vars (hp.hI.tab.len hp.hL) ka hka hla wa hwa kb hkb hlb wb hwb q rfl ll (⟨(ju : Int), ((jp + 1 : Nat) : Int), f.into, (some ⟨g, 0, none⟩, f.vars.length, cv), (some ⟨gr, 0, none⟩, tm.classes.length, tm.classes.length)⟩) rfl (by omega) gr (regL tm.classes.length f.regs) (by rw [regL_len]) j hj (f.regs (j : Int)) hrg hw1 hw2 h
 rw [regL_len] at hcm
 refine GX.wp_R ?_; intros
 refine GX.nmA 40 ?_; rintro cs40 rfl
 refine GX.o (cl (hcm cs40) fun s => ?_)
 try dsimp only
 refine GX.wp_R ?_; intros
 refine GX.o (cl (rtrap_spec tm km (⟨ai, ni, ci, some ⟨q, 0, none⟩, ll.length + 1, cf, bd, en, code, ao, no, co, st, sl⟩ : MV) p (RefC.mk c.aR c.cR c.B s.2.1 s.2.2 (c.L ++ [((if (j : Int) ∈ glob tm then 1 else f.regs (j : Int)), some ⟨s.1, 0, none⟩, cells wb, List.replicate (cells wb) 0)]) c.peak (max c.most (nowN c.B (c.L.map row ++ [((if (j : Int) ∈ glob tm then 1 else f.regs (j : Int)), List.replicate (cells wb) 0)]) : Int))) 0) fun _ => ?_)
 rw [rtrapV_zero]
 dsimp only
 refine GX.wp_R ?_; intros
 exact en0 s
theorem rstep12n (tm : RTg) (km : MK) (p : Nat) (v : MV) (y : RCl) (ys : List RCl) (f : Fr) (r : List Fr) (c : RefC) (M : Ms) (u : Unt) (i : Ins) (hp : RPre tm v (y :: ys) f r c M u i) (ho : i.op = 12) (hw1 : (lkv f.vars i.b) < 0) : RSt tm km p v y ys f r c M (fun _ : Unit => { v with en := rtE v 4, code := rtC v 4 }) (fun _ => c) { f with pc := f.pc + 1 } M.inp M.out M.gl := by
 obtain ⟨ai, ni, ci, af, nf, cf, bd, en, code, ao, no, co, st, sl⟩ := v
 obtain ⟨av, cv, gr⟩ := y
 refine rstep_pre tm km p _ _ _ f _ c M u i _ hp fun _ q ju jp b3 ll hll haf hnf hnb hju hjp => ?_
 dsimp only at haf hnf ⊢
 subst haf hnf
 try rw [hll]
 obtain ⟨kb, hkb, hlb⟩ := vok hp.hv (hp.hi.vb (by omega))
 rw [hkb] at hw1
 refine GX.opn av fun _ _ ha9 => ?_
 obtain ⟨h9, _⟩ | ⟨g, rfl⟩ := ha9
 ·exact absurd h9 (by omega)
 obtain ⟨wb, hwb⟩ := GX.get_lt hlb
 rw [show lkv f.vars (kb : Int) = wb by unfold lkv; rw [gt_nat, hwb]; rfl] at hw1
 rw [show rfr tm.classes.length ⟨some ⟨g, 0, none⟩, cv, gr⟩ ({ f with pc := f.pc + 1 } : Fr) = ⟨(ju : Int), ((jp + 1 : Nat) : Int), f.into, (some ⟨g, 0, none⟩, f.vars.length, cv), (some ⟨gr, 0, none⟩, tm.classes.length, tm.classes.length)⟩ by unfold rfr; dsimp only; rw [hju, hjp]; try rfl]
 have hcm := fun cs => rmem12n tm km (⟨ai, ni, ci, some ⟨q, 0, none⟩, ll.length + 1, cf, bd, en, code, ao, no, co, st, sl⟩ : MV) p c cs i ho g cv f.vars kb hkb hlb wb hwb hw1
 refine GX.wp_R ?_; intros
 refine GX.nmA 40 ?_; rintro cs40 rfl
 refine GX.o (cl (hcm cs40) fun s => ?_)
 try dsimp only
 refine GX.wp_R ?_; intros
 refine GX.o (cl (rtrap_spec tm km (⟨ai, ni, ci, some ⟨q, 0, none⟩, ll.length + 1, cf, bd, en, code, ao, no, co, st, sl⟩ : MV) p c 4) fun _ => ?_)
 rw [rtrapV_eq]
 dsimp only
 refine GX.wp_R ?_; intros
 exact en0 ()
theorem rstep12m (tm : RTg) (km : MK) (p : Nat) (v : MV) (y : RCl) (ys : List RCl) (f : Fr) (r : List Fr) (c : RefC) (M : Ms) (u : Unt) (i : Ins) (hp : RPre tm v (y :: ys) f r c M u i) (ho : i.op = 12) (hw1 : ¬ (lkv f.vars i.b) < 0) (hw2 : 50 < (lkv f.vars i.b)) : RSt tm km p v y ys f r c M (fun _ : Unit => { v with en := rtE v 4, code := rtC v 4 }) (fun _ => c) { f with pc := f.pc + 1 } M.inp M.out M.gl := by
 obtain ⟨ai, ni, ci, af, nf, cf, bd, en, code, ao, no, co, st, sl⟩ := v
 obtain ⟨av, cv, gr⟩ := y
 refine rstep_pre tm km p _ _ _ f _ c M u i _ hp fun _ q ju jp b3 ll hll haf hnf hnb hju hjp => ?_
 dsimp only at haf hnf ⊢
 subst haf hnf
 try rw [hll]
 obtain ⟨kb, hkb, hlb⟩ := vok hp.hv (hp.hi.vb (by omega))
 rw [hkb] at hw1 hw2
 refine GX.opn av fun _ _ ha9 => ?_
 obtain ⟨h9, _⟩ | ⟨g, rfl⟩ := ha9
 ·exact absurd h9 (by omega)
 obtain ⟨wb, hwb⟩ := GX.get_lt hlb
 rw [show lkv f.vars (kb : Int) = wb by unfold lkv; rw [gt_nat, hwb]; rfl] at hw1 hw2
 rw [show rfr tm.classes.length ⟨some ⟨g, 0, none⟩, cv, gr⟩ ({ f with pc := f.pc + 1 } : Fr) = ⟨(ju : Int), ((jp + 1 : Nat) : Int), f.into, (some ⟨g, 0, none⟩, f.vars.length, cv), (some ⟨gr, 0, none⟩, tm.classes.length, tm.classes.length)⟩ by unfold rfr; dsimp only; rw [hju, hjp]; try rfl]
 have hcm := fun cs => rmem12m tm km (⟨ai, ni, ci, some ⟨q, 0, none⟩, ll.length + 1, cf, bd, en, code, ao, no, co, st, sl⟩ : MV) p c cs i ho g cv f.vars kb hkb hlb wb hwb hw1 hw2
 refine GX.wp_R ?_; intros
 refine GX.nmA 40 ?_; rintro cs40 rfl
 refine GX.o (cl (hcm cs40) fun s => ?_)
 try dsimp only
 refine GX.wp_R ?_; intros
 refine GX.o (cl (rtrap_spec tm km (⟨ai, ni, ci, some ⟨q, 0, none⟩, ll.length + 1, cf, bd, en, code, ao, no, co, st, sl⟩ : MV) p c 4) fun _ => ?_)
 rw [rtrapV_eq]
 dsimp only
 refine GX.wp_R ?_; intros
 exact en0 ()
end Go.Proofs.YtomadjefdghliaaGreat
