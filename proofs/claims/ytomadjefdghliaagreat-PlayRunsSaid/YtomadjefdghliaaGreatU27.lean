import Derived.Test.YtomadjefdghliaaGreatU26
namespace Go.Proofs.YtomadjefdghliaaGreat
open Go Go.RR Go.RX Go.GX Go.Api Go.RtM
attribute [local irreducible] wpList Code.wp wpPlan Exit.then Exit.inBlock bodyPost NoPanic Went GX.Post GX.Again GX.Meet GX.RowR GX.Own GX.Owns GX.Box GX.Sl GX.Pt GX.Ag GX.MapR GX.Star GX.Kept GX.Pin wpT GoK AtEnd Both
structure RTab (c : RefC) (T : Tb) : Prop where
 B : c.B = T.B
 L : c.L.map row = T.L
 peak : c.peak = T.peak
 most : c.most = T.most
structure RS where
 v : MV
 ys : List RCl
 c : RefC
 M : Ms
structure RInv (v : MV) (ys : List RCl) (c : RefC) (M : Ms) : Prop where
 tab : RTab c M.tb
 nf : v.nf = ys.length
 len : ys.length = M.fs.length
 en : v.en = M.en
 code : v.code = M.code
 steps : v.steps = M.steps
 slack : v.slack = M.slack
 no : v.no = M.out.length
 ni : v.ni = M.inp.length
structure Sim (M N : Ms) : Prop where
 tb : M.tb = N.tb
 en : M.en = N.en
 code : M.code = N.code
 out : M.out = N.out
 steps : M.steps = N.steps
 slack : M.slack = N.slack
 eq : N.en = 0 → M = N
theorem Sim.refl (M : Ms) : Sim M M := ⟨rfl, rfl, rfl, rfl, rfl, rfl, fun _ => rfl⟩
def Ms.adv (M : Ms) (f : Fr) : Ms := { M with fs := { f with pc := f.pc + 1 } :: M.fs.tail }
structure RPre (t : RTg) (v : MV) (ys : List RCl) (f : Fr) (r : List Fr) (c : RefC) (M : Ms) (u : Unt) (i : Ins) : Prop where
 hI : RInv v ys c M
 fs : M.fs = f :: r
 unit : gt t.units f.u = some u
 ins : gt u.ins f.pc = some i
 hi : InsV t u i
 hv : f.vars.length = u.vars.length
 deep : M.fs.length ≤ 40
 gl : M.gl.length = t.globals.length
 hB : M.tb.B.length ≤ 900000000
 hL : M.tb.L.length ≤ 900000000
 hO : M.out.length ≤ 900000000
 hA : i.args.length ≤ 1000000
 into : f.into = -1 ∨ ∀ h r', r = h :: r' → Vok h f.into
noncomputable def blk33 : Code := match Tryz.f33.body with | some (.seq _ (.seq _ (.seq _ (.seq _ (.seq _ (.seq (.seq _ b) _)))))) => b | _ => .skip
noncomputable def end33 : Code := match Tryz.f33.body with | some (.seq _ (.seq _ (.seq _ (.seq _ (.seq _ (.seq _ e)))))) => e | _ => .skip
theorem rstep_pre {σ : Type} {val : σ → Value} {ps' : σ → List Pf} {hp' : σ → List Res} (tm : RTg) (km : MK) (p : Nat) (v : MV) (y : RCl) (ys : List RCl) (f : Fr) (r : List Fr) (c : RefC) (M : Ms) (u : Unt) (i : Ins) (R : List Res) (hp : RPre tm v (y :: ys) f r c M u i) 
  (h : ∀ (b : Base) (q ju jp b3 : Nat) (ll : List RFr), rfrs tm.classes.length ys r = ll → v.af = some ⟨q, 0, none⟩ → v.nf = ll.length + 1 → ll.length ≤ 900 → f.u = (ju : Int) → f.pc = (jp : Int) →
   G 235 [(0, .pointer (some ⟨p, 0, none⟩)), (2, .pointer (some ⟨q, ll.length * 5, none⟩)), (3, .pointer (some ⟨b3, 0, none⟩)), (4, .slice y.av f.vars.length y.cv), (5, .int .i64 0), (38, .int .i64 i.op)] b [Pt tyIns b3 0 i, Sl Ty.int km.aL km.cL (glob tm), Sl tyLayout km.aC km.cC tm.classes, Sl tyUnt km.aU km.cU tm.units, Sl Ty.int v.ai v.ci M.inp]
    (GX.Own 98 tyRFr (some ⟨q, 0, none⟩) v.cf (ll ++ [⟨(ju : Int), ((jp + 1 : Nat) : Int), f.into, (y.av, f.vars.length, y.cv), (some ⟨y.gr, 0, none⟩, tm.classes.length, tm.classes.length)⟩]) :: RowR p 74 [.slice km.aC tm.classes.length km.cC, .slice km.aG tm.globals.length km.cG, .slice km.aU tm.units.length km.cU, .int .i64 tm.main, .slice km.aL (glob tm).length km.cL, .slice v.ai v.ni v.ci, .slice c.aR c.B.length c.cR, .slice c.aL c.L.length c.cL, .int .i64 c.peak, .int .i64 c.most, .slice (some ⟨km.gb, 0, none⟩) tm.globals.length tm.globals.length, .slice v.af v.nf v.cf, .int .i64 v.en, .int .i64 v.code, .slice v.ao v.no v.co, .int .i64 v.steps, .int .i64 v.slack] :: GX.Own 4 Ty.bool c.aR c.cR c.B :: GX.Own 139 tyThing c.aL c.cL (c.L.map thg) :: Owns 3 Ty.int (c.L.map (fun x : Th => x.2)) :: GX.Own 3 Ty.int y.av y.cv f.vars :: GX.Own 3 Ty.int (some ⟨y.gr, 0, none⟩) tm.classes.length (regL tm.classes.length f.regs) :: R)
    (Code.wp Tryz.prog blk33 (Exit.then (Code.wp Tryz.prog end33 (GX.Post Tryz.prog Tryz.f33 b val ps' hp')) (GX.Post Tryz.prog Tryz.f33 b val ps' hp')))) :
  Does Tryz.prog 33 [.pointer (some ⟨p, 0, none⟩)] [Sl Ty.int km.aL km.cL (glob tm), Sl tyLayout km.aC km.cC tm.classes, Sl tyUnt km.aU km.cU tm.units, Sl Ty.int v.ai v.ci M.inp] (RowR p 74 [.slice km.aC tm.classes.length km.cC, .slice km.aG tm.globals.length km.cG, .slice km.aU tm.units.length km.cU, .int .i64 tm.main, .slice km.aL (glob tm).length km.cL, .slice v.ai v.ni v.ci, .slice c.aR c.B.length c.cR, .slice c.aL c.L.length c.cL, .int .i64 c.peak, .int .i64 c.most, .slice (some ⟨km.gb, 0, none⟩) tm.globals.length tm.globals.length, .slice v.af v.nf v.cf, .int .i64 v.en, .int .i64 v.code, .slice v.ao v.no v.co, .int .i64 v.steps, .int .i64 v.slack] :: GX.Own 4 Ty.bool c.aR c.cR c.B :: GX.Own 139 tyThing c.aL c.cL (c.L.map thg) :: Owns 3 Ty.int (c.L.map (fun x : Th => x.2)) :: GX.Own 98 tyRFr v.af v.cf (rfrs tm.classes.length ys r ++ [rfr tm.classes.length y f]) :: GX.Own 3 Ty.int y.av y.cv f.vars :: GX.Own 3 Ty.int (some ⟨y.gr, 0, none⟩) tm.classes.length (regL tm.classes.length f.regs) :: R) val ps' hp' := by
 refine enter Tryz.func33 rfl Tryz.ntmps33 rfl fun _ => ?_
 obtain ⟨ju, hju, hjl, hjg⟩ := gt_some hp.unit
 obtain ⟨jp, hjp, hpl, hip⟩ := gt_some hp.ins
 obtain ⟨ai, ni, ci, af, nf, cf, bd, en, code, ao, no, co, st, sl⟩ := v
 obtain ⟨av, cv, gr⟩ := y
 have hnf : nf = (rfrs tm.classes.length ys r).length + 1 := by
  have h1 := hp.hI.nf
  have h2 := hp.hI.len
  rw [hp.fs] at h2
  rw [rfrs_len (by simpa using h2)]
  have h3 : nf = ys.length + 1 := h1
  simp at h2
  omega
 have hnb : (rfrs tm.classes.length ys r).length ≤ 900 := by
  have h1 := hp.deep
  have h2 := hp.hI.len
  rw [hp.fs] at h2 h1
  rw [rfrs_len (by simpa using h2)]
  simp at h1
  omega
 subst hnf
 refine GX.opn af fun _ _ ha => ?_
 obtain ⟨h9, _⟩ | ⟨q, rfl⟩ := ha
 ·simp at h9
 have hx : (rfrs tm.classes.length ys r ++ [rfr tm.classes.length ⟨av, cv, gr⟩ f])[(rfrs tm.classes.length ys r).length]? = some (rfr tm.classes.length ⟨av, cv, gr⟩ f) := by simp
 have hrf : rfr tm.classes.length ⟨av, cv, gr⟩ f = ⟨(ju : Int), (jp : Int), f.into, (av, f.vars.length, cv), (some ⟨gr, 0, none⟩, tm.classes.length, tm.classes.length)⟩ := by unfold rfr; rw [hju, hjp]
 rw [hrf] at hx ⊢
 generalize rfrs tm.classes.length ys r = ll at hx hnb h ⊢
 refine GX.wp_R ?_; intros
 refine GX.o (cl (rtop_spec tm km (⟨ai, ni, ci, some ⟨q, 0, none⟩, ll.length + 1, cf, bd, en, code, ao, no, co, st, sl⟩ : MV) p c q rfl ll.length rfl (by omega)) fun _ => ?_)
 try dsimp only
 refine GX.wp_R ?_; intros
 refine GX.drawn2 (RowR p 74 _) (GX.Own 98 tyRFr (some ⟨q, 0, none⟩) _ _) (fun j => !(List.contains [19] j)) [(0, true), (1, true), (2, true), (3, true), (4, true), (5, true), (6, true), (7, true), (8, true), (9, true), (10, true), (11, true), (12, true), (13, true), (14, true), (15, true), (16, true), (17, true), (18, false), (19, false)] rfl (by kernel_rfl) (by kernel_rfl) GX.sA ?_; intro wd F hW hR
 refine GX.wp_T ?_; intros
 try dsimp only
 refine GX.wp_T ?_; intros
 refine GX.unpin (RowR p 74 _) ?_
 refine GX.unpin (GX.Own 98 tyRFr (some ⟨q, 0, none⟩) _ _) ?_
 refine GX.wp_RB ?_; intros
 have hset : ∀ x w : RFr, (ll ++ [x]).set ll.length w = ll ++ [w] := fun x w => by simp
 dsimp only
 rw [hset]
 refine GX.nmP 3 ?_; rintro b3 rfl
 refine frzB b3 ?_
 refine GX.less _ _ _ ?_ ?_ ?_ (h _ q ju jp b3 ll rfl rfl rfl hnb hju hjp)
 ·exact ⟨rfl, rfl, rfl, rfl, rfl, rfl, trivial⟩
 ·exact AllIn.sub GX.aA
 ·exact List.Sublist.refl _
abbrev RSt (tm : RTg) (km : MK) (p : Nat) (v : MV) (y : RCl) (ys : List RCl) (f : Fr) (r : List Fr) (c : RefC) (M : Ms) {σ : Type} (v2 : σ → MV) (c2 : σ → RefC) (f2 : Fr) (I O L : List Int) : Prop :=
 Does Tryz.prog 33 [.pointer (some ⟨p, 0, none⟩)] [Sl Ty.int km.aL km.cL (glob tm), Sl tyLayout km.aC km.cC tm.classes, Sl tyUnt km.aU km.cU tm.units, Sl Ty.int v.ai v.ci M.inp] [RowR p 74 [.slice km.aC tm.classes.length km.cC, .slice km.aG tm.globals.length km.cG, .slice km.aU tm.units.length km.cU, .int .i64 tm.main, .slice km.aL (glob tm).length km.cL, .slice v.ai v.ni v.ci, .slice c.aR c.B.length c.cR, .slice c.aL c.L.length c.cL, .int .i64 c.peak, .int .i64 c.most, .slice (some ⟨km.gb, 0, none⟩) tm.globals.length tm.globals.length, .slice v.af v.nf v.cf, .int .i64 v.en, .int .i64 v.code, .slice v.ao v.no v.co, .int .i64 v.steps, .int .i64 v.slack], GX.Own 4 Ty.bool c.aR c.cR c.B, GX.Own 139 tyThing c.aL c.cL (c.L.map thg), Owns 3 Ty.int (c.L.map (fun x : Th => x.2)), GX.Own 98 tyRFr v.af v.cf (rfrs tm.classes.length ys r ++ [rfr tm.classes.length y f]), GX.Own 3 Ty.int y.av y.cv f.vars, GX.Own 3 Ty.int (some ⟨y.gr, 0, none⟩) tm.classes.length (regL tm.classes.length f.regs), GX.Star (rres tm.classes.length ys r), GX.Own 3 Ty.int v.ao v.co M.out, GX.Own 3 Ty.int (some ⟨km.gb, 0, none⟩) tm.globals.length M.gl] (fun _ : σ => .tuple #[]) (fun s => [Sl Ty.int (v2 s).ai (v2 s).ci I]) (fun s => [RowR p 74 [.slice km.aC tm.classes.length km.cC, .slice km.aG tm.globals.length km.cG, .slice km.aU tm.units.length km.cU, .int .i64 tm.main, .slice km.aL (glob tm).length km.cL, .slice (v2 s).ai (v2 s).ni (v2 s).ci, .slice (c2 s).aR (c2 s).B.length (c2 s).cR, .slice (c2 s).aL (c2 s).L.length (c2 s).cL, .int .i64 (c2 s).peak, .int .i64 (c2 s).most, .slice (some ⟨km.gb, 0, none⟩) tm.globals.length tm.globals.length, .slice (v2 s).af (v2 s).nf (v2 s).cf, .int .i64 (v2 s).en, .int .i64 (v2 s).code, .slice (v2 s).ao (v2 s).no (v2 s).co, .int .i64 (v2 s).steps, .int .i64 (v2 s).slack], GX.Own 4 Ty.bool (c2 s).aR (c2 s).cR (c2 s).B, GX.Own 139 tyThing (c2 s).aL (c2 s).cL ((c2 s).L.map thg), Owns 3 Ty.int ((c2 s).L.map (fun x : Th => x.2)), GX.Own 98 tyRFr (v2 s).af (v2 s).cf (rfrs tm.classes.length ys r ++ [rfr tm.classes.length y f2]), GX.Own 3 Ty.int y.av y.cv f2.vars, GX.Own 3 Ty.int (some ⟨y.gr, 0, none⟩) tm.classes.length (regL tm.classes.length f2.regs), GX.Star (rres tm.classes.length ys r), GX.Own 3 Ty.int (v2 s).ao (v2 s).co O, GX.Own 3 Ty.int (some ⟨km.gb, 0, none⟩) tm.globals.length L])
theorem rset {ll : List RFr} {x w : RFr} : (ll ++ [x]).set ll.length w = ll ++ [w] := by simp
theorem rget (ll : List RFr) (x : RFr) : (ll ++ [x])[ll.length]? = some x := by simp
theorem rtrapV_zero (v : MV) : rtrapV v 0 = v := rfl
def rtE (v : MV) (x : Int) : Int := if x = -1 then 4 else if x ≠ 0 then 2 else v.en
def rtC (v : MV) (x : Int) : Int := if x = -1 then v.code else if x ≠ 0 then x else v.code
theorem rtrapV_eq (v : MV) (x : Int) : rtrapV v x = { v with en := rtE v x, code := rtC v x } := by
 unfold rtrapV rtE rtC
 split
 ·rfl
 ·split <;> rfl
theorem setv_set {l : List Int} {k : Nat} (y : Int) : setv l (k : Int) y = l.set k y := by unfold setv; rw [Int.toNat_natCast]
theorem rstep1 (tm : RTg) (km : MK) (p : Nat) (v : MV) (y : RCl) (ys : List RCl) (f : Fr) (r : List Fr) (c : RefC) (M : Ms) (u : Unt) (i : Ins) (hp : RPre tm v (y :: ys) f r c M u i) (ho : i.op = 1) : RSt tm km p v y ys f r c M (fun _ : Unit => v) (fun _ => c) { f with pc := f.pc + 1, vars := setv f.vars i.a i.n } M.inp M.out M.gl := by
 obtain ⟨ai, ni, ci, af, nf, cf, bd, en, code, ao, no, co, st, sl⟩ := v
 obtain ⟨av, cv, gr⟩ := y
 refine rstep_pre tm km p _ _ _ f _ c M u i _ hp fun _ q ju jp b3 ll hll haf hnf hnb hju hjp => ?_
 dsimp only at haf hnf ⊢
 subst haf hnf
 try rw [hll]
 obtain ⟨ka, hka, hla⟩ := vok hp.hv (hp.hi.va (by omega))
 try rw [hka]
 refine GX.opn av fun _ _ ha9 => ?_
 obtain ⟨h9, _⟩ | ⟨g, rfl⟩ := ha9
 ·exact absurd h9 (by omega)
 rw [show rfr tm.classes.length ⟨some ⟨g, 0, none⟩, cv, gr⟩ ({ f with pc := f.pc + 1, vars := setv f.vars (ka : Int) i.n } : Fr) = ⟨(ju : Int), ((jp + 1 : Nat) : Int), f.into, (some ⟨g, 0, none⟩, f.vars.length, cv), (some ⟨gr, 0, none⟩, tm.classes.length, tm.classes.length)⟩ by unfold rfr; dsimp only; rw [hju, hjp, setv_len]; try rfl]
 rw [setv_set]
 refine GX.wp_R ?_; intros
 try rw [hka]
 refine GX.wp_R ?_; intros
 refine GX.o (cl (rtrap_spec tm km (⟨ai, ni, ci, some ⟨q, 0, none⟩, ll.length + 1, cf, bd, en, code, ao, no, co, st, sl⟩ : MV) p c 0) fun _ => ?_)
 rw [rtrapV_zero]
 dsimp only
 refine GX.wp_R ?_; intros
 exact en0 ()
theorem rstep2 (tm : RTg) (km : MK) (p : Nat) (v : MV) (y : RCl) (ys : List RCl) (f : Fr) (r : List Fr) (c : RefC) (M : Ms) (u : Unt) (i : Ins) (hp : RPre tm v (y :: ys) f r c M u i) (ho : i.op = 2) : RSt tm km p v y ys f r c M (fun _ : Unit => v) (fun _ => c) { f with pc := f.pc + 1, vars := setv f.vars i.a 0 } M.inp M.out M.gl := by
 obtain ⟨ai, ni, ci, af, nf, cf, bd, en, code, ao, no, co, st, sl⟩ := v
 obtain ⟨av, cv, gr⟩ := y
 refine rstep_pre tm km p _ _ _ f _ c M u i _ hp fun _ q ju jp b3 ll hll haf hnf hnb hju hjp => ?_
 dsimp only at haf hnf ⊢
 subst haf hnf
 try rw [hll]
 obtain ⟨ka, hka, hla⟩ := vok hp.hv (hp.hi.va (by omega))
 try rw [hka]
 refine GX.opn av fun _ _ ha9 => ?_
 obtain ⟨h9, _⟩ | ⟨g, rfl⟩ := ha9
 ·exact absurd h9 (by omega)
 rw [show rfr tm.classes.length ⟨some ⟨g, 0, none⟩, cv, gr⟩ ({ f with pc := f.pc + 1, vars := setv f.vars (ka : Int) 0 } : Fr) = ⟨(ju : Int), ((jp + 1 : Nat) : Int), f.into, (some ⟨g, 0, none⟩, f.vars.length, cv), (some ⟨gr, 0, none⟩, tm.classes.length, tm.classes.length)⟩ by unfold rfr; dsimp only; rw [hju, hjp, setv_len]; try rfl]
 rw [setv_set]
 refine GX.wp_R ?_; intros
 try rw [hka]
 refine GX.wp_R ?_; intros
 refine GX.o (cl (rtrap_spec tm km (⟨ai, ni, ci, some ⟨q, 0, none⟩, ll.length + 1, cf, bd, en, code, ao, no, co, st, sl⟩ : MV) p c 0) fun _ => ?_)
 rw [rtrapV_zero]
 dsimp only
 refine GX.wp_R ?_; intros
 exact en0 ()
theorem rstep3 (tm : RTg) (km : MK) (p : Nat) (v : MV) (y : RCl) (ys : List RCl) (f : Fr) (r : List Fr) (c : RefC) (M : Ms) (u : Unt) (i : Ins) (hp : RPre tm v (y :: ys) f r c M u i) (ho : i.op = 3) : RSt tm km p v y ys f r c M (fun _ : Unit => v) (fun _ => c) { f with pc := f.pc + 1, vars := setv f.vars i.a (lkv f.vars i.b) } M.inp M.out M.gl := by
 obtain ⟨ai, ni, ci, af, nf, cf, bd, en, code, ao, no, co, st, sl⟩ := v
 obtain ⟨av, cv, gr⟩ := y
 refine rstep_pre tm km p _ _ _ f _ c M u i _ hp fun _ q ju jp b3 ll hll haf hnf hnb hju hjp => ?_
 dsimp only at haf hnf ⊢
 subst haf hnf
 try rw [hll]
 obtain ⟨ka, hka, hla⟩ := vok hp.hv (hp.hi.va (by omega))
 try rw [hka]
 obtain ⟨kb, hkb, hlb⟩ := vok hp.hv (hp.hi.vb (by omega))
 try rw [hkb]
 refine GX.opn av fun _ _ ha9 => ?_
 obtain ⟨h9, _⟩ | ⟨g, rfl⟩ := ha9
 ·exact absurd h9 (by omega)
 obtain ⟨wb, hwb⟩ := GX.get_lt hlb
 rw [show lkv f.vars (kb : Int) = wb by unfold lkv; rw [gt_nat, hwb]; rfl]
 rw [show rfr tm.classes.length ⟨some ⟨g, 0, none⟩, cv, gr⟩ ({ f with pc := f.pc + 1, vars := setv f.vars (ka : Int) wb } : Fr) = ⟨(ju : Int), ((jp + 1 : Nat) : Int), f.into, (some ⟨g, 0, none⟩, f.vars.length, cv), (some ⟨gr, 0, none⟩, tm.classes.length, tm.classes.length)⟩ by unfold rfr; dsimp only; rw [hju, hjp, setv_len]; try rfl]
 rw [setv_set]
 refine GX.wp_R ?_; intros
 refine GX.drawn1 (GX.Own 3 Ty.int (some ⟨g, 0, none⟩) cv f.vars) (fun j => !(List.contains [9] j)) [(0, true), (1, true), (2, true), (3, true), (4, true), (5, true), (6, true), (7, true), (8, true), (9, false)] rfl (by kernel_rfl) (by kernel_rfl) GX.sA ?_; intro wd F hW hR
 refine GX.wp_T ?_; intros
 try rw [hka]
 try rw [hkb]
 refine GX.wp_T ?_; intros
 refine GX.unpin (GX.Own 3 Ty.int (some ⟨g, 0, none⟩) cv f.vars) ?_
 refine GX.wp_T ?_; intros
 refine GX.wp_T ?_; intros
 refine GX.wp_R ?_; intros
 refine GX.o (cl (rtrap_spec tm km (⟨ai, ni, ci, some ⟨q, 0, none⟩, ll.length + 1, cf, bd, en, code, ao, no, co, st, sl⟩ : MV) p c 0) fun _ => ?_)
 rw [rtrapV_zero]
 dsimp only
 refine GX.wp_R ?_; intros
 exact en0 ()
theorem rstep5 (tm : RTg) (km : MK) (p : Nat) (v : MV) (y : RCl) (ys : List RCl) (f : Fr) (r : List Fr) (c : RefC) (M : Ms) (u : Unt) (i : Ins) (hp : RPre tm v (y :: ys) f r c M u i) (ho : i.op = 5) : RSt tm km p v y ys f r c M (fun _ : Unit => v) (fun _ => c) { f with pc := f.pc + 1, vars := setv f.vars i.a (unN i.n (lkv f.vars i.b)) } M.inp M.out M.gl := by
 obtain ⟨ai, ni, ci, af, nf, cf, bd, en, code, ao, no, co, st, sl⟩ := v
 obtain ⟨av, cv, gr⟩ := y
 refine rstep_pre tm km p _ _ _ f _ c M u i _ hp fun _ q ju jp b3 ll hll haf hnf hnb hju hjp => ?_
 dsimp only at haf hnf ⊢
 subst haf hnf
 try rw [hll]
 obtain ⟨ka, hka, hla⟩ := vok hp.hv (hp.hi.va (by omega))
 try rw [hka]
 obtain ⟨kb, hkb, hlb⟩ := vok hp.hv (hp.hi.vb (by omega))
 try rw [hkb]
 refine GX.opn av fun _ _ ha9 => ?_
 obtain ⟨h9, _⟩ | ⟨g, rfl⟩ := ha9
 ·exact absurd h9 (by omega)
 obtain ⟨wb, hwb⟩ := GX.get_lt hlb
 rw [show lkv f.vars (kb : Int) = wb by unfold lkv; rw [gt_nat, hwb]; rfl]
 rw [show rfr tm.classes.length ⟨some ⟨g, 0, none⟩, cv, gr⟩ ({ f with pc := f.pc + 1, vars := setv f.vars (ka : Int) (unN i.n wb) } : Fr) = ⟨(ju : Int), ((jp + 1 : Nat) : Int), f.into, (some ⟨g, 0, none⟩, f.vars.length, cv), (some ⟨gr, 0, none⟩, tm.classes.length, tm.classes.length)⟩ by unfold rfr; dsimp only; rw [hju, hjp, setv_len]; try rfl]
 rw [setv_set]
 refine GX.wp_R ?_; intros
 refine GX.drawn1 (GX.Own 3 Ty.int (some ⟨g, 0, none⟩) cv f.vars) (fun j => !(List.contains [12] j)) [(0, true), (1, true), (2, true), (3, true), (4, true), (5, true), (6, true), (7, true), (8, true), (9, true), (10, false), (11, true), (12, false)] rfl (by kernel_rfl) (by kernel_rfl) GX.sA ?_; intro wd F hW hR
 refine GX.wp_T ?_; intros
 try rw [hka]
 try rw [hkb]
 refine GX.wp_T ?_; intros
 refine GX.gow ?_
 refine (cl (r1un_spec i.n wb) fun _ => ?_)
 try dsimp only
 refine GX.wp_T ?_; intros
 refine GX.unpin (GX.Own 3 Ty.int (some ⟨g, 0, none⟩) cv f.vars) ?_
 refine GX.wp_T ?_; intros
 refine GX.wp_T ?_; intros
 refine GX.wp_R ?_; intros
 refine GX.o (cl (rtrap_spec tm km (⟨ai, ni, ci, some ⟨q, 0, none⟩, ll.length + 1, cf, bd, en, code, ao, no, co, st, sl⟩ : MV) p c 0) fun _ => ?_)
 rw [rtrapV_zero]
 dsimp only
 refine GX.wp_R ?_; intros
 exact en0 ()
theorem rstep4 (tm : RTg) (km : MK) (p : Nat) (v : MV) (y : RCl) (ys : List RCl) (f : Fr) (r : List Fr) (c : RefC) (M : Ms) (u : Unt) (i : Ins) (hp : RPre tm v (y :: ys) f r c M u i) (ho : i.op = 4) : RSt tm km p v y ys f r c M (fun _ : Unit => { v with en := rtE v (bin i.n (lkv f.vars i.b) (lkv f.vars i.c)).2, code := rtC v (bin i.n (lkv f.vars i.b) (lkv f.vars i.c)).2 }) (fun _ => c) { f with pc := f.pc + 1, vars := setv f.vars i.a (bin i.n (lkv f.vars i.b) (lkv f.vars i.c)).1 } M.inp M.out M.gl := by
 obtain ⟨ai, ni, ci, af, nf, cf, bd, en, code, ao, no, co, st, sl⟩ := v
 obtain ⟨av, cv, gr⟩ := y
 refine rstep_pre tm km p _ _ _ f _ c M u i _ hp fun _ q ju jp b3 ll hll haf hnf hnb hju hjp => ?_
 dsimp only at haf hnf ⊢
 subst haf hnf
 try rw [hll]
 obtain ⟨ka, hka, hla⟩ := vok hp.hv (hp.hi.va (by omega))
 try rw [hka]
 obtain ⟨kb, hkb, hlb⟩ := vok hp.hv (hp.hi.vb (by omega))
 try rw [hkb]
 obtain ⟨kc, hkc, hlc⟩ := vok hp.hv (hp.hi.vc (by omega))
 try rw [hkc]
 refine GX.opn av fun _ _ ha9 => ?_
 obtain ⟨h9, _⟩ | ⟨g, rfl⟩ := ha9
 ·exact absurd h9 (by omega)
 obtain ⟨wb, hwb⟩ := GX.get_lt hlb
 rw [show lkv f.vars (kb : Int) = wb by unfold lkv; rw [gt_nat, hwb]; rfl]
 obtain ⟨wc, hwc⟩ := GX.get_lt hlc
 rw [show lkv f.vars (kc : Int) = wc by unfold lkv; rw [gt_nat, hwc]; rfl]
 rw [show rfr tm.classes.length ⟨some ⟨g, 0, none⟩, cv, gr⟩ ({ f with pc := f.pc + 1, vars := setv f.vars (ka : Int) (bin i.n wb wc).1 } : Fr) = ⟨(ju : Int), ((jp + 1 : Nat) : Int), f.into, (some ⟨g, 0, none⟩, f.vars.length, cv), (some ⟨gr, 0, none⟩, tm.classes.length, tm.classes.length)⟩ by unfold rfr; dsimp only; rw [hju, hjp, setv_len]; try rfl]
 rw [setv_set]
 refine GX.wp_R ?_; intros
 refine GX.drawnT1 (GX.Own 3 Ty.int (some ⟨g, 0, none⟩) cv f.vars) (fun j => !(List.contains [20, 21] j)) (.br [(0, true), (1, true), (2, true), (3, true), (4, true), (5, true), (6, true), (7, true), (8, true), (9, true), (10, true), (11, true), (12, true), (13, true), (14, true)] (.alt 15 (.br [(16, true)] (.alt 17 (.br [(19, true)] (.alt 18 (.lin [(20, false), (21, false)]) (.alt 20 (.lin [(18, false), (21, false)]) .nil))) (.alt 18 (.lin [(17, false), (19, true), (20, false), (21, false)]) .nil))) .nil)) (by kernel_rfl) (by kernel_rfl) GX.sA ?_; intro wd F hW hR
 refine GX.wp_T ?_; intros
 try rw [hka]
 try rw [hkb]
 try rw [hkc]
 refine GX.wp_T ?_; intros
 try rw [hka]
 try rw [hkb]
 try rw [hkc]
 refine GX.wp_T ?_; intros
 refine GX.gok ?_
 refine (cl (r1bin_spec i.n wb wc) fun _ => ?_)
 try dsimp only
 refine GX.wp_T ?_; intros
 refine GX.treeA ?_ (GX.treeO ?_)
 ·refine GX.wp_T ?_; intros
  refine GX.treeA ?_ (GX.treeO ?_)
  ·refine GX.wp_T ?_; intros
   refine GX.unpin (GX.Own 3 Ty.int (some ⟨g, 0, none⟩) cv f.vars) ?_
   refine GX.wp_T ?_; intros
   refine GX.wp_T ?_; intros
   refine GX.wp_R ?_; intros
   refine GX.o (cl (rtrap_spec tm km (⟨ai, ni, ci, some ⟨q, 0, none⟩, ll.length + 1, cf, bd, en, code, ao, no, co, st, sl⟩ : MV) p c (bin i.n wb wc).2) fun _ => ?_)
   rw [rtrapV_eq]
   dsimp only
   refine GX.wp_R ?_; intros
   exact en0 ()
  ·refine GX.unpin (GX.Own 3 Ty.int (some ⟨g, 0, none⟩) cv f.vars) ?_
   refine GX.gok ?_
   first | refine GX.so1 ?_ | refine GX.som ?_ | refine GX.sof ?_ | refine GX.sog ?_
   refine GX.wentF ?_
   refine GX.treeL ?_
   refine GX.exW ?_
   refine GX.wp_T ?_; intros
   refine GX.wp_R ?_; intros
   refine GX.o (cl (rtrap_spec tm km (⟨ai, ni, ci, some ⟨q, 0, none⟩, ll.length + 1, cf, bd, en, code, ao, no, co, st, sl⟩ : MV) p c (bin i.n wb wc).2) fun _ => ?_)
   rw [rtrapV_eq]
   dsimp only
   refine GX.wp_R ?_; intros
   exact en0 ()
 ·refine GX.wp_T ?_; intros
  refine GX.unpin (GX.Own 3 Ty.int (some ⟨g, 0, none⟩) cv f.vars) ?_
  refine GX.wp_T ?_; intros
  refine GX.wp_T ?_; intros
  refine GX.wp_R ?_; intros
  refine GX.o (cl (rtrap_spec tm km (⟨ai, ni, ci, some ⟨q, 0, none⟩, ll.length + 1, cf, bd, en, code, ao, no, co, st, sl⟩ : MV) p c (bin i.n wb wc).2) fun _ => ?_)
  rw [rtrapV_eq]
  dsimp only
  refine GX.wp_R ?_; intros
  exact en0 ()
theorem rstep16 (tm : RTg) (km : MK) (p : Nat) (v : MV) (y : RCl) (ys : List RCl) (f : Fr) (r : List Fr) (c : RefC) (M : Ms) (u : Unt) (i : Ins) (hp : RPre tm v (y :: ys) f r c M u i) (ho : i.op = 16) : RSt tm km p v y ys f r c M (fun _ : Unit => v) (fun _ => c) { f with pc := i.n } M.inp M.out M.gl := by
 obtain ⟨ai, ni, ci, af, nf, cf, bd, en, code, ao, no, co, st, sl⟩ := v
 obtain ⟨av, cv, gr⟩ := y
 refine rstep_pre tm km p _ _ _ f _ c M u i _ hp fun _ q ju jp b3 ll hll haf hnf hnb hju hjp => ?_
 dsimp only at haf hnf ⊢
 subst haf hnf
 try rw [hll]
 rw [show rfr tm.classes.length ⟨av, cv, gr⟩ ({ f with pc := i.n } : Fr) = ⟨(ju : Int), i.n, f.into, (av, f.vars.length, cv), (some ⟨gr, 0, none⟩, tm.classes.length, tm.classes.length)⟩ by unfold rfr; dsimp only; rw [hju]; try rfl]
 have hx2 := rget ll ⟨(ju : Int), ((jp + 1 : Nat) : Int), f.into, (av, f.vars.length, cv), (some ⟨gr, 0, none⟩, tm.classes.length, tm.classes.length)⟩
 refine GX.wp_R ?_; intros
 dsimp only
 rw [rset]
 refine GX.o (cl (rtrap_spec tm km (⟨ai, ni, ci, some ⟨q, 0, none⟩, ll.length + 1, cf, bd, en, code, ao, no, co, st, sl⟩ : MV) p c 0) fun _ => ?_)
 rw [rtrapV_zero]
 dsimp only
 refine GX.wp_R ?_; intros
 exact en0 ()
theorem rstep17 (tm : RTg) (km : MK) (p : Nat) (v : MV) (y : RCl) (ys : List RCl) (f : Fr) (r : List Fr) (c : RefC) (M : Ms) (u : Unt) (i : Ins) (hp : RPre tm v (y :: ys) f r c M u i) (ho : i.op = 17) : RSt tm km p v y ys f r c M (fun _ : Unit => v) (fun _ => c) { f with pc := if lkv f.vars i.a ≠ 0 then i.n else i.c } M.inp M.out M.gl := by
 obtain ⟨ai, ni, ci, af, nf, cf, bd, en, code, ao, no, co, st, sl⟩ := v
 obtain ⟨av, cv, gr⟩ := y
 refine rstep_pre tm km p _ _ _ f _ c M u i _ hp fun _ q ju jp b3 ll hll haf hnf hnb hju hjp => ?_
 dsimp only at haf hnf ⊢
 subst haf hnf
 try rw [hll]
 obtain ⟨ka, hka, hla⟩ := vok hp.hv (hp.hi.va (by omega))
 try rw [hka]
 refine GX.opn av fun _ _ ha9 => ?_
 obtain ⟨h9, _⟩ | ⟨g, rfl⟩ := ha9
 ·exact absurd h9 (by omega)
 obtain ⟨wa, hwa⟩ := GX.get_lt hla
 rw [show lkv f.vars (ka : Int) = wa by unfold lkv; rw [gt_nat, hwa]; rfl]
 by_cases hz : wa ≠ 0
 ·rw [if_pos hz]
  rw [show rfr tm.classes.length ⟨some ⟨g, 0, none⟩, cv, gr⟩ ({ f with pc := i.n } : Fr) = ⟨(ju : Int), i.n, f.into, (some ⟨g, 0, none⟩, f.vars.length, cv), (some ⟨gr, 0, none⟩, tm.classes.length, tm.classes.length)⟩ by unfold rfr; dsimp only; rw [hju]; try rfl]
  have hx2 := rget ll (⟨(ju : Int), ((jp + 1 : Nat) : Int), f.into, (some ⟨g, 0, none⟩, f.vars.length, cv), (some ⟨gr, 0, none⟩, tm.classes.length, tm.classes.length)⟩)
  refine GX.wp_R ?_; intros
  try dsimp only
  try rw [rset]
  have hx3 := rget ll ⟨(ju : Int), i.c, f.into, (some ⟨g, 0, none⟩, f.vars.length, cv), (some ⟨gr, 0, none⟩, tm.classes.length, tm.classes.length)⟩
  refine GX.wp_R ?_; intros
  try rw [hka]
  refine GX.wp_R ?_; intros
  try dsimp only
  try rw [rset]
  refine GX.o (cl (rtrap_spec tm km (⟨ai, ni, ci, some ⟨q, 0, none⟩, ll.length + 1, cf, bd, en, code, ao, no, co, st, sl⟩ : MV) p c 0) fun _ => ?_)
  rw [rtrapV_zero]
  dsimp only
  refine GX.wp_R ?_; intros
  exact en0 ()
 ·rw [if_neg hz]
  rw [show rfr tm.classes.length ⟨some ⟨g, 0, none⟩, cv, gr⟩ ({ f with pc := i.c } : Fr) = ⟨(ju : Int), i.c, f.into, (some ⟨g, 0, none⟩, f.vars.length, cv), (some ⟨gr, 0, none⟩, tm.classes.length, tm.classes.length)⟩ by unfold rfr; dsimp only; rw [hju]; try rfl]
  have hx2 := rget ll (⟨(ju : Int), ((jp + 1 : Nat) : Int), f.into, (some ⟨g, 0, none⟩, f.vars.length, cv), (some ⟨gr, 0, none⟩, tm.classes.length, tm.classes.length)⟩)
  refine GX.wp_R ?_; intros
  try dsimp only
  try rw [rset]
  have hx3 := rget ll ⟨(ju : Int), i.c, f.into, (some ⟨g, 0, none⟩, f.vars.length, cv), (some ⟨gr, 0, none⟩, tm.classes.length, tm.classes.length)⟩
  refine GX.wp_R ?_; intros
  try rw [hka]
  refine GX.wp_R ?_; intros
  refine GX.o (cl (rtrap_spec tm km (⟨ai, ni, ci, some ⟨q, 0, none⟩, ll.length + 1, cf, bd, en, code, ao, no, co, st, sl⟩ : MV) p c 0) fun _ => ?_)
  rw [rtrapV_zero]
  dsimp only
  refine GX.wp_R ?_; intros
  exact en0 ()
theorem rstep19 (tm : RTg) (km : MK) (p : Nat) (v : MV) (y : RCl) (ys : List RCl) (f : Fr) (r : List Fr) (c : RefC) (M : Ms) (u : Unt) (i : Ins) (hp : RPre tm v (y :: ys) f r c M u i) (ho : i.op = 19) : RSt tm km p v y ys f r c M (fun _ : Unit => v) (fun _ => c) { f with pc := f.pc + 1, vars := setv f.vars i.a (lkv M.gl i.n) } M.inp M.out M.gl := by
 obtain ⟨ai, ni, ci, af, nf, cf, bd, en, code, ao, no, co, st, sl⟩ := v
 obtain ⟨av, cv, gr⟩ := y
 refine rstep_pre tm km p _ _ _ f _ c M u i _ hp fun _ q ju jp b3 ll hll haf hnf hnb hju hjp => ?_
 dsimp only at haf hnf ⊢
 subst haf hnf
 try rw [hll]
 obtain ⟨ka, hka, hla⟩ := vok hp.hv (hp.hi.va (by omega))
 try rw [hka]
 obtain ⟨gg, hgg⟩ := hp.hi.glo (by omega)
 obtain ⟨kn, hkn, hln, _⟩ := gt_some hgg
 have hgl := hp.gl
 have hln2 : kn < M.gl.length := by omega
 refine GX.opn av fun _ _ ha9 => ?_
 obtain ⟨h9, _⟩ | ⟨g, rfl⟩ := ha9
 ·exact absurd h9 (by omega)
 obtain ⟨wn, hwn⟩ := GX.get_lt hln2
 rw [hkn, show lkv M.gl (kn : Int) = wn by unfold lkv; rw [gt_nat, hwn]; rfl]
 rw [show rfr tm.classes.length ⟨some ⟨g, 0, none⟩, cv, gr⟩ ({ f with pc := f.pc + 1, vars := setv f.vars (ka : Int) wn } : Fr) = ⟨(ju : Int), ((jp + 1 : Nat) : Int), f.into, (some ⟨g, 0, none⟩, f.vars.length, cv), (some ⟨gr, 0, none⟩, tm.classes.length, tm.classes.length)⟩ by unfold rfr; dsimp only; rw [hju, hjp, setv_len]; try rfl]
 rw [setv_set, ← hgl]
 refine GX.wp_R ?_; intros
 refine GX.drawn3 (RowR p 74 _) (GX.Own 3 Ty.int (some ⟨g, 0, none⟩) cv f.vars) (GX.Own 3 Ty.int (some ⟨km.gb, 0, none⟩) M.gl.length M.gl) (fun j => !(List.contains [12] j)) [(0, true), (1, true), (2, true), (3, true), (4, true), (5, true), (6, true), (7, true), (8, true), (9, true), (10, true), (11, true), (12, false)] rfl (by kernel_rfl) (by kernel_rfl) GX.sA ?_; intro wd F hW hR
 refine GX.wp_T ?_; intros
 try rw [hka]
 try rw [hkn]
 refine GX.wp_T ?_; intros
 refine GX.unpin (RowR p 74 _) ?_
 refine GX.unpin (GX.Own 3 Ty.int (some ⟨g, 0, none⟩) cv f.vars) ?_
 refine GX.unpin (GX.Own 3 Ty.int (some ⟨km.gb, 0, none⟩) M.gl.length M.gl) ?_
 refine GX.wp_T ?_; intros
 refine GX.wp_T ?_; intros
 refine GX.wp_R ?_; intros
 rw [hgl]
 refine GX.o (cl (rtrap_spec tm km (⟨ai, ni, ci, some ⟨q, 0, none⟩, ll.length + 1, cf, bd, en, code, ao, no, co, st, sl⟩ : MV) p c 0) fun _ => ?_)
 rw [rtrapV_zero]
 dsimp only
 refine GX.wp_R ?_; intros
 exact en0 ()
theorem rstep20 (tm : RTg) (km : MK) (p : Nat) (v : MV) (y : RCl) (ys : List RCl) (f : Fr) (r : List Fr) (c : RefC) (M : Ms) (u : Unt) (i : Ins) (hp : RPre tm v (y :: ys) f r c M u i) (ho : i.op = 20) : RSt tm km p v y ys f r c M (fun _ : Unit => v) (fun _ => c) { f with pc := f.pc + 1 } M.inp M.out (setv M.gl i.n (lkv f.vars i.a)) := by
 obtain ⟨ai, ni, ci, af, nf, cf, bd, en, code, ao, no, co, st, sl⟩ := v
 obtain ⟨av, cv, gr⟩ := y
 refine rstep_pre tm km p _ _ _ f _ c M u i _ hp fun _ q ju jp b3 ll hll haf hnf hnb hju hjp => ?_
 dsimp only at haf hnf ⊢
 subst haf hnf
 try rw [hll]
 obtain ⟨ka, hka, hla⟩ := vok hp.hv (hp.hi.va (by omega))
 try rw [hka]
 obtain ⟨gg, hgg⟩ := hp.hi.glo (by omega)
 obtain ⟨kn, hkn, hln, _⟩ := gt_some hgg
 have hgl := hp.gl
 have hln2 : kn < M.gl.length := by omega
 refine GX.opn av fun _ _ ha9 => ?_
 obtain ⟨h9, _⟩ | ⟨g, rfl⟩ := ha9
 ·exact absurd h9 (by omega)
 obtain ⟨wa, hwa⟩ := GX.get_lt hla
 rw [show lkv f.vars (ka : Int) = wa by unfold lkv; rw [gt_nat, hwa]; rfl]
 rw [hkn]
 rw [show rfr tm.classes.length ⟨some ⟨g, 0, none⟩, cv, gr⟩ ({ f with pc := f.pc + 1 } : Fr) = ⟨(ju : Int), ((jp + 1 : Nat) : Int), f.into, (some ⟨g, 0, none⟩, f.vars.length, cv), (some ⟨gr, 0, none⟩, tm.classes.length, tm.classes.length)⟩ by unfold rfr; dsimp only; rw [hju, hjp]; try rfl]
 rw [setv_set, ← hgl]
 refine GX.wp_R ?_; intros
 refine GX.drawn3 (RowR p 74 _) (GX.Own 3 Ty.int (some ⟨g, 0, none⟩) cv f.vars) (GX.Own 3 Ty.int (some ⟨km.gb, 0, none⟩) M.gl.length M.gl) (fun j => !(List.contains [12] j)) [(0, true), (1, true), (2, true), (3, true), (4, true), (5, true), (6, true), (7, true), (8, true), (9, true), (10, true), (11, true), (12, false)] rfl (by kernel_rfl) (by kernel_rfl) GX.sA ?_; intro wd F hW hR
 refine GX.wp_T ?_; intros
 try rw [hka]
 try rw [hkn]
 refine GX.wp_T ?_; intros
 refine GX.unpin (RowR p 74 _) ?_
 refine GX.unpin (GX.Own 3 Ty.int (some ⟨g, 0, none⟩) cv f.vars) ?_
 refine GX.unpin (GX.Own 3 Ty.int (some ⟨km.gb, 0, none⟩) M.gl.length M.gl) ?_
 refine GX.wp_T ?_; intros
 refine GX.wp_T ?_; intros
 refine GX.wp_R ?_; intros
 rw [hgl]
 refine GX.o (cl (rtrap_spec tm km (⟨ai, ni, ci, some ⟨q, 0, none⟩, ll.length + 1, cf, bd, en, code, ao, no, co, st, sl⟩ : MV) p c 0) fun _ => ?_)
 rw [rtrapV_zero]
 dsimp only
 refine GX.wp_R ?_; intros
 exact en0 ()
theorem rstep14n (tm : RTg) (km : MK) (p : Nat) (v : MV) (y : RCl) (ys : List RCl) (f : Fr) (r : List Fr) (c : RefC) (M : Ms) (u : Unt) (i : Ins) (hp : RPre tm v (y :: ys) f r c M u i) (ho : i.op = 14) (hin : M.inp = []) : RSt tm km p v y ys f r c M (fun _ : Unit => { v with en := rtE v 5, code := rtC v 5 }) (fun _ => c) { f with pc := f.pc + 1 } M.inp M.out M.gl := by
 obtain ⟨ai, ni, ci, af, nf, cf, bd, en, code, ao, no, co, st, sl⟩ := v
 obtain ⟨av, cv, gr⟩ := y
 refine rstep_pre tm km p _ _ _ f _ c M u i _ hp fun _ q ju jp b3 ll hll haf hnf hnb hju hjp => ?_
 dsimp only at haf hnf ⊢
 subst haf hnf
 try rw [hll]
 have hni : ni = 0 := by have h := hp.hI.ni; rw [hin] at h; exact h
 rw [show rfr tm.classes.length ⟨av, cv, gr⟩ ({ f with pc := f.pc + 1 } : Fr) = ⟨(ju : Int), ((jp + 1 : Nat) : Int), f.into, (av, f.vars.length, cv), (some ⟨gr, 0, none⟩, tm.classes.length, tm.classes.length)⟩ by unfold rfr; dsimp only; rw [hju, hjp]; try rfl]
 refine GX.wp_R ?_; intros
 refine GX.o (cl (rtrap_spec tm km (⟨ai, ni, ci, some ⟨q, 0, none⟩, ll.length + 1, cf, bd, en, code, ao, no, co, st, sl⟩ : MV) p c 5) fun _ => ?_)
 rw [rtrapV_eq]
 dsimp only
 refine GX.wp_R ?_; intros
 exact en0 ()
theorem rstep14y (tm : RTg) (km : MK) (p : Nat) (v : MV) (y : RCl) (ys : List RCl) (f : Fr) (r : List Fr) (c : RefC) (M : Ms) (u : Unt) (i : Ins) (hp : RPre tm v (y :: ys) f r c M u i) (ho : i.op = 14) (y0 : Int) (l0 : List Int) (hin : M.inp = y0 :: l0) : RSt tm km p v y ys f r c M (fun s : Option Addr × Nat => { v with ai := s.1, ni := l0.length, ci := s.2 }) (fun _ => c) { f with pc := f.pc + 1, vars := setv f.vars i.a y0 } l0 M.out M.gl := by
 obtain ⟨ai, ni, ci, af, nf, cf, bd, en, code, ao, no, co, st, sl⟩ := v
 obtain ⟨av, cv, gr⟩ := y
 refine rstep_pre tm km p _ _ _ f _ c M u i _ hp fun _ q ju jp b3 ll hll haf hnf hnb hju hjp => ?_
 dsimp only at haf hnf ⊢
 subst haf hnf
 try rw [hll]
 obtain ⟨ka, hka, hla⟩ := vok hp.hv (hp.hi.va (by omega))
 try rw [hka]
 refine GX.opn av fun _ _ ha9 => ?_
 obtain ⟨h9, _⟩ | ⟨g, rfl⟩ := ha9
 ·exact absurd h9 (by omega)
 have hni : ni = l0.length + 1 := by have h := hp.hI.ni; rw [hin] at h; exact h
 rw [hin]
 subst hni
 rw [show rfr tm.classes.length ⟨some ⟨g, 0, none⟩, cv, gr⟩ ({ f with pc := f.pc + 1, vars := setv f.vars (ka : Int) y0 } : Fr) = ⟨(ju : Int), ((jp + 1 : Nat) : Int), f.into, (some ⟨g, 0, none⟩, f.vars.length, cv), (some ⟨gr, 0, none⟩, tm.classes.length, tm.classes.length)⟩ by unfold rfr; dsimp only; rw [hju, hjp, setv_len]; try rfl]
 have hx0 : (y0 :: l0)[0]? = some y0 := rfl
 have hil : (y0 :: l0).length = l0.length + 1 := rfl
 rw [setv_set]
 refine GX.wp_R ?_; intros
 refine GX.drawn2 (RowR p 74 _) (GX.Own 3 Ty.int (some ⟨g, 0, none⟩) cv f.vars) (fun j => !(List.contains [10] j)) [(0, true), (1, true), (2, true), (3, true), (4, true), (5, true), (6, true), (7, true), (8, true), (9, true), (10, false)] rfl (by kernel_rfl) (by kernel_rfl) GX.sA ?_; intro wd F hW hR
 refine GX.wp_T ?_; intros
 try rw [hka]
 try rw [hka]
 refine GX.wp_T ?_; intros
 refine GX.unpin (RowR p 74 _) ?_
 refine GX.unpin (GX.Own 3 Ty.int (some ⟨g, 0, none⟩) cv f.vars) ?_
 refine GX.wp_T ?_; intros
 refine GX.wp_T ?_; intros
 refine GX.wp_R ?_; intros
 refine GX.nmS 132 ?_; rintro a c2 rfl rfl
 rw [show List.drop (Int.toNat 1) (y0 :: l0) = l0 from rfl]
 refine GX.o (cl (rtrap_spec tm km (⟨a, l0.length, ci - Int.toNat 1, some ⟨q, 0, none⟩, ll.length + 1, cf, bd, en, code, ao, no, co, st, sl⟩ : MV) p c 0) fun _ => ?_)
 rw [rtrapV_zero]
 dsimp only
 refine GX.wp_R ?_; intros
 exact en0 (a, ci - Int.toNat 1)
theorem rstep15 (tm : RTg) (km : MK) (p : Nat) (v : MV) (y : RCl) (ys : List RCl) (f : Fr) (r : List Fr) (c : RefC) (M : Ms) (u : Unt) (i : Ins) (hp : RPre tm v (y :: ys) f r c M u i) (ho : i.op = 15) : RSt tm km p v y ys f r c M (fun s : Option Addr × Nat => { v with ao := s.1, no := M.out.length + 1, co := s.2 }) (fun _ => c) { f with pc := f.pc + 1 } M.inp (M.out ++ [lkv f.vars i.a]) M.gl := by
 obtain ⟨ai, ni, ci, af, nf, cf, bd, en, code, ao, no, co, st, sl⟩ := v
 obtain ⟨av, cv, gr⟩ := y
 refine rstep_pre tm km p _ _ _ f _ c M u i _ hp fun _ q ju jp b3 ll hll haf hnf hnb hju hjp => ?_
 dsimp only at haf hnf ⊢
 subst haf hnf
 try rw [hll]
 obtain ⟨ka, hka, hla⟩ := vok hp.hv (hp.hi.va (by omega))
 try rw [hka]
 refine GX.opn av fun _ _ ha9 => ?_
 obtain ⟨h9, _⟩ | ⟨g, rfl⟩ := ha9
 ·exact absurd h9 (by omega)
 obtain ⟨wa, hwa⟩ := GX.get_lt hla
 rw [show lkv f.vars (ka : Int) = wa by unfold lkv; rw [gt_nat, hwa]; rfl]
 have hno : no = M.out.length := hp.hI.no
 subst hno
 have hO1 : (M.out ++ [wa]).length = M.out.length + 1 := by simp
 have hO2 := hp.hO
 rw [show rfr tm.classes.length ⟨some ⟨g, 0, none⟩, cv, gr⟩ ({ f with pc := f.pc + 1 } : Fr) = ⟨(ju : Int), ((jp + 1 : Nat) : Int), f.into, (some ⟨g, 0, none⟩, f.vars.length, cv), (some ⟨gr, 0, none⟩, tm.classes.length, tm.classes.length)⟩ by unfold rfr; dsimp only; rw [hju, hjp]; try rfl]
 refine GX.wp_R ?_; intros
 refine GX.drawn2 (RowR p 74 _) (GX.Own 3 Ty.int (some ⟨g, 0, none⟩) cv f.vars) (fun j => !(List.contains [12, 16] j)) [(0, true), (1, true), (2, true), (3, true), (4, true), (5, true), (6, true), (7, true), (8, true), (9, true), (10, true), (11, false), (12, false), (13, true), (14, true), (15, true), (16, false)] rfl (by kernel_rfl) (by kernel_rfl) GX.sA ?_; intro wd F hW hR
 refine GX.wp_T ?_; intros
 try rw [hka]
 try rw [hka]
 refine GX.wp_T ?_; intros
 refine GX.unpin (RowR p 74 _) ?_
 refine GX.unpin (GX.Own 3 Ty.int (some ⟨g, 0, none⟩) cv f.vars) ?_
 refine GX.wp_T ?_; intros
 refine GX.wp_T ?_; intros
 refine GX.wp_R ?_; intros
 refine GX.nmS 149 ?_; rintro a c2 rfl rfl
 rw [hO1]
 refine GX.o (cl (rtrap_spec tm km (⟨ai, ni, ci, some ⟨q, 0, none⟩, ll.length + 1, cf, bd, en, code, a, M.out.length + 1, c2, st, sl⟩ : MV) p c 0) fun _ => ?_)
 rw [rtrapV_zero]
 dsimp only
 refine GX.wp_R ?_; intros
 exact en0 (a, c2)
end Go.Proofs.YtomadjefdghliaaGreat
