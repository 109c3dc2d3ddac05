import Derived.Test.YtomadjefdghliaaV24
/- The walks over play's steps; all operations in one form. -/
namespace Go.Proofs.Ytomadjefdghliaa
open Go Go.RR Go.RX Go.GX Go.Api Go.RtM
attribute [local irreducible] wpList Code.wp wpPlan Exit.then Exit.inBlock bodyPost NoPanic Went GX.Post GX.Again GX.Meet GX.RowR GX.Own GX.Owns GX.Box GX.Sl GX.Pt GX.Ag GX.MapR GX.Star GX.Kept GX.Pin wpT GoK AtEnd Both
/-- What each operation does, as functions. -/
def fnV (n : Nat) : Value := .func (.func n) #[] #[]
def opsF : Int → Option Value := RX.upd (RX.upd (RX.upd (RX.upd (RX.upd (RX.upd (RX.upd (RX.upd (RX.upd (RX.upd (RX.upd (RX.upd (RX.upd (RX.upd (RX.upd (RX.upd (RX.upd (RX.upd (RX.upd (RX.upd (RX.upd (RX.upd (fun _ => none) 1 (fnV 25)) 2 (fnV 26)) 3 (fnV 27)) 4 (fnV 28)) 5 (fnV 29)) 6 (fnV 30)) 7 (fnV 31)) 8 (fnV 32)) 9 (fnV 33)) 10 (fnV 34)) 11 (fnV 35)) 12 (fnV 36)) 13 (fnV 37)) 14 (fnV 38)) 15 (fnV 39)) 16 (fnV 40)) 17 (fnV 41)) 18 (fnV 42)) 19 (fnV 43)) 20 (fnV 44)) 21 (fnV 45)) 22 (fnV 46)
theorem steps_spec : Does Try.prog 10 [] [] [] (fun b : Nat => .map (some b)) (fun _ => []) (fun b => [GX.MapR b opsF]) := by
  refine enter Try.func10 rfl Try.ntmps10 rfl fun _ => ?_
  refine GX.wp_R ?_; intros
  refine GX.o (muI ?_)
  refine GX.o (muI ?_)
  refine GX.o (muI ?_)
  refine GX.o (muI ?_)
  refine GX.o (muI ?_)
  refine GX.o (muI ?_)
  refine GX.o (muI ?_)
  refine GX.o (muI ?_)
  refine GX.o (muI ?_)
  refine GX.o (muI ?_)
  refine GX.o (muI ?_)
  refine GX.o (muI ?_)
  refine GX.o (muI ?_)
  refine GX.o (muI ?_)
  refine GX.o (muI ?_)
  refine GX.o (muI ?_)
  refine GX.o (muI ?_)
  refine GX.o (muI ?_)
  refine GX.o (muI ?_)
  refine GX.o (muI ?_)
  refine GX.o (muI ?_)
  refine GX.o (muI ?_)
  refine GX.wp_R ?_; intros
  refine GX.nmM 0 ?_
  rintro bl rfl
  exact rt1 bl rfl (h2 := by unfold opsF fnV; first | ((repeat (first | apply Go.GX.SelR.nil | apply Go.GX.SelR.cons | (with_reducible apply Go.GX.TakeR.head) | apply Go.GX.TakeR.tail)); done) | (repeat (first | apply Go.GX.SelR.nil | apply Go.GX.SelR.cons | apply Go.GX.TakeR.head | apply Go.GX.TakeR.tail)))
/-- Where frames lie. -/
def adrs : List FrC → List (Option Addr)
  | [] => []
  | x :: xs => adrs xs ++ [some ⟨x.bl, 0, none⟩]
theorem adrs_len : ∀ xs : List FrC, (adrs xs).length = xs.length
  | [] => rfl
  | x :: xs => by show (adrs xs ++ _).length = _; rw [List.length_append, adrs_len xs]; rfl
/-- The frames as things of one's own. -/
def frs : List FrC → List Fr → List Res
  | x :: xs, f :: fs => [RowR x.bl 76 [.int .i64 f.u, .int .i64 f.pc, .slice (some ⟨x.vb, 0, none⟩) x.n x.n, .int .i64 f.into, .map (some x.mb)], GX.Own 3 Ty.int (some ⟨x.vb, 0, none⟩) x.n f.vars, GX.MapR x.mb x.mp] ++ frs xs fs
  | _, _ => []
def FrsAt : List FrC → List Fr → Prop
  | [], [] => True
  | x :: xs, f :: fs => (f.vars.length = x.n ∧ RegsAt x f) ∧ FrsAt xs fs
  | _, _ => False
theorem FrsAt.len : ∀ {xs : List FrC} {fs : List Fr}, FrsAt xs fs → xs.length = fs.length
  | [], [], _ => rfl
  | x :: xs, f :: fs, h => by rw [List.length_cons, List.length_cons, FrsAt.len h.2]
/-- How a run lies in memory. -/
structure PS where
  v : MV
  xs : List FrC
  c : TabC
structure MInv (t : RTg) (S : PS) (M : Ms) : Prop where
  tab : TInv S.c M.tb
  nf : S.v.nf = S.xs.length
  fr : FrsAt S.xs M.fs
  en : S.v.en = M.en
  code : S.v.code = M.code
  steps : S.v.steps = M.steps
  slack : S.v.slack = M.slack
  no : S.v.no = M.out.length
  ni : S.v.ni = M.inp.length
  bd : S.v.bound = bound t M.fs
theorem MInv.keep {t : RTg} {v v' : MV} {x x' : FrC} {xs : List FrC} {c c' : TabC} {M M' : Ms} {f f' : Fr} {r : List Fr} (h : MInv t ⟨v, x :: xs, c⟩ M) (hM : M.fs = f :: r) (hM' : M'.fs = f' :: r) (hu : f'.u = f.u) (hv : f'.vars.length = f.vars.length) (hx : x'.n = x.n) (hr : RegsAt x' f') (hT : TInv c' M'.tb) (hnf : v'.nf = v.nf) (hbd : v'.bound = v.bound) (hen : v'.en = M'.en) (hcode : v'.code = M'.code) (hsteps : v'.steps = M'.steps) (hslack : v'.slack = M'.slack) (hno : v'.no = M'.out.length) (hni : v'.ni = M'.inp.length) : MInv t ⟨v', x' :: xs, c'⟩ M' := by
  have h1 := h.fr
  rw [hM] at h1
  refine ⟨hT, hnf.trans h.nf, ?_, hen, hcode, hsteps, hslack, hno, hni, ?_⟩
  · rw [hM']; exact ⟨⟨hv.trans (h1.1.1.trans hx.symm), hr⟩, h1.2⟩
  · show v'.bound = _
    have := h.bd
    rw [hM] at this
    rw [hbd, hM']
    have this : v.bound = bound t (f :: r) := this
    rw [this]
    unfold bound
    rw [List.map_cons, List.map_cons, show ownsN t f' = ownsN t f by unfold ownsN; rw [hu]]
theorem toMCH {t : RTg} {p : Nat} {k : MK} {v : MV} {x : FrC} {xs : List FrC} {f : Fr} {r : List Fr} {c : TabC} {O L : List Int} : Turn [RowR p 51 [.slice k.aC t.classes.length k.cC, .slice k.aG t.globals.length k.cG, .slice k.aU t.units.length k.cU, .int .i64 t.main, .slice k.aL (glob t).length k.cL, .pointer (some ⟨k.tp, 0, none⟩), .int .i64 1, .slice v.ai v.ni v.ci, .slice (some ⟨k.gb, 0, none⟩) t.globals.length t.globals.length, .slice v.af v.nf v.cf, .int .i64 v.bound, .map (some k.om), .int .i64 v.en, .int .i64 v.code, .slice v.ao v.no v.co, .int .i64 v.steps, .int .i64 0, .int .i64 0, .int .i64 0, .int .i64 0, .int .i64 v.slack, .int .i64 0], GX.Own 54 Ty.ptr v.af v.cf ((adrs xs) ++ [some ⟨x.bl, 0, none⟩]), RowR x.bl 76 [.int .i64 f.u, .int .i64 f.pc, .slice (some ⟨x.vb, 0, none⟩) x.n x.n, .int .i64 f.into, .map (some x.mb)], GX.Own 3 Ty.int (some ⟨x.vb, 0, none⟩) x.n f.vars, GX.MapR x.mb x.mp, GX.Star (frs xs r), RowR k.tp 69 [.slice c.aR c.R.length c.cR, .slice c.aL c.L.length c.cL, .int .i64 c.gone, .int .i64 c.peak, .int .i64 c.many, .int .i64 c.most], GX.Own 73 tyRegion c.aR c.cR c.R, GX.Own 116 tyThing c.aL c.cL (c.L.map thg), Owns 3 Ty.int (c.L.map (fun x : Th => x.2)), GX.Own 3 Ty.int v.ao v.co O, GX.Own 3 Ty.int (some ⟨k.gb, 0, none⟩) t.globals.length L, GX.MapR k.om opsF] [RowR p 51 [.slice k.aC t.classes.length k.cC, .slice k.aG t.globals.length k.cG, .slice k.aU t.units.length k.cU, .int .i64 t.main, .slice k.aL (glob t).length k.cL, .pointer (some ⟨k.tp, 0, none⟩), .int .i64 1, .slice v.ai v.ni v.ci, .slice (some ⟨k.gb, 0, none⟩) t.globals.length t.globals.length, .slice v.af v.nf v.cf, .int .i64 v.bound, .map (some k.om), .int .i64 v.en, .int .i64 v.code, .slice v.ao v.no v.co, .int .i64 v.steps, .int .i64 0, .int .i64 0, .int .i64 0, .int .i64 0, .int .i64 v.slack, .int .i64 0], GX.Own 54 Ty.ptr v.af v.cf (adrs (x :: xs)), GX.Star (frs (x :: xs) (f :: r)), RowR k.tp 69 [.slice c.aR c.R.length c.cR, .slice c.aL c.L.length c.cL, .int .i64 c.gone, .int .i64 c.peak, .int .i64 c.many, .int .i64 c.most], GX.Own 73 tyRegion c.aR c.cR c.R, GX.Own 116 tyThing c.aL c.cL (c.L.map thg), Owns 3 Ty.int (c.L.map (fun x : Th => x.2)), GX.Own 3 Ty.int v.ao v.co O, GX.Own 3 Ty.int (some ⟨k.gb, 0, none⟩) t.globals.length L, GX.MapR k.om opsF] := by
  rw [show frs (x :: xs) (f :: r) = [RowR x.bl 76 [.int .i64 f.u, .int .i64 f.pc, .slice (some ⟨x.vb, 0, none⟩) x.n x.n, .int .i64 f.into, .map (some x.mb)], GX.Own 3 Ty.int (some ⟨x.vb, 0, none⟩) x.n f.vars, GX.MapR x.mb x.mp] ++ frs xs r from rfl, show adrs (x :: xs) = adrs xs ++ [some ⟨x.bl, 0, none⟩] from rfl]
  exact (Turn.sel (hp2 := [RowR x.bl 76 [.int .i64 f.u, .int .i64 f.pc, .slice (some ⟨x.vb, 0, none⟩) x.n x.n, .int .i64 f.into, .map (some x.mb)], GX.Own 3 Ty.int (some ⟨x.vb, 0, none⟩) x.n f.vars, GX.MapR x.mb x.mp] ++ (GX.Star (frs xs r) :: [RowR p 51 [.slice k.aC t.classes.length k.cC, .slice k.aG t.globals.length k.cG, .slice k.aU t.units.length k.cU, .int .i64 t.main, .slice k.aL (glob t).length k.cL, .pointer (some ⟨k.tp, 0, none⟩), .int .i64 1, .slice v.ai v.ni v.ci, .slice (some ⟨k.gb, 0, none⟩) t.globals.length t.globals.length, .slice v.af v.nf v.cf, .int .i64 v.bound, .map (some k.om), .int .i64 v.en, .int .i64 v.code, .slice v.ao v.no v.co, .int .i64 v.steps, .int .i64 0, .int .i64 0, .int .i64 0, .int .i64 0, .int .i64 v.slack, .int .i64 0], GX.Own 54 Ty.ptr v.af v.cf (adrs xs ++ [some ⟨x.bl, 0, none⟩]), RowR k.tp 69 [.slice c.aR c.R.length c.cR, .slice c.aL c.L.length c.cL, .int .i64 c.gone, .int .i64 c.peak, .int .i64 c.many, .int .i64 c.most], GX.Own 73 tyRegion c.aR c.cR c.R, GX.Own 116 tyThing c.aL c.cL (c.L.map thg), Owns 3 Ty.int (c.L.map (fun x : Th => x.2)), GX.Own 3 Ty.int v.ao v.co O, GX.Own 3 Ty.int (some ⟨k.gb, 0, none⟩) t.globals.length L, GX.MapR k.om opsF])) (by first | ((repeat (first | apply Go.GX.SelR.nil | apply Go.GX.SelR.cons | (with_reducible apply Go.GX.TakeR.head) | apply Go.GX.TakeR.tail)); done) | (repeat (first | apply Go.GX.SelR.nil | apply Go.GX.SelR.cons | apply Go.GX.TakeR.head | apply Go.GX.TakeR.tail)))).trans (Turn.starI.trans (Turn.sel (by first | ((repeat (first | apply Go.GX.SelR.nil | apply Go.GX.SelR.cons | (with_reducible apply Go.GX.TakeR.head) | apply Go.GX.TakeR.tail)); done) | (repeat (first | apply Go.GX.SelR.nil | apply Go.GX.SelR.cons | apply Go.GX.TakeR.head | apply Go.GX.TakeR.tail)))))
/-- The form of all operations. -/
abbrev OpOk (t : RTg) (p : Nat) (k : MK) (cs : List Value) (i : Ins) (v : MV) (x : FrC) (xs : List FrC) (f : Fr) (r : List Fr) (c : TabC) (M M' : Ms) (fid : FuncId) : Prop :=
  Does Try.prog fid [.pointer (some ⟨p, 0, none⟩), .agg cs.toArray] [Ag tyIns cs i, Sl Ty.int k.aL k.cL (glob t), Sl tyLayout k.aC k.cC t.classes, Sl tyUnt k.aU k.cU t.units, Sl Ty.int v.ai v.ci M.inp] [RowR p 51 [.slice k.aC t.classes.length k.cC, .slice k.aG t.globals.length k.cG, .slice k.aU t.units.length k.cU, .int .i64 t.main, .slice k.aL (glob t).length k.cL, .pointer (some ⟨k.tp, 0, none⟩), .int .i64 1, .slice v.ai v.ni v.ci, .slice (some ⟨k.gb, 0, none⟩) t.globals.length t.globals.length, .slice v.af v.nf v.cf, .int .i64 v.bound, .map (some k.om), .int .i64 v.en, .int .i64 v.code, .slice v.ao v.no v.co, .int .i64 v.steps, .int .i64 0, .int .i64 0, .int .i64 0, .int .i64 0, .int .i64 v.slack, .int .i64 0], GX.Own 54 Ty.ptr v.af v.cf ((adrs xs) ++ [some ⟨x.bl, 0, none⟩]), RowR x.bl 76 [.int .i64 f.u, .int .i64 f.pc, .slice (some ⟨x.vb, 0, none⟩) x.n x.n, .int .i64 f.into, .map (some x.mb)], GX.Own 3 Ty.int (some ⟨x.vb, 0, none⟩) x.n f.vars, GX.MapR x.mb x.mp, GX.Star (frs xs r), RowR k.tp 69 [.slice c.aR c.R.length c.cR, .slice c.aL c.L.length c.cL, .int .i64 c.gone, .int .i64 c.peak, .int .i64 c.many, .int .i64 c.most], GX.Own 73 tyRegion c.aR c.cR c.R, GX.Own 116 tyThing c.aL c.cL (c.L.map thg), Owns 3 Ty.int (c.L.map (fun x : Th => x.2)), GX.Own 3 Ty.int v.ao v.co M.out, GX.Own 3 Ty.int (some ⟨k.gb, 0, none⟩) t.globals.length M.gl, GX.MapR k.om opsF] (fun _ : { S : PS // MInv t S M' } => .tuple #[]) (fun s => [Sl Ty.int s.1.v.ai s.1.v.ci M'.inp])
    (fun s => [RowR p 51 [.slice k.aC t.classes.length k.cC, .slice k.aG t.globals.length k.cG, .slice k.aU t.units.length k.cU, .int .i64 t.main, .slice k.aL (glob t).length k.cL, .pointer (some ⟨k.tp, 0, none⟩), .int .i64 1, .slice s.1.v.ai s.1.v.ni s.1.v.ci, .slice (some ⟨k.gb, 0, none⟩) t.globals.length t.globals.length, .slice s.1.v.af s.1.v.nf s.1.v.cf, .int .i64 s.1.v.bound, .map (some k.om), .int .i64 s.1.v.en, .int .i64 s.1.v.code, .slice s.1.v.ao s.1.v.no s.1.v.co, .int .i64 s.1.v.steps, .int .i64 0, .int .i64 0, .int .i64 0, .int .i64 0, .int .i64 s.1.v.slack, .int .i64 0], GX.Own 54 Ty.ptr s.1.v.af s.1.v.cf (adrs s.1.xs), GX.Star (frs s.1.xs M'.fs), RowR k.tp 69 [.slice s.1.c.aR s.1.c.R.length s.1.c.cR, .slice s.1.c.aL s.1.c.L.length s.1.c.cL, .int .i64 s.1.c.gone, .int .i64 s.1.c.peak, .int .i64 s.1.c.many, .int .i64 s.1.c.most], GX.Own 73 tyRegion s.1.c.aR s.1.c.cR s.1.c.R, GX.Own 116 tyThing s.1.c.aL s.1.c.cL (s.1.c.L.map thg), Owns 3 Ty.int (s.1.c.L.map (fun x : Th => x.2)), GX.Own 3 Ty.int s.1.v.ao s.1.v.co M'.out, GX.Own 3 Ty.int (some ⟨k.gb, 0, none⟩) t.globals.length M'.gl, GX.MapR k.om opsF])
theorem op_keep {t : RTg} {p : Nat} {k : MK} {cs : List Value} {i : Ins} {v : MV} {x : FrC} {xs : List FrC} {f : Fr} {r : List Fr} {c : TabC} {M M' : Ms} {fid : FuncId} {ps : List Pf} {hp rest : List Res} {σ : Type} {ps' : σ → List Pf} {hp' rest' : σ → List Res}
    (h : Does Try.prog fid [.pointer (some ⟨p, 0, none⟩), .agg cs.toArray] ps hp (fun _ : σ => .tuple #[]) ps' hp') (v' : σ → MV) (x' : σ → FrC) (f' : Fr) (c' : σ → TabC) (I O L : List Int) (hI : ∀ s, MInv t ⟨v' s, x' s :: xs, c' s⟩ M') (hfs : M'.fs = f' :: r) (hi : M'.inp = I) (ho : M'.out = O) (hg : M'.gl = L)
    (hps : AllIn ps [Ag tyIns cs i, Sl Ty.int k.aL k.cL (glob t), Sl tyLayout k.aC k.cC t.classes, Sl tyUnt k.aU k.cU t.units, Sl Ty.int v.ai v.ci M.inp] := by ((repeat (first | apply Go.GX.AllIn.nil | apply Go.GX.AllIn.cons | (with_reducible apply Go.GX.InP.head) | apply Go.GX.InP.tail)); done)) (hsel : SelR hp [RowR p 51 [.slice k.aC t.classes.length k.cC, .slice k.aG t.globals.length k.cG, .slice k.aU t.units.length k.cU, .int .i64 t.main, .slice k.aL (glob t).length k.cL, .pointer (some ⟨k.tp, 0, none⟩), .int .i64 1, .slice v.ai v.ni v.ci, .slice (some ⟨k.gb, 0, none⟩) t.globals.length t.globals.length, .slice v.af v.nf v.cf, .int .i64 v.bound, .map (some k.om), .int .i64 v.en, .int .i64 v.code, .slice v.ao v.no v.co, .int .i64 v.steps, .int .i64 0, .int .i64 0, .int .i64 0, .int .i64 0, .int .i64 v.slack, .int .i64 0], GX.Own 54 Ty.ptr v.af v.cf ((adrs xs) ++ [some ⟨x.bl, 0, none⟩]), RowR x.bl 76 [.int .i64 f.u, .int .i64 f.pc, .slice (some ⟨x.vb, 0, none⟩) x.n x.n, .int .i64 f.into, .map (some x.mb)], GX.Own 3 Ty.int (some ⟨x.vb, 0, none⟩) x.n f.vars, GX.MapR x.mb x.mp, GX.Star (frs xs r), RowR k.tp 69 [.slice c.aR c.R.length c.cR, .slice c.aL c.L.length c.cL, .int .i64 c.gone, .int .i64 c.peak, .int .i64 c.many, .int .i64 c.most], GX.Own 73 tyRegion c.aR c.cR c.R, GX.Own 116 tyThing c.aL c.cL (c.L.map thg), Owns 3 Ty.int (c.L.map (fun x : Th => x.2)), GX.Own 3 Ty.int v.ao v.co M.out, GX.Own 3 Ty.int (some ⟨k.gb, 0, none⟩) t.globals.length M.gl, GX.MapR k.om opsF] rest := by first | ((repeat (first | apply Go.GX.SelR.nil | apply Go.GX.SelR.cons | (with_reducible apply Go.GX.TakeR.head) | apply Go.GX.TakeR.tail)); done) | (repeat (first | apply Go.GX.SelR.nil | apply Go.GX.SelR.cons | apply Go.GX.TakeR.head | apply Go.GX.TakeR.tail)))
    (h1 : ∀ s, AllIn [Sl Ty.int (v' s).ai (v' s).ci I] (ps' s ++ [Ag tyIns cs i, Sl Ty.int k.aL k.cL (glob t), Sl tyLayout k.aC k.cC t.classes, Sl tyUnt k.aU k.cU t.units, Sl Ty.int v.ai v.ci M.inp]) := by intro _; ((repeat (first | apply Go.GX.AllIn.nil | apply Go.GX.AllIn.cons | (with_reducible apply Go.GX.InP.head) | apply Go.GX.InP.tail)); done))
    (h2 : ∀ s, SelR [RowR p 51 [.slice k.aC t.classes.length k.cC, .slice k.aG t.globals.length k.cG, .slice k.aU t.units.length k.cU, .int .i64 t.main, .slice k.aL (glob t).length k.cL, .pointer (some ⟨k.tp, 0, none⟩), .int .i64 1, .slice (v' s).ai (v' s).ni (v' s).ci, .slice (some ⟨k.gb, 0, none⟩) t.globals.length t.globals.length, .slice (v' s).af (v' s).nf (v' s).cf, .int .i64 (v' s).bound, .map (some k.om), .int .i64 (v' s).en, .int .i64 (v' s).code, .slice (v' s).ao (v' s).no (v' s).co, .int .i64 (v' s).steps, .int .i64 0, .int .i64 0, .int .i64 0, .int .i64 0, .int .i64 (v' s).slack, .int .i64 0], GX.Own 54 Ty.ptr (v' s).af (v' s).cf ((adrs xs) ++ [some ⟨(x' s).bl, 0, none⟩]), RowR (x' s).bl 76 [.int .i64 f'.u, .int .i64 f'.pc, .slice (some ⟨(x' s).vb, 0, none⟩) (x' s).n (x' s).n, .int .i64 f'.into, .map (some (x' s).mb)], GX.Own 3 Ty.int (some ⟨(x' s).vb, 0, none⟩) (x' s).n f'.vars, GX.MapR (x' s).mb (x' s).mp, GX.Star (frs xs r), RowR k.tp 69 [.slice (c' s).aR (c' s).R.length (c' s).cR, .slice (c' s).aL (c' s).L.length (c' s).cL, .int .i64 (c' s).gone, .int .i64 (c' s).peak, .int .i64 (c' s).many, .int .i64 (c' s).most], GX.Own 73 tyRegion (c' s).aR (c' s).cR (c' s).R, GX.Own 116 tyThing (c' s).aL (c' s).cL ((c' s).L.map thg), Owns 3 Ty.int ((c' s).L.map (fun x : Th => x.2)), GX.Own 3 Ty.int (v' s).ao (v' s).co O, GX.Own 3 Ty.int (some ⟨k.gb, 0, none⟩) t.globals.length L, GX.MapR k.om opsF] (hp' s ++ rest) (rest' s) := by intro _; first | ((repeat (first | apply Go.GX.SelR.nil | apply Go.GX.SelR.cons | (with_reducible apply Go.GX.TakeR.head) | apply Go.GX.TakeR.tail)); done) | (repeat (first | apply Go.GX.SelR.nil | apply Go.GX.SelR.cons | apply Go.GX.TakeR.head | apply Go.GX.TakeR.tail))) : OpOk t p k cs i v x xs f r c M M' fid := by
  subst hi ho hg
  exact Does.fitT h (fun s => ⟨⟨v' s, x' s :: xs, c' s⟩, hI s⟩) hps hsel (fun _ => rfl) h1 (fun s => by
    rw [hfs]
    exact (Turn.sel (h2 s)).trans toMCH)
section
variable {t : RTg} {p : Nat} {k : MK} {cs : List Value} {i : Ins} {v : MV} {x : FrC} {xs : List FrC} {f : Fr} {r : List Fr} {c : TabC} {M : Ms}
/-- What is known ahead of an operation. -/
structure Pre (t : RTg) (v : MV) (x : FrC) (xs : List FrC) (f : Fr) (r : List Fr) (c : TabC) (M : Ms) (i : Ins) (u : Unt) : Prop where
  hI : MInv t ⟨v, x :: xs, c⟩ M
  fs : M.fs = f :: r
  hi : InsV t u i
  hv : f.vars.length = u.vars.length
  deep : M.fs.length ≤ 40
  gl : M.gl.length = t.globals.length
  hB : M.tb.B.length ≤ 900000000
  hL : M.tb.L.length ≤ 900000000
  hO : M.out.length ≤ 900000000
  hA : i.args.length ≤ 1000000
  into : f.into = -1 ∨ ∀ h r', r = h :: r' → Vok h f.into
theorem Pre.nf {u : Unt} (h : Pre t v x xs f r c M i u) : v.nf = (adrs xs).length + 1 := by rw [adrs_len]; exact h.hI.nf
theorem Pre.nb {u : Unt} (h : Pre t v x xs f r c M i u) : (adrs xs).length ≤ 900 := by
  have h1 := h.hI.fr.len
  have h2 := h.deep
  rw [adrs_len]
  simp at h1
  omega
theorem Pre.hl {u : Unt} (h : Pre t v x xs f r c M i u) : f.vars.length = x.n ∧ RegsAt x f := by
  have h1 := h.hI.fr
  rw [h.fs] at h1
  exact h1.1
theorem Pre.va {u : Unt} (h : Pre t v x xs f r c M i u) (ho : 1 ≤ i.op ∧ i.op ≤ 12 ∨ i.op = 14 ∨ i.op = 15 ∨ i.op = 17 ∨ i.op = 19 ∨ i.op = 20) : Vok f i.a := vok h.hv (h.hi.va ho)
theorem Pre.vb {u : Unt} (h : Pre t v x xs f r c M i u) (ho : 3 ≤ i.op ∧ i.op ≤ 10 ∨ i.op = 12) : Vok f i.b := vok h.hv (h.hi.vb ho)
theorem Pre.vc {u : Unt} (h : Pre t v x xs f r c M i u) (ho : i.op = 4 ∨ i.op = 8 ∨ i.op = 9) : Vok f i.c := vok h.hv (h.hi.vc ho)
theorem var_fs {M : Ms} {f : Fr} {r : List Fr} (h : M.fs = f :: r) (n y : Int) : (M.var f n y).fs = { f with vars := setv f.vars n y } :: r := by show _ :: M.fs.tail = _; rw [h]; rfl
theorem Pre.var {u : Unt} (h : Pre t v x xs f r c M i u) (n y : Int) : MInv t ⟨v, x :: xs, c⟩ (M.var f n y) :=
  h.hI.keep h.fs (var_fs h.fs n y) rfl (setv_len _ _ _) rfl h.hl.2 h.hI.tab rfl rfl h.hI.en h.hI.code h.hI.steps h.hI.slack h.hI.no h.hI.ni
theorem trapV_M {v : MV} {M : Ms} (c : Int) (h1 : v.en = M.en) (h2 : v.code = M.code) : (trapV v c).en = (M.trap c).en ∧ (trapV v c).code = (M.trap c).code := by
  unfold trapV Ms.trap
  split
  · exact ⟨h1, h2⟩
  · split <;> exact ⟨rfl, rfl⟩
theorem trapV_same (v : MV) (c : Int) : (trapV v c).bound = v.bound ∧ (trapV v c).steps = v.steps ∧ (trapV v c).slack = v.slack ∧ (trapV v c).no = v.no ∧ (trapV v c).ni = v.ni ∧ (trapV v c).nf = v.nf ∧ ((trapV v c).ai = v.ai ∧ (trapV v c).ci = v.ci ∧ (trapV v c).ao = v.ao ∧ (trapV v c).co = v.co) := by
  unfold trapV
  split
  · exact ⟨rfl, rfl, rfl, rfl, rfl, rfl, rfl, rfl, rfl, rfl⟩
  · split <;> exact ⟨rfl, rfl, rfl, rfl, rfl, rfl, rfl, rfl, rfl, rfl⟩
theorem Pre.trap {u : Unt} (h : Pre t v x xs f r c M i u) (e : Int) {T : Tb} {c' : TabC} (hT : TInv c' T) : MInv t ⟨trapV v e, x :: xs, c'⟩ (({ M with tb := T } : Ms).trap e) := by
  obtain ⟨a1, a2, a3, a4, a5, a6, _⟩ := trapV_same v e
  obtain ⟨b1, b2, b3, b4, b5, b6, b7⟩ := Ms.trap_fs ({ M with tb := T } : Ms) e
  obtain ⟨c1, c2⟩ := trapV_M (v := v) (M := { M with tb := T }) e h.hI.en h.hI.code
  refine h.hI.keep h.fs (b1.trans h.fs) rfl rfl rfl h.hl.2 (by rw [b5]; exact hT) a6 a1 c1 c2 ?_ ?_ ?_ ?_
  · rw [a2, b6]; exact h.hI.steps
  · rw [a3, b7]; exact h.hI.slack
  · rw [a4, b4]; exact h.hI.no
  · rw [a5, b3]; exact h.hI.ni
theorem op1 {u : Unt} (h : Pre t v x xs f r c M i u) (ho : i.op = 1) : OpOk t p k cs i v x xs f r c M (M.go t (glob t) f i) 25 := by
  rw [go1 ho]
  exact op_keep (constant_spec t p k v (adrs xs) x f i cs h.nf (by have := h.nb; omega) h.hl.1 (h.va (by omega))) (fun _ => v) (fun _ => x) _ (fun _ => c) M.inp M.out M.gl (fun _ => h.var _ _) (var_fs h.fs _ _) rfl rfl rfl
end
end Go.Proofs.Ytomadjefdghliaa

/- The walks over play's operations, in one form. -/
namespace Go.Proofs.Ytomadjefdghliaa
open Go Go.RR Go.RX Go.GX Go.Api Go.RtM
attribute [local irreducible] wpList Code.wp wpPlan Exit.then Exit.inBlock bodyPost NoPanic Went GX.Post GX.Again GX.Meet GX.RowR GX.Own GX.Owns GX.Box GX.Sl GX.Pt GX.Ag GX.MapR GX.Star GX.Kept GX.Pin wpT GoK AtEnd Both
section
variable {t : RTg} {p : Nat} {k : MK} {cs : List Value} {i : Ins} {v : MV} {x : FrC} {xs : List FrC} {f : Fr} {r : List Fr} {c : TabC} {M : Ms}
theorem trapV_cases (v : MV) (c : Int) : c = 0 ∧ trapV v c = v ∧ (∀ M : Ms, M.trap c = M) ∨ c ≠ 0 ∧ ∃ e d, trapV v c = { v with en := e, code := d } ∧ ∀ M : Ms, M.trap c = M.ends e d := by
  by_cases h0 : c = 0
  · exact .inl ⟨h0, if_pos h0, fun M => if_pos h0⟩
  refine .inr ⟨h0, ?_⟩
  by_cases h1 : c = -1
  · exact ⟨4, 0, by unfold trapV; rw [if_neg h0, if_pos h1], fun M => by unfold Ms.trap; rw [if_neg h0, if_pos h1]⟩
  · exact ⟨2, c, by unfold trapV; rw [if_neg h0, if_neg h1], fun M => by unfold Ms.trap; rw [if_neg h0, if_neg h1]⟩
theorem Pre.ends {u : Unt} (h : Pre t v x xs f r c M i u) {T : Tb} {c' : TabC} (hT : TInv c' T) (e d : Int) : MInv t ⟨{ v with en := e, code := d }, x :: xs, c'⟩ (({ M with tb := T } : Ms).ends e d) :=
  h.hI.keep h.fs h.fs rfl rfl rfl h.hl.2 hT rfl rfl rfl rfl h.hI.steps h.hI.slack h.hI.no h.hI.ni
theorem Pre.tab {u : Unt} (h : Pre t v x xs f r c M i u) {T : Tb} {c' : TabC} (hT : TInv c' T) : MInv t ⟨v, x :: xs, c'⟩ { M with tb := T } :=
  h.hI.keep h.fs h.fs rfl rfl rfl h.hl.2 hT rfl rfl h.hI.en h.hI.code h.hI.steps h.hI.slack h.hI.no h.hI.ni
theorem got_yes {q : Int × Int} (hq : q.2 = 0) (n : Int) : M.got f n q = M.var f n q.1 := if_pos hq
theorem got_no {q : Int × Int} (hq : q.2 ≠ 0) (n : Int) : M.got f n q = M.trap q.2 := if_neg hq
theorem lies_yes {G : List Int} {a cl n : Int} (hh : hasB M.tb.B (reg G f cl) = true) : M.lies G f a cl n = { M.var f a ((M.tb.L.length + 1 : Nat) : Int) with tb := M.tb.add (reg G f cl) n } := if_pos hh
theorem lies_no {G : List Int} {a cl n : Int} (hh : ¬ hasB M.tb.B (reg G f cl) = true) : M.lies G f a cl n = M.ends 4 0 := if_neg hh
theorem add_no_ {T : Tb} {r n : Int} (hh : ¬ hasB T.B r = true) : T.add r n = T := if_neg hh
theorem op2 {u : Unt} (h : Pre t v x xs f r c M i u) (ho : i.op = 2) : OpOk t p k cs i v x xs f r c M (M.go t (glob t) f i) 26 := by
  rw [go2 ho]
  exact op_keep (null_spec t p k v (adrs xs) x f i cs h.nf (by have := h.nb; omega) h.hl.1 (h.va (by omega))) (fun _ => v) (fun _ => x) _ (fun _ => c) M.inp M.out M.gl (fun _ => h.var _ _) (var_fs h.fs _ _) rfl rfl rfl
theorem op3 {u : Unt} (h : Pre t v x xs f r c M i u) (ho : i.op = 3) : OpOk t p k cs i v x xs f r c M (M.go t (glob t) f i) 27 := by
  rw [go3 ho]
  exact op_keep (copies_spec t p k v (adrs xs) x f i cs h.nf (by have := h.nb; omega) h.hl.1 (h.va (by omega)) (h.vb (by omega))) (fun _ => v) (fun _ => x) _ (fun _ => c) M.inp M.out M.gl (fun _ => h.var _ _) (var_fs h.fs _ _) rfl rfl rfl
theorem op5 {u : Unt} (h : Pre t v x xs f r c M i u) (ho : i.op = 5) : OpOk t p k cs i v x xs f r c M (M.go t (glob t) f i) 29 := by
  rw [go5 ho]
  exact op_keep (one_spec t p k v (adrs xs) x f i cs h.nf (by have := h.nb; omega) h.hl.1 (h.va (by omega)) (h.vb (by omega))) (fun _ => v) (fun _ => x) _ (fun _ => c) M.inp M.out M.gl (fun _ => h.var _ _) (var_fs h.fs _ _) rfl rfl rfl
theorem op4 {u : Unt} (h : Pre t v x xs f r c M i u) (ho : i.op = 4) : OpOk t p k cs i v x xs f r c M (M.go t (glob t) f i) 28 := by
  rw [go4 ho]
  have hc := two30_spec t p k v (adrs xs) x f i cs h.nf (by have := h.nb; omega) h.hl.1 (h.va (by omega)) (h.vb (by omega)) (h.vc (by omega))
  generalize bin i.n (lkv f.vars i.b) (lkv f.vars i.c) = q at hc ⊢
  obtain ⟨h0, e1, _⟩ | ⟨h0, e, d, e1, e2⟩ := trapV_cases v q.2
  · rw [e1, if_pos h0] at hc
    rw [got_yes h0]
    exact op_keep hc (fun _ => v) (fun _ => x) _ (fun _ => c) M.inp M.out M.gl (fun _ => h.var _ _) (var_fs h.fs _ _) rfl rfl rfl
  · rw [e1, if_neg h0] at hc
    rw [got_no h0, e2]
    exact op_keep hc (fun _ => { v with en := e, code := d }) (fun _ => x) f (fun _ => c) M.inp M.out M.gl (fun _ => h.ends h.hI.tab e d) h.fs rfl rfl rfl
theorem op6 {u : Unt} (h : Pre t v x xs f r c M i u) (ho : i.op = 6) : OpOk t p k cs i v x xs f r c M (M.go t (glob t) f i) 30 := by
  rw [go6 ho]
  have hc := loads30_spec t p k v (adrs xs) x f i cs c M.tb h.hI.tab (by have := h.hL; omega) h.nf (by have := h.nb; omega) h.hl.1 (h.va (by omega)) (h.vb (by omega))
  generalize loadP M.tb.B M.tb.L (lkv f.vars i.b) i.c = q at hc ⊢
  obtain ⟨h0, e1, _⟩ | ⟨h0, e, d, e1, e2⟩ := trapV_cases v q.2
  · rw [e1, if_pos h0] at hc
    rw [got_yes h0]
    exact op_keep hc (fun _ => v) (fun _ => x) _ (fun _ => c) M.inp M.out M.gl (fun _ => h.var _ _) (var_fs h.fs _ _) rfl rfl rfl
  · rw [e1, if_neg h0] at hc
    rw [got_no h0, e2]
    exact op_keep hc (fun _ => { v with en := e, code := d }) (fun _ => x) f (fun _ => c) M.inp M.out M.gl (fun _ => h.ends h.hI.tab e d) h.fs rfl rfl rfl
theorem op8 {u : Unt} (h : Pre t v x xs f r c M i u) (ho : i.op = 8) : OpOk t p k cs i v x xs f r c M (M.go t (glob t) f i) 32 := by
  rw [go8 ho]
  have hc := item_spec t p k v (adrs xs) x f i cs c M.tb h.hI.tab (by have := h.hL; omega) h.nf (by have := h.nb; omega) h.hl.1 (h.va (by omega)) (h.vb (by omega)) (h.vc (by omega))
  generalize loadP M.tb.B M.tb.L (lkv f.vars i.b) (lkv f.vars i.c) = q at hc ⊢
  obtain ⟨h0, e1, _⟩ | ⟨h0, e, d, e1, e2⟩ := trapV_cases v q.2
  · rw [e1, if_pos h0] at hc
    rw [got_yes h0]
    exact op_keep hc (fun _ => v) (fun _ => x) _ (fun _ => c) M.inp M.out M.gl (fun _ => h.var _ _) (var_fs h.fs _ _) rfl rfl rfl
  · rw [e1, if_neg h0] at hc
    rw [got_no h0, e2]
    exact op_keep hc (fun _ => { v with en := e, code := d }) (fun _ => x) f (fun _ => c) M.inp M.out M.gl (fun _ => h.ends h.hI.tab e d) h.fs rfl rfl rfl
theorem op10 {u : Unt} (h : Pre t v x xs f r c M i u) (ho : i.op = 10) : OpOk t p k cs i v x xs f r c M (M.go t (glob t) f i) 34 := by
  rw [go10 ho]
  have hc := length30_spec t p k v (adrs xs) x f i cs c M.tb h.hI.tab (by have := h.hL; omega) h.nf (by have := h.nb; omega) h.hl.1 (h.va (by omega)) (h.vb (by omega))
  generalize lenP M.tb.B M.tb.L (lkv f.vars i.b) = q at hc ⊢
  obtain ⟨h0, e1, _⟩ | ⟨h0, e, d, e1, e2⟩ := trapV_cases v q.2
  · rw [e1, if_pos h0] at hc
    rw [got_yes h0]
    exact op_keep hc (fun _ => v) (fun _ => x) _ (fun _ => c) M.inp M.out M.gl (fun _ => h.var _ _) (var_fs h.fs _ _) rfl rfl rfl
  · rw [e1, if_neg h0] at hc
    rw [got_no h0, e2]
    exact op_keep hc (fun _ => { v with en := e, code := d }) (fun _ => x) f (fun _ => c) M.inp M.out M.gl (fun _ => h.ends h.hI.tab e d) h.fs rfl rfl rfl
theorem op7 {u : Unt} (h : Pre t v x xs f r c M i u) (ho : i.op = 7) : OpOk t p k cs i v x xs f r c M (M.go t (glob t) f i) 31 := by
  rw [go7 ho]
  have hc := keep_spec t p k v (adrs xs) x f i cs c M.tb h.hI.tab (by have := h.hL; omega) h.nf (by have := h.nb; omega) h.hl.1 (h.va (by omega)) (h.vb (by omega))
  generalize (loadP M.tb.B M.tb.L (lkv f.vars i.a) i.c).2 = e0 at hc ⊢
  obtain ⟨h0, e1, e2⟩ | ⟨h0, e, d, e1, e2⟩ := trapV_cases v e0
  · rw [e1] at hc
    rw [e2]
    exact op_keep hc (fun _ => v) (fun _ => x) f (fun s => s.1) M.inp M.out M.gl (fun s => h.tab s.2) h.fs rfl rfl rfl
  · rw [e1] at hc
    rw [e2]
    exact op_keep hc (fun _ => { v with en := e, code := d }) (fun _ => x) f (fun s => s.1) M.inp M.out M.gl (fun s => h.ends s.2 e d) h.fs rfl rfl rfl
theorem op9 {u : Unt} (h : Pre t v x xs f r c M i u) (ho : i.op = 9) : OpOk t p k cs i v x xs f r c M (M.go t (glob t) f i) 33 := by
  rw [go9 ho]
  have hc := lay_spec t p k v (adrs xs) x f i cs c M.tb h.hI.tab (by have := h.hL; omega) h.nf (by have := h.nb; omega) h.hl.1 (h.va (by omega)) (h.vb (by omega)) (h.vc (by omega))
  generalize (loadP M.tb.B M.tb.L (lkv f.vars i.a) (lkv f.vars i.b)).2 = e0 at hc ⊢
  obtain ⟨h0, e1, e2⟩ | ⟨h0, e, d, e1, e2⟩ := trapV_cases v e0
  · rw [e1] at hc
    rw [e2]
    exact op_keep hc (fun _ => v) (fun _ => x) f (fun s => s.1) M.inp M.out M.gl (fun s => h.tab s.2) h.fs rfl rfl rfl
  · rw [e1] at hc
    rw [e2]
    exact op_keep hc (fun _ => { v with en := e, code := d }) (fun _ => x) f (fun s => s.1) M.inp M.out M.gl (fun s => h.ends s.2 e d) h.fs rfl rfl rfl
theorem op11 {u : Unt} (h : Pre t v x xs f r c M i u) (ho : i.op = 11) : OpOk t p k cs i v x xs f r c M (M.go t (glob t) f i) 35 := by
  rw [go11 ho]
  obtain ⟨L, hL⟩ := h.hi.cls (.inl ho)
  obtain ⟨j, hj, _, hjL⟩ := gt_some hL
  rw [hL]
  dsimp only
  have hc := record30_spec t p k v (adrs xs) x f i cs j L hj hjL c M.tb h.hI.tab (by have := h.hB; omega) (by have := h.hL; omega) h.hl.2 h.nf (by have := h.nb; omega) h.hl.1 (h.va (by omega))
  by_cases hh : hasB M.tb.B (reg (glob t) f i.n) = true
  · rw [if_pos hh, if_pos hh] at hc
    rw [lies_yes hh]
    refine op_keep hc (fun _ => v) (fun _ => x) { f with vars := setv f.vars i.a ((M.tb.L.length + 1 : Nat) : Int) } (fun s => s.1) M.inp M.out M.gl (fun s => ?_) (var_fs h.fs _ _) rfl rfl rfl
    exact h.hI.keep h.fs (var_fs h.fs _ _) rfl (setv_len _ _ _) rfl h.hl.2 s.2 rfl rfl h.hI.en h.hI.code h.hI.steps h.hI.slack h.hI.no h.hI.ni
  · rw [if_neg hh, if_neg hh] at hc
    rw [lies_no hh]
    refine op_keep hc (fun _ => { v with en := 4, code := 0 }) (fun _ => x) f (fun s => s.1) M.inp M.out M.gl (fun s => ?_) h.fs rfl rfl rfl
    obtain ⟨c2, h2⟩ := s
    rw [add_no_ hh] at h2
    exact h.ends h2 4 0
theorem op12 {u : Unt} (h : Pre t v x xs f r c M i u) (ho : i.op = 12) : OpOk t p k cs i v x xs f r c M (M.go t (glob t) f i) 36 := by
  rw [go12 ho]
  by_cases hz : lkv f.vars i.b < 0 ∨ 50 < lkv f.vars i.b
  · rw [if_pos hz]
    have hc := array_no t p k v (adrs xs) x f i cs h.nf (by have := h.nb; omega) h.hl.1 (h.vb (by omega)) hz
    obtain ⟨h0, _⟩ | ⟨h0, e, d, e1, e2⟩ := trapV_cases v 4
    · omega
    rw [e1] at hc
    rw [e2]
    exact op_keep hc (fun _ => { v with en := e, code := d }) (fun _ => x) f (fun _ => c) M.inp M.out M.gl (fun _ => h.ends h.hI.tab e d) h.fs rfl rfl rfl
  · rw [if_neg hz]
    have hc := array30_spec t p k v (adrs xs) x f i cs c M.tb h.hI.tab (by have := h.hB; omega) (by have := h.hL; omega) h.hl.2 h.nf (by have := h.nb; omega) h.hl.1 (h.va (by omega)) (h.vb (by omega)) (by omega)
    by_cases hh : hasB M.tb.B (reg (glob t) f i.n) = true
    · rw [if_pos hh, if_pos hh] at hc
      rw [lies_yes hh]
      refine op_keep hc (fun _ => v) (fun _ => x) { f with vars := setv f.vars i.a ((M.tb.L.length + 1 : Nat) : Int) } (fun s => s.1) M.inp M.out M.gl (fun s => ?_) (var_fs h.fs _ _) rfl rfl rfl
      exact h.hI.keep h.fs (var_fs h.fs _ _) rfl (setv_len _ _ _) rfl h.hl.2 s.2 rfl rfl h.hI.en h.hI.code h.hI.steps h.hI.slack h.hI.no h.hI.ni
    · rw [if_neg hh, if_neg hh] at hc
      rw [lies_no hh]
      refine op_keep hc (fun _ => { v with en := 4, code := 0 }) (fun _ => x) f (fun s => s.1) M.inp M.out M.gl (fun s => ?_) h.fs rfl rfl rfl
      obtain ⟨c2, h2⟩ := s
      rw [add_no_ hh] at h2
      exact h.ends h2 4 0
theorem op14 {u : Unt} (h : Pre t v x xs f r c M i u) (ho : i.op = 14) : OpOk t p k cs i v x xs f r c M (M.go t (glob t) f i) 38 := by
  rw [go14 ho]
  cases hinp : M.inp with
  | nil =>
    dsimp only
    have hc := read_no t p k v i cs (by have := h.hI.ni; rw [hinp] at this; exact this)
    obtain ⟨h0, _⟩ | ⟨h0, e, d, e1, e2⟩ := trapV_cases v 5
    · omega
    rw [e1] at hc
    rw [e2]
    exact op_keep hc (fun _ => { v with en := e, code := d }) (fun _ => x) f (fun _ => c) M.inp M.out M.gl (fun _ => h.ends h.hI.tab e d) h.fs rfl rfl rfl
  | cons y l =>
    dsimp only
    have hni : v.ni = l.length + 1 := by have := h.hI.ni; rw [hinp] at this; exact this
    refine op_keep (read_yes t p k v (adrs xs) x f i cs y l hni h.nf (by have := h.nb; omega) h.hl.1 (h.va (by omega))) (fun s => { v with ai := s.1, ni := l.length, ci := s.2 }) (fun _ => x) _ (fun _ => c) l M.out M.gl (fun s => ?_) (var_fs h.fs _ _) rfl rfl rfl (hps := by rw [hinp]; ((repeat (first | apply Go.GX.AllIn.nil | apply Go.GX.AllIn.cons | (with_reducible apply Go.GX.InP.head) | apply Go.GX.InP.tail)); done)) (h1 := fun _ => .cons .head .nil)
    exact h.hI.keep h.fs (var_fs h.fs _ _) rfl (setv_len _ _ _) rfl h.hl.2 h.hI.tab rfl rfl h.hI.en h.hI.code h.hI.steps h.hI.slack h.hI.no rfl
theorem op15 {u : Unt} (h : Pre t v x xs f r c M i u) (ho : i.op = 15) : OpOk t p k cs i v x xs f r c M (M.go t (glob t) f i) 39 := by
  rw [go15 ho]
  refine op_keep (prints_spec t p k v (adrs xs) x f i cs M.out h.hI.no (by have := h.hO; omega) h.nf (by have := h.nb; omega) h.hl.1 (h.va (by omega))) (fun s => { v with ao := s.1, no := M.out.length + 1, co := s.2 }) (fun _ => x) f (fun _ => c) M.inp (M.out ++ [lkv f.vars i.a]) M.gl (fun s => ?_) h.fs rfl rfl rfl
  exact h.hI.keep h.fs h.fs rfl rfl rfl h.hl.2 h.hI.tab rfl rfl h.hI.en h.hI.code h.hI.steps h.hI.slack (by show _ = (M.out ++ _).length; rw [List.length_append]; rfl) h.hI.ni
theorem op16 {u : Unt} (h : Pre t v x xs f r c M i u) (ho : i.op = 16) : OpOk t p k cs i v x xs f r c M (M.go t (glob t) f i) 40 := by
  rw [go16 ho]
  refine op_keep (jump_spec t p k v (adrs xs) x f i cs h.nf (by have := h.nb; omega) h.hl.1) (fun _ => v) (fun _ => x) { f with pc := i.n } (fun _ => c) M.inp M.out M.gl (fun s => ?_) (by show _ :: M.fs.tail = _; rw [h.fs]; rfl) rfl rfl rfl
  exact h.hI.keep h.fs (by show _ :: M.fs.tail = _; rw [h.fs]; rfl) (f' := { f with pc := i.n }) rfl rfl rfl h.hl.2 h.hI.tab rfl rfl h.hI.en h.hI.code h.hI.steps h.hI.slack h.hI.no h.hI.ni
theorem op17 {u : Unt} (h : Pre t v x xs f r c M i u) (ho : i.op = 17) : OpOk t p k cs i v x xs f r c M (M.go t (glob t) f i) 41 := by
  rw [go17 ho]
  refine op_keep (branch_spec t p k v (adrs xs) x f i cs h.nf (by have := h.nb; omega) h.hl.1 (h.va (by omega))) (fun _ => v) (fun _ => x) { f with pc := if lkv f.vars i.a ≠ 0 then i.n else i.c } (fun _ => c) M.inp M.out M.gl (fun s => ?_) (by show _ :: M.fs.tail = _; rw [h.fs]; rfl) rfl rfl rfl
  exact h.hI.keep h.fs (by show _ :: M.fs.tail = _; rw [h.fs]; rfl) (f' := { f with pc := if lkv f.vars i.a ≠ 0 then i.n else i.c }) rfl rfl rfl h.hl.2 h.hI.tab rfl rfl h.hI.en h.hI.code h.hI.steps h.hI.slack h.hI.no h.hI.ni
theorem op19 {u : Unt} (h : Pre t v x xs f r c M i u) (ho : i.op = 19) : OpOk t p k cs i v x xs f r c M (M.go t (glob t) f i) 43 := by
  rw [go19 ho]
  obtain ⟨g0, hg0⟩ := h.hi.glo (by omega)
  obtain ⟨j, hj, hjl, _⟩ := gt_some hg0
  have hjm : j < M.gl.length := by rw [h.gl]; exact hjl
  obtain ⟨y, hy⟩ := GX.get_lt hjm
  have e : lkv M.gl i.n = y := by unfold lkv; rw [hj, gt_nat, hy]; rfl
  rw [e]
  exact op_keep (get_spec t p k v (adrs xs) x f i cs M.gl j y h.gl hj hy h.nf (by have := h.nb; omega) h.hl.1 (h.va (by omega))) (fun _ => v) (fun _ => x) _ (fun _ => c) M.inp M.out M.gl (fun _ => h.var _ _) (var_fs h.fs _ _) rfl rfl rfl
theorem op20 {u : Unt} (h : Pre t v x xs f r c M i u) (ho : i.op = 20) : OpOk t p k cs i v x xs f r c M (M.go t (glob t) f i) 44 := by
  rw [go20 ho]
  obtain ⟨g0, hg0⟩ := h.hi.glo (by omega)
  obtain ⟨j, hj, hjl, _⟩ := gt_some hg0
  have hjm : j < M.gl.length := by rw [h.gl]; exact hjl
  refine op_keep (put_spec30 t p k v (adrs xs) x f i cs M.gl j h.gl hj hjm h.nf (by have := h.nb; omega) h.hl.1 (h.va (by omega))) (fun _ => v) (fun _ => x) f (fun _ => c) M.inp M.out (M.gl.set j (lkv f.vars i.a)) (fun s => ?_) h.fs rfl rfl (by show setv M.gl i.n _ = _; unfold setv; rw [hj, Int.toNat_natCast])
  exact h.hI.keep h.fs h.fs rfl rfl rfl h.hl.2 h.hI.tab rfl rfl h.hI.en h.hI.code h.hI.steps h.hI.slack h.hI.no h.hI.ni
theorem op21 {u : Unt} (h : Pre t v x xs f r c M i u) (ho : i.op = 21) : OpOk t p k cs i v x xs f r c M (M.go t (glob t) f i) 45 := by
  rw [go21 ho]
  have hc := create_spec t p k v (adrs xs) x f i cs c M.tb h.hI.tab (by have := h.hB; have := h.hA; omega) h.hl.2 h.nf (by have := h.nb; omega) h.hl.1
  by_cases hh : (crT i.args M.tb f.regs).2.2 = true
  · rw [if_pos hh] at hc
    unfold Ms.regs
    rw [if_pos hh]
    refine op_keep hc (fun _ => v) (fun s => { x with mp := s.1.1 }) { f with regs := (crT i.args M.tb f.regs).2.1 } (fun s => s.1.2) M.inp M.out M.gl (fun s => ?_) (by show _ :: M.fs.tail = _; rw [h.fs]; rfl) rfl rfl rfl
    exact h.hI.keep h.fs (by show _ :: M.fs.tail = _; rw [h.fs]; rfl) (f' := { f with regs := (crT i.args M.tb f.regs).2.1 }) rfl rfl rfl s.2.2 s.2.1 rfl rfl h.hI.en h.hI.code h.hI.steps h.hI.slack h.hI.no h.hI.ni
  · rw [if_neg hh] at hc
    unfold Ms.regs
    rw [if_neg hh]
    refine op_keep hc (fun _ => { v with en := 4, code := 0 }) (fun s => { x with mp := s.1.1 }) { f with regs := (crT i.args M.tb f.regs).2.1 } (fun s => s.1.2) M.inp M.out M.gl (fun s => ?_) (by show _ :: M.fs.tail = _; rw [h.fs]; rfl) rfl rfl rfl
    exact h.hI.keep h.fs (by show _ :: M.fs.tail = _; rw [h.fs]; rfl) (f' := { f with regs := (crT i.args M.tb f.regs).2.1 }) rfl rfl rfl s.2.2 s.2.1 rfl rfl rfl rfl h.hI.steps h.hI.slack h.hI.no h.hI.ni
theorem op22 {u : Unt} (h : Pre t v x xs f r c M i u) (ho : i.op = 22) : OpOk t p k cs i v x xs f r c M (M.go t (glob t) f i) 46 := by
  rw [go22 ho]
  have hc := remove_spec30 t p k v (adrs xs) x f i cs c M.tb h.hI.tab (by have := h.hB; omega) (by have := h.hL; omega) h.hl.2 h.nf (by have := h.nb; omega) h.hl.1
  by_cases hh : (rmT i.args M.tb f.regs).2.2 = true
  · rw [if_pos hh] at hc
    unfold Ms.regs
    rw [if_pos hh]
    refine op_keep hc (fun _ => v) (fun s => { x with mp := s.1.1 }) { f with regs := (rmT i.args M.tb f.regs).2.1 } (fun s => s.1.2) M.inp M.out M.gl (fun s => ?_) (by show _ :: M.fs.tail = _; rw [h.fs]; rfl) rfl rfl rfl
    exact h.hI.keep h.fs (by show _ :: M.fs.tail = _; rw [h.fs]; rfl) (f' := { f with regs := (rmT i.args M.tb f.regs).2.1 }) rfl rfl rfl s.2.2 s.2.1 rfl rfl h.hI.en h.hI.code h.hI.steps h.hI.slack h.hI.no h.hI.ni
  · rw [if_neg hh] at hc
    unfold Ms.regs
    rw [if_neg hh]
    refine op_keep hc (fun _ => { v with en := 4, code := 0 }) (fun s => { x with mp := s.1.1 }) { f with regs := (rmT i.args M.tb f.regs).2.1 } (fun s => s.1.2) M.inp M.out M.gl (fun s => ?_) (by show _ :: M.fs.tail = _; rw [h.fs]; rfl) rfl rfl rfl
    exact h.hI.keep h.fs (by show _ :: M.fs.tail = _; rw [h.fs]; rfl) (f' := { f with regs := (rmT i.args M.tb f.regs).2.1 }) rfl rfl rfl s.2.2 s.2.1 rfl rfl rfl rfl h.hI.steps h.hI.slack h.hI.no h.hI.ni
end
end Go.Proofs.Ytomadjefdghliaa

/- How great a run gets, plainly. No program in sight. -/
namespace Go.Proofs.Ytomadjefdghliaa
open Go.Api Go.RtM Go.RiseM
/-- At most so much more. -/
structure Grow (M M' : Ms) (n : Nat) : Prop where
  B : M'.tb.B.length ≤ M.tb.B.length + n
  L : M'.tb.L.length ≤ M.tb.L.length + 1
  O : M'.out.length ≤ M.out.length + 1
  st : M'.steps = M.steps
theorem Grow.of {M M' : Ms} {n : Nat} (h1 : M'.tb = M.tb) (h2 : M'.out = M.out) (h3 : M'.steps = M.steps) : Grow M M' n := ⟨by rw [h1]; omega, by rw [h1]; omega, by rw [h2]; omega, h3⟩
theorem crT_len : ∀ (l : List Int) (T : Tb) (m : Int → Int), (crT l T m).1.B.length ≤ T.B.length + l.length ∧ (crT l T m).1.L = T.L
  | [], T, m => ⟨Nat.le_refl _, rfl⟩
  | c :: l, T, m => by
    unfold crT
    split
    · exact ⟨by dsimp only; omega, rfl⟩
    · have h := crT_len l T.make (updI m c ((T.B.length + 1 : Nat) : Int))
      have e : T.make.B.length = T.B.length + 1 := by show (T.B ++ [true]).length = _; rw [List.length_append]; rfl
      rw [e] at h
      rw [List.length_cons]
      exact ⟨by omega, h.2⟩
theorem rem_len0 (T : Tb) (r : Int) : (T.rem r).B.length = T.B.length ∧ (T.rem r).L = T.L := by
  unfold Tb.rem
  split
  · exact ⟨List.length_set, rfl⟩
  · exact ⟨rfl, rfl⟩
theorem rmT_len : ∀ (l : List Int) (T : Tb) (m : Int → Int), (rmT l T m).1.B.length = T.B.length ∧ (rmT l T m).1.L = T.L
  | [], T, m => ⟨rfl, rfl⟩
  | c :: l, T, m => by
    unfold rmT
    split
    · exact ⟨rfl, rfl⟩
    · have h := rmT_len l (T.rem (m c)) (updI m c 0)
      have e := rem_len0 T (m c)
      exact ⟨h.1.trans e.1, h.2.trans e.2⟩
theorem Grow.trap (M : Ms) (c : Int) (n : Nat) : Grow M (M.trap c) n := by
  obtain ⟨_, _, _, h4, h5, h6, _⟩ := M.trap_fs c
  exact ⟨by rw [h5]; omega, by rw [h5]; omega, by rw [h4]; omega, h6⟩
theorem Grow.got (M : Ms) (f : Fr) (a : Int) (q : Int × Int) (n : Nat) : Grow M (M.got f a q) n := by
  unfold Ms.got
  split
  · exact .of rfl rfl rfl
  · exact .trap M _ n
theorem tput_len (T : Tb) (ref i v : Int) : (T.put ref i v).B = T.B ∧ (T.put ref i v).L.length = T.L.length := by
  refine ⟨rfl, ?_⟩
  have := congrArg List.length (putP_fst T.B T.L ref i v)
  simp only [List.length_map] at this
  exact this
theorem add_len (T : Tb) (r n : Int) : (T.add r n).B = T.B ∧ (T.add r n).L.length ≤ T.L.length + 1 := by
  unfold Tb.add
  split
  · exact ⟨rfl, by dsimp only; rw [List.length_append]; exact Nat.le_refl _⟩
  · exact ⟨rfl, by omega⟩
theorem Grow.lies (M : Ms) (G : List Int) (f : Fr) (a c m : Int) (n : Nat) : Grow M (M.lies G f a c m) n := by
  unfold Ms.lies
  split
  · obtain ⟨h1, h2⟩ := add_len M.tb (reg G f c) m
    exact ⟨by show (M.tb.add _ _).B.length ≤ _; rw [h1]; omega, h2, Nat.le_succ _, rfl⟩
  · exact ⟨by show M.tb.B.length ≤ _; omega, Nat.le_succ _, Nat.le_succ _, rfl⟩
theorem Grow.putT (M : Ms) (ref i v c : Int) (n : Nat) : Grow M (({ M with tb := M.tb.put ref i v } : Ms).trap c) n := by
  have h := Grow.trap ({ M with tb := M.tb.put ref i v } : Ms) c n
  obtain ⟨h1, h2⟩ := tput_len M.tb ref i v
  refine ⟨?_, ?_, h.O, h.st⟩
  · have := h.B; dsimp only at this; rwa [h1] at this
  · have := h.L; dsimp only at this; rwa [h2] at this
theorem Grow.regs (M : Ms) (f : Fr) (q : Tb × (Int → Int) × Bool) (n : Nat) (h1 : q.1.B.length ≤ M.tb.B.length + n) (h2 : q.1.L = M.tb.L) : Grow M (M.regs f q) n := by
  unfold Ms.regs
  split
  · exact ⟨h1, by show q.1.L.length ≤ _; rw [h2]; omega, Nat.le_succ _, rfl⟩
  · exact ⟨h1, by show q.1.L.length ≤ _; rw [h2]; omega, Nat.le_succ _, rfl⟩
theorem go_grow (M : Ms) (t : RTg) (G : List Int) (f : Fr) (i : Ins) (h1 : 1 ≤ i.op) (h2 : i.op ≤ 22) : Grow M (M.go t G f i) i.args.length := by
  obtain h | h | h | h | h | h | h | h | h | h | h | h | h | h | h | h | h | h | h | h | h | h : i.op = 1 ∨ i.op = 2 ∨ i.op = 3 ∨ i.op = 4 ∨ i.op = 5 ∨ i.op = 6 ∨ i.op = 7 ∨ i.op = 8 ∨ i.op = 9 ∨ i.op = 10 ∨ i.op = 11 ∨ i.op = 12 ∨ i.op = 13 ∨ i.op = 14 ∨ i.op = 15 ∨ i.op = 16 ∨ i.op = 17 ∨ i.op = 18 ∨ i.op = 19 ∨ i.op = 20 ∨ i.op = 21 ∨ i.op = 22 := by omega
  · rw [go1 h]; exact .of rfl rfl rfl
  · rw [go2 h]; exact .of rfl rfl rfl
  · rw [go3 h]; exact .of rfl rfl rfl
  · rw [go4 h]; exact .got ..
  · rw [go5 h]; exact .of rfl rfl rfl
  · rw [go6 h]; exact .got ..
  · rw [go7 h]; exact .putT ..
  · rw [go8 h]; exact .got ..
  · rw [go9 h]; exact .putT ..
  · rw [go10 h]; exact .got ..
  · rw [go11 h]; exact .lies ..
  · rw [go12 h]
    split
    · exact .trap ..
    · exact .lies ..
  · rw [go13 h]
    unfold Ms.call
    split
    · exact .trap ..
    · split
      · exact .of rfl rfl rfl
      · split
        · exact .of rfl rfl rfl
        · exact .of rfl rfl rfl
  · rw [go14 h]
    split
    · exact .trap ..
    · exact .of rfl rfl rfl
  · rw [go15 h]
    exact ⟨by show M.tb.B.length ≤ _; omega, Nat.le_succ _, by show (M.out ++ _).length ≤ _; rw [List.length_append]; exact Nat.le_refl _, rfl⟩
  · rw [go16 h]; exact .of rfl rfl rfl
  · rw [go17 h]; exact .of rfl rfl rfl
  · rw [go18 h]
    unfold Ms.ret
    split
    · exact .of rfl rfl rfl
    · exact .of rfl rfl rfl
  · rw [go19 h]; exact .of rfl rfl rfl
  · rw [go20 h]; exact .of rfl rfl rfl
  · rw [go21 h]
    have := crT_len i.args M.tb f.regs
    exact .regs M f _ _ this.1 this.2
  · rw [go22 h]
    have := rmT_len i.args M.tb f.regs
    exact .regs M f _ _ (by omega) this.2
/-- What is not too great. -/
structure Tame30 (t : RTg) : Prop where
  owns : ∀ u ∈ t.units, u.owns.length ≤ 1000
  args : ∀ u ∈ t.units, ∀ i ∈ u.ins, i.args.length ≤ 80
/-- How great a run is after so many steps. -/
structure Bnd (M : Ms) : Prop where
  st : 0 ≤ M.steps
  B : (M.tb.B.length : Int) ≤ 1 + 80 * M.steps
  L : (M.tb.L.length : Int) ≤ M.steps
  O : (M.out.length : Int) ≤ M.steps
theorem Bnd.go {t : RTg} {G : List Int} (hR : RightP t) (hT : Tame30 t) {M : Ms} (hB : Bnd M) {f : Fr} {r : List Fr} {u : Unt} {i : Ins} (hn : Next t M f r u i) : Bnd ((M.pre f).go t G { f with pc := f.pc + 1 } i) := by
  have hum : u ∈ t.units := gt_mem hn.unit
  have him : i ∈ u.ins := gt_mem hn.ins
  have hv := right_ins hR hum him
  have hg := go_grow (M.pre f) t G { f with pc := f.pc + 1 } i hv.op.1 hv.op.2
  have ha := hT.args u hum i him
  obtain ⟨a, b, c, d⟩ := hB
  obtain ⟨a', b', c', d'⟩ := hg
  have e1 : (M.pre f).steps = M.steps + 1 := rfl
  have e2 : (M.pre f).tb = M.tb := rfl
  have e3 : (M.pre f).out = M.out := rfl
  rw [e2] at a' b'
  rw [e3] at c'
  rw [e1] at d'
  exact ⟨by omega, by omega, by omega, by omega⟩
theorem Bnd.less {M : Ms} (t : RTg) (h : Bnd M) : Bnd (M.less t) := by
  obtain ⟨_, _, _, h4, h5, h6, _⟩ := less_fs M t
  exact ⟨by rw [h6]; exact h.st, by rw [h4, h6]; exact h.B, by rw [h4, h6]; exact h.L, by rw [h5, h6]; exact h.O⟩
theorem runM_ended {t : RTg} {G : List Int} {M : Ms} (h : M.en ≠ 0) : ∀ n, runM t G n M = M
  | 0 => if_neg h
  | n + 1 => if_neg h
theorem begin_ok {t : RTg} {inp : List Int} (hR : RightP t) : MsOk t (begin_ t inp) ∧ Bnd (begin_ t inp) := by
  have hm := hR.2.1
  unfold MainOk at hm
  cases hg : gt t.units t.main with
  | none => rw [hg] at hm; exact hm.elim
  | some u =>
    have hi := (right_unit hR (gt_mem hg)).1.2.2.2.1
    refine ⟨⟨fun f hf => ?_, fun k f h h1 h2 => ?_, by show 1 ≤ 40; omega, List.length_replicate, fun _ => by show [_] ≠ []; simp⟩, ⟨by show (0 : Int) ≤ 0; omega, by show ((1 : Nat) : Int) ≤ 1 + 80 * 0; omega, by show ((0 : Nat) : Int) ≤ 0; omega, by show ((0 : Nat) : Int) ≤ 0; omega⟩⟩
    · have hf : f ∈ [_] := hf
      obtain rfl := List.mem_singleton.1 hf
      have : u.ins.length ≠ 0 := fun h => hi (List.length_eq_zero_iff.1 h)
      exact ⟨u, hg, by dsimp only; rw [hg]; exact List.length_replicate, by show (0 : Int) ≤ 0; omega, by show (0 : Int) < _; omega⟩
    · have h2 : ([_] : List Fr)[k + 1]? = some h := h2
      simp at h2
end Go.Proofs.Ytomadjefdghliaa
