import Derived.Test.YtomadjefdghliaaGreatU11
import Derived.Test.YtomadjefdghliaaGreatU14
import Derived.Test.YtomadjefdghliaaGreatU21
namespace Go.Proofs.YtomadjefdghliaaGreat
open Go Go.RR Go.RX Go.GX Go.Api Go.RtM
attribute [local irreducible] wpList Code.wp wpPlan Exit.then Exit.inBlock bodyPost NoPanic Went GX.Post GX.Again GX.Meet GX.RowR GX.Own GX.Owns GX.Box GX.Sl GX.Pt GX.Ag GX.MapR GX.Star GX.Kept GX.Pin wpT GoK AtEnd Both
theorem op_all {t : RTg} {p : Nat} {k : MK} {i : Ins} {v : MV} {x : FrC} {xs : List FrC} {f : Fr} {r : List Fr} {c : TabC} {M : Ms} {u : Unt} (hR : RightP t) (hT : Tame30 t) (hu : gt t.units f.u = some u) (h : Pre t v x xs f r c M i u) :
  ∃ fid : FuncId, UFunc Tryz.prog fid ∧ (opsF i.op).getD .nilFunc = fnV fid ∧ ∀ cs, OpOk t p k cs i v x xs f r c M (M.go t (glob t) f i) fid := by
 obtain ⟨h1, h2⟩ := h.hi.op
 obtain ho | ho | ho | ho | ho | ho | ho | ho | ho | ho | ho | ho | ho | ho | ho | ho | ho | ho | ho | ho | ho | ho : i.op = 1 ∨ i.op = 2 ∨ i.op = 3 ∨ i.op = 4 ∨ i.op = 5 ∨ i.op = 6 ∨ i.op = 7 ∨ i.op = 8 ∨ i.op = 9 ∨ i.op = 10 ∨ i.op = 11 ∨ i.op = 12 ∨ i.op = 13 ∨ i.op = 14 ∨ i.op = 15 ∨ i.op = 16 ∨ i.op = 17 ∨ i.op = 18 ∨ i.op = 19 ∨ i.op = 20 ∨ i.op = 21 ∨ i.op = 22 := by omega
 ·exact ⟨_, inferInstance, by rw [ho]; rfl, fun _ => op1 h ho⟩
 ·exact ⟨_, inferInstance, by rw [ho]; rfl, fun _ => op2 h ho⟩
 ·exact ⟨_, inferInstance, by rw [ho]; rfl, fun _ => op3 h ho⟩
 ·exact ⟨_, inferInstance, by rw [ho]; rfl, fun _ => op4 h ho⟩
 ·exact ⟨_, inferInstance, by rw [ho]; rfl, fun _ => op5 h ho⟩
 ·exact ⟨_, inferInstance, by rw [ho]; rfl, fun _ => op6 h ho⟩
 ·exact ⟨_, inferInstance, by rw [ho]; rfl, fun _ => op7 h ho⟩
 ·exact ⟨_, inferInstance, by rw [ho]; rfl, fun _ => op8 h ho⟩
 ·exact ⟨_, inferInstance, by rw [ho]; rfl, fun _ => op9 h ho⟩
 ·exact ⟨_, inferInstance, by rw [ho]; rfl, fun _ => op10 h ho⟩
 ·exact ⟨_, inferInstance, by rw [ho]; rfl, fun _ => op11 h ho⟩
 ·exact ⟨_, inferInstance, by rw [ho]; rfl, fun _ => op12 h ho⟩
 ·exact ⟨_, inferInstance, by rw [ho]; rfl, fun _ => op13 hR hT h ho⟩
 ·exact ⟨_, inferInstance, by rw [ho]; rfl, fun _ => op14 h ho⟩
 ·exact ⟨_, inferInstance, by rw [ho]; rfl, fun _ => op15 h ho⟩
 ·exact ⟨_, inferInstance, by rw [ho]; rfl, fun _ => op16 h ho⟩
 ·exact ⟨_, inferInstance, by rw [ho]; rfl, fun _ => op17 h ho⟩
 ·exact ⟨_, inferInstance, by rw [ho]; rfl, fun _ => op18 hT hu h ho⟩
 ·exact ⟨_, inferInstance, by rw [ho]; rfl, fun _ => op19 h ho⟩
 ·exact ⟨_, inferInstance, by rw [ho]; rfl, fun _ => op20 h ho⟩
 ·exact ⟨_, inferInstance, by rw [ho]; rfl, fun _ => op21 h ho⟩
 ·exact ⟨_, inferInstance, by rw [ho]; rfl, fun _ => op22 h ho⟩
instance uzF : UZero Tryz.prog 87 .nilFunc := ⟨Tryz.zeroValue87⟩
structure GoSt where
 S : PS
 M : Ms
theorem goOn_spec (t : RTg) (p : Nat) (k : MK) (hRt : RightP t) (hT : Tame30 t) (fuel : Int) (hf : fuel ≤ 100000) (S0 : PS) (M0 : Ms) (hI0 : MInv t S0 M0) (hok0 : MsOk t M0) (hb0 : Bnd M0) (n0 : Nat) (hn0 : M0.steps + n0 = fuel) :
  Does Tryz.prog 25 [.pointer (some ⟨p, 0, none⟩), .int .i64 fuel] [Sl Ty.int k.aL k.cL (glob t), Sl tyLayout k.aC k.cC t.classes, Sl tyUnt k.aU k.cU t.units, Sl Ty.int S0.v.ai S0.v.ci M0.inp] [RowR p 57 [.slice k.aC t.classes.length k.cC, .slice k.aG t.globals.length k.cG, .slice k.aU t.units.length k.cU, .int .i64 t.main, .slice k.aL (glob t).length k.cL, .pointer (some ⟨k.tp, 0, none⟩), .int .i64 1, .slice S0.v.ai S0.v.ni S0.v.ci, .slice (some ⟨k.gb, 0, none⟩) t.globals.length t.globals.length, .slice S0.v.af S0.v.nf S0.v.cf, .int .i64 S0.v.bound, .map (some k.om), .int .i64 S0.v.en, .int .i64 S0.v.code, .slice S0.v.ao S0.v.no S0.v.co, .int .i64 S0.v.steps, .int .i64 0, .int .i64 0, .int .i64 0, .int .i64 0, .int .i64 S0.v.slack, .int .i64 0], GX.Own 60 Ty.ptr S0.v.af S0.v.cf (adrs S0.xs), GX.Star (frs S0.xs M0.fs), RowR k.tp 86 [.slice S0.c.aR S0.c.R.length S0.c.cR, .slice S0.c.aL S0.c.L.length S0.c.cL, .int .i64 S0.c.gone, .int .i64 S0.c.peak, .int .i64 S0.c.many, .int .i64 S0.c.most], GX.Own 90 tyRegion S0.c.aR S0.c.cR S0.c.R, GX.Own 148 tyThing S0.c.aL S0.c.cL (S0.c.L.map thg), Owns 3 Ty.int (S0.c.L.map (fun x : Th => x.2)), GX.Own 3 Ty.int S0.v.ao S0.v.co M0.out, GX.Own 3 Ty.int (some ⟨k.gb, 0, none⟩) t.globals.length M0.gl, GX.MapR k.om opsF] (fun _ : { S : PS // MInv t S (runM t (glob t) n0 M0) ∧ MsOk t (runM t (glob t) n0 M0) ∧ Bnd (runM t (glob t) n0 M0) ∧ (runM t (glob t) n0 M0).steps ≤ fuel } => .tuple #[]) (fun _ => [])
   (fun s => [RowR p 57 [.slice k.aC t.classes.length k.cC, .slice k.aG t.globals.length k.cG, .slice k.aU t.units.length k.cU, .int .i64 t.main, .slice k.aL (glob t).length k.cL, .pointer (some ⟨k.tp, 0, none⟩), .int .i64 1, .slice s.1.v.ai s.1.v.ni s.1.v.ci, .slice (some ⟨k.gb, 0, none⟩) t.globals.length t.globals.length, .slice s.1.v.af s.1.v.nf s.1.v.cf, .int .i64 s.1.v.bound, .map (some k.om), .int .i64 s.1.v.en, .int .i64 s.1.v.code, .slice s.1.v.ao s.1.v.no s.1.v.co, .int .i64 s.1.v.steps, .int .i64 0, .int .i64 0, .int .i64 0, .int .i64 0, .int .i64 s.1.v.slack, .int .i64 0], GX.Own 60 Ty.ptr s.1.v.af s.1.v.cf (adrs s.1.xs), GX.Star (frs s.1.xs (runM t (glob t) n0 M0).fs), RowR k.tp 86 [.slice s.1.c.aR s.1.c.R.length s.1.c.cR, .slice s.1.c.aL s.1.c.L.length s.1.c.cL, .int .i64 s.1.c.gone, .int .i64 s.1.c.peak, .int .i64 s.1.c.many, .int .i64 s.1.c.most], GX.Own 90 tyRegion s.1.c.aR s.1.c.cR s.1.c.R, GX.Own 148 tyThing s.1.c.aL s.1.c.cL (s.1.c.L.map thg), Owns 3 Ty.int (s.1.c.L.map (fun x : Th => x.2)), GX.Own 3 Ty.int s.1.v.ao s.1.v.co (runM t (glob t) n0 M0).out, GX.Own 3 Ty.int (some ⟨k.gb, 0, none⟩) t.globals.length (runM t (glob t) n0 M0).gl, GX.MapR k.om opsF]) := by
 refine enter Tryz.func25 rfl Tryz.ntmps25 rfl fun _ => ?_
 refine GX.wp_R ?_; intros
 refine GX.loop (σ := GoSt) (fun _ => [(0, .pointer (some ⟨p, 0, none⟩)), (1, .int .i64 fuel)]) (fun s => [Sl Ty.int s.S.v.ai s.S.v.ci s.M.inp]) (fun s => [RowR p 57 [.slice k.aC t.classes.length k.cC, .slice k.aG t.globals.length k.cG, .slice k.aU t.units.length k.cU, .int .i64 t.main, .slice k.aL (glob t).length k.cL, .pointer (some ⟨k.tp, 0, none⟩), .int .i64 1, .slice s.S.v.ai s.S.v.ni s.S.v.ci, .slice (some ⟨k.gb, 0, none⟩) t.globals.length t.globals.length, .slice s.S.v.af s.S.v.nf s.S.v.cf, .int .i64 s.S.v.bound, .map (some k.om), .int .i64 s.S.v.en, .int .i64 s.S.v.code, .slice s.S.v.ao s.S.v.no s.S.v.co, .int .i64 s.S.v.steps, .int .i64 0, .int .i64 0, .int .i64 0, .int .i64 0, .int .i64 s.S.v.slack, .int .i64 0], GX.Own 60 Ty.ptr s.S.v.af s.S.v.cf (adrs s.S.xs), GX.Star (frs s.S.xs s.M.fs), RowR k.tp 86 [.slice s.S.c.aR s.S.c.R.length s.S.c.cR, .slice s.S.c.aL s.S.c.L.length s.S.c.cL, .int .i64 s.S.c.gone, .int .i64 s.S.c.peak, .int .i64 s.S.c.many, .int .i64 s.S.c.most], GX.Own 90 tyRegion s.S.c.aR s.S.c.cR s.S.c.R, GX.Own 148 tyThing s.S.c.aL s.S.c.cL (s.S.c.L.map thg), Owns 3 Ty.int (s.S.c.L.map (fun x : Th => x.2)), GX.Own 3 Ty.int s.S.v.ao s.S.v.co s.M.out, GX.Own 3 Ty.int (some ⟨k.gb, 0, none⟩) t.globals.length s.M.gl, GX.MapR k.om opsF])
  (fun s => MInv t s.S s.M ∧ MsOk t s.M ∧ Bnd s.M ∧ ∃ n : Nat, s.M.steps + n = fuel ∧ runM t (glob t) n s.M = runM t (glob t) n0 M0) (fun s => (fuel - s.M.steps).toNat + (if s.M.en = 0 then 1 else 0)) ⟨S0, M0⟩ ⟨rfl, rfl, trivial⟩ ⟨hI0, hok0, hb0, n0, hn0, rfl⟩ (fun s hs => ?_)
 obtain ⟨⟨v, xs, c⟩, M⟩ := s
 obtain ⟨hI, hok, hb, n, hn, he⟩ := hs
 dsimp only at hI hok hb hn he ⊢
 have hen : v.en = M.en := hI.en
 have hst : v.steps = M.steps := hI.steps
 by_cases hz : M.en = 0
 ·have hz' : v.en = 0 := hen.trans hz
  cases n with
  | zero =>
   have hge : fuel ≤ v.steps := by omega
   have he' : runM t (glob t) 0 M = M.ends 3 0 := if_pos hz
   refine GX.wp_R ?_; intros
   refine GX.o (cl (ends_spec t p k v 3 0) fun _ => ?_)
   refine GX.wp_R ?_; intros
   rw [← he, he']
   exact rt0 ⟨⟨{ v with en := 3, code := 0 }, xs, c⟩, ⟨hI.tab, hI.nf, hI.fr, rfl, rfl, hI.steps, hI.slack, hI.no, hI.ni, hI.bd⟩, ⟨hok.fr, hok.into, hok.deep, hok.gl, fun h => by cases h⟩, ⟨hb.st, hb.B, hb.L, hb.O⟩, by show M.steps ≤ fuel; omega⟩
  | succ n =>
   obtain ⟨f, r, u, i, hnx, hnext⟩ := hok.nextOf hz
   have hfs := hnx.fs
   have hu := hnx.unit
   obtain ⟨ju, hju, hjl, hjg⟩ := gt_some hu
   obtain ⟨jp, hjp, hpl, hip⟩ := gt_some hnx.ins
   have hfr := hI.fr
   rw [hfs] at hfr
   cases xs with
   | nil => exact absurd hfr (by simp [FrsAt])
   | cons x xs =>
   have hlt : ¬ fuel ≤ v.steps := by omega
   have hlt2 : v.steps < 100000 := by omega
   have hge2 : 0 ≤ v.steps := by have := hb.st; omega
   rw [hfs, show frs (x :: xs) (f :: r) = [RowR x.bl 93 [.int .i64 f.u, .int .i64 f.pc, .slice (some ⟨x.vb, 0, none⟩) x.n x.n, .int .i64 f.into, .map (some x.mb)], GX.Own 3 Ty.int (some ⟨x.vb, 0, none⟩) x.n f.vars, GX.MapR x.mb x.mp] ++ frs xs r from rfl, show adrs (x :: xs) = adrs xs ++ [some ⟨x.bl, 0, none⟩] from rfl]
   refine GX.starO (l := [RowR x.bl 93 [.int .i64 f.u, .int .i64 f.pc, .slice (some ⟨x.vb, 0, none⟩) x.n x.n, .int .i64 f.into, .map (some x.mb)], GX.Own 3 Ty.int (some ⟨x.vb, 0, none⟩) x.n f.vars, GX.MapR x.mb x.mp]) (m := frs xs r) ?_
   dsimp only [List.cons_append, List.nil_append]
   have hum : u ∈ t.units := gt_mem hu
   obtain ⟨u', hu1, hu2, hu3⟩ := hok.fr f (by rw [hfs]; simp)
   obtain rfl : u' = u := by rw [hu] at hu1; exact (Option.some.inj hu1).symm
   have hvi := right_ins hRt hum (gt_mem hnx.ins)
   have hd := hok.deep
   have hpre : Pre t { v with steps := v.steps + 1 } x xs { f with pc := f.pc + 1 } r c (M.pre f) i u' := by
    refine ⟨?_, ?_, hvi, hu2, ?_, hok.gl, ?_, ?_, ?_, ?_, ?_⟩
    ·refine hI.keep (f' := { f with pc := f.pc + 1 }) hfs (by show _ :: M.fs.tail = _; rw [hfs]; rfl) rfl rfl rfl hfr.1.2 hI.tab rfl rfl hen hI.code (by show v.steps + 1 = M.steps + 1; rw [hst]) hI.slack hI.no hI.ni
    ·show _ :: M.fs.tail = _; rw [hfs]; rfl
    ·show (_ :: M.fs.tail).length ≤ 40; rw [hfs] at hd ⊢; exact hd
    ·show M.tb.B.length ≤ _; have := hb.B; omega
    ·show M.tb.L.length ≤ _; have := hb.L; omega
    ·show M.out.length ≤ _; have := hb.O; omega
    ·have := hT.args u' hum i (gt_mem hnx.ins); omega
    ·cases r with
     | nil => exact .inr fun h r' e => by cases e
     | cons hh r =>
      refine (Goal.of hok hfs).imp id fun q h r' e => ?_
      cases e
      exact q
   have hnb := hpre.nb
   have hnf := hpre.nf
   refine GX.wp_R ?_; intros
   refine GX.o (cl (top_spec t p k { v with steps := v.steps + 1 } (adrs xs) _ hnf (by omega)) fun _ => ?_)
   refine GX.wp_R ?_; intros
   refine GX.drawn2 (RowR p 57 _) (RowR x.bl 93 _) (fun j => !(List.contains [19] j)) [(0, true), (1, true), (2, true), (3, true), (4, true), (5, true), (6, true), (7, true), (8, true), (9, true), (10, true), (11, true), (12, true), (13, true), (14, true), (15, true), (16, true), (17, true), (18, false), (19, false)] rfl (by kernel_rfl) (by kernel_rfl) GX.sA ?_; intro wd F hW hR
   refine GX.wp_T ?_; intros
   refine GX.unpin (RowR p 57 _) ?_
   refine GX.unpin (RowR x.bl 93 _) ?_
   refine GX.wp_T ?_; intros
   refine GX.wp_R ?_; intros
   refine GX.nmP 5 ?_; rintro b5 rfl
   refine frzB b5 ?_
   obtain ⟨fid, hF, hlk, hop⟩ := op_all (p := p) (k := k) hRt hT (f := { f with pc := f.pc + 1 }) hu hpre
   refine GX.drawn2 (RowR p 57 _) (GX.MapR k.om opsF) (fun j => !(List.contains [9] j)) [(0, true), (1, true), (2, true), (3, true), (4, true), (5, true), (6, true), (7, true), (8, true), (9, false)] rfl (by kernel_rfl) (by kernel_rfl) GX.sA ?_; intro wd F hW hR
   refine GX.wp_T ?_; intros
   refine GX.unpin (RowR p 57 _) ?_
   refine GX.unpin (GX.MapR k.om opsF) ?_
   refine GX.nmA 69 ?_; rintro cs rfl
   haveI := hF
   refine GX.gow ?_
   refine (clv (fs := []) (vs := [.pointer (some ⟨p, 0, none⟩), .agg cs.toArray]) (cs := []) (hop cs) fun s => ?_)
   obtain ⟨⟨v', xs', c'⟩, hI'⟩ := s
   dsimp only
   refine GX.wp_T ?_; intros
   have hok' := hok.go (G := glob t) hRt hnx
   have hb' := hb.go (G := glob t) hRt hT hnx
   have hst' := (go_grow (M.pre f) t (glob t) { f with pc := f.pc + 1 } i hvi.op.1 hvi.op.2).st
   have he' : runM t (glob t) n (((M.pre f).go t (glob t) { f with pc := f.pc + 1 } i).less t) = runM t (glob t) n0 M0 := by
    rw [← he, ← step_next hnext]
    exact (if_pos hz).symm
   have hst2 : (M.pre f).steps = M.steps + 1 := rfl
   generalize (M.pre f).go t (glob t) { f with pc := f.pc + 1 } i = M' at hI' hok' hb' hst' he' ⊢
   have hbd : v'.bound = bound t M'.fs := hI'.bd
   have hbl := bound_le hT M'.fs
   have hdp := hok'.deep
   obtain ⟨l1, l2, l3, l4, l5, l6, l7, l8⟩ := less_fs M' t
   by_cases hz2 : v'.en = 0
   ·have hM2 : M'.en = 0 := hI'.en.symm.trans hz2
    have hles : M'.less t = { M' with slack := min M'.slack (M'.room t) } := if_pos hM2
    have hlv : liveN M'.tb.B ≤ M'.tb.B.length := List.countP_le_length
    refine GX.wp_R ?_; intros
    refine GX.drawn1 (RowR p 57 _) (fun j => !(List.contains [12] j)) [(0, true), (1, true), (2, true), (3, true), (4, true), (5, true), (6, true), (7, false), (8, true), (9, true), (10, true), (11, true), (12, false)] rfl (by kernel_rfl) (by kernel_rfl) GX.sA ?_; intro wd F hW hR
    refine GX.wp_T ?_; intros
    refine GX.unpin (RowR p 57 _) ?_
    refine GX.gow ?_
    refine (cl (slack_spec t p k v' c' M'.tb hI'.tab (by omega) (by have := hb'.B; omega)) fun _ => ?_)
    refine GX.wp_T ?_; intros
    refine GX.wp_R ?_; intros
    rw [hles] at he'
    have hok2 := hok'.less
    have hb2 := hb'.less t
    rw [hles] at hok2 hb2
    refine again ⟨⟨{ v' with slack := min v'.slack (v'.bound - (liveN M'.tb.B : Int)) }, xs', c'⟩, { M' with slack := min M'.slack (M'.room t) }⟩ ⟨rfl, rfl, trivial⟩ ⟨?_, hok2, hb2, n, ?_, he'⟩ ?_
    ·refine ⟨hI'.tab, hI'.nf, hI'.fr, hI'.en, hI'.code, hI'.steps, ?_, hI'.no, hI'.ni, hI'.bd⟩
     show min v'.slack _ = min M'.slack (M'.room t)
     rw [show v'.slack = M'.slack from hI'.slack, hbd]
     rfl
    ·show M'.steps + n = fuel
     omega
    ·show (fuel - M'.steps).toNat + (if M'.en = 0 then 1 else 0) < (fuel - M.steps).toNat + (if M.en = 0 then 1 else 0)
     rw [if_pos hz]
     split <;> omega
   ·have hM2 : M'.en ≠ 0 := fun h => hz2 (hI'.en.trans h)
    have hles : M'.less t = M' := if_neg hM2
    rw [hles] at he'
    refine GX.wp_R ?_; intros
    refine again ⟨⟨v', xs', c'⟩, M'⟩ ⟨rfl, rfl, trivial⟩ ⟨hI', hok', hb', n, ?_, he'⟩ ?_
    ·show M'.steps + n = fuel
     omega
    ·show (fuel - M'.steps).toNat + (if M'.en = 0 then 1 else 0) < (fuel - M.steps).toNat + (if M.en = 0 then 1 else 0)
     rw [if_pos hz]
     split <;> omega
 ·have hz' : ¬ v.en = 0 := by rw [hen]; exact hz
  rw [runM_ended hz] at he
  rw [← he]
  refine GX.wp_R ?_; intros
  exact en0 ⟨⟨v, xs, c⟩, hI, hok, hb, by omega⟩
end Go.Proofs.YtomadjefdghliaaGreat
namespace Go.Proofs.YtomadjefdghliaaGreat
open Go Go.RR Go.RX Go.GX Go.Api Go.RiseM Go.ReachM Go.RtM
attribute [local irreducible] wpList Code.wp wpPlan Exit.then Exit.inBlock bodyPost NoPanic Went GX.Post GX.Again GX.Meet GX.RowR GX.Own GX.Owns GX.Box GX.Sl GX.Pt GX.Ag GX.MapR GX.Kept GX.Pin wpT GoK AtEnd Both
abbrev UpP (p : Int → Bool) (l : List Int) : Prop := Rise l ∧ ∀ n ∈ l, p n = true
theorem upP_snoc {p : Int → Bool} {l : List Int} {i : Nat} {x : Int} (hx : l[i]? = some x) : UpP p (l.take (i + 1)) ↔ UpP p (l.take i) ∧ (∀ k y, i = k + 1 → l[k]? = some y → y < x) ∧ p x = true := by
 have e : l.take (i + 1) = l.take i ++ [x] := by rw [List.take_add_one, hx]; rfl
 rw [e]
 unfold UpP Rise
 rw [List.pairwise_append]
 constructor
 ·rintro ⟨⟨h1, _, h2⟩, h3⟩
  refine ⟨⟨h1, fun n hn => h3 n (by simp [hn])⟩, fun k y hk hy => h2 y ?_ x (by simp), h3 x (by simp)⟩
  exact List.mem_take_iff_getElem.2 ⟨k, by have := (List.getElem?_eq_some_iff.1 hy).1; omega, (List.getElem?_eq_some_iff.1 hy).2⟩
 ·rintro ⟨⟨h1, h2⟩, h3, h4⟩
  refine ⟨⟨h1, by simp, fun a ha c hc => ?_⟩, fun n hn => ?_⟩
  ·obtain rfl : c = x := by simpa using hc
   obtain ⟨j, hj, rfl⟩ := List.mem_take_iff_getElem.1 ha
   cases i with
   | zero => omega
   | succ k =>
    have hkl : k < l.length := by have := (List.getElem?_eq_some_iff.1 hx).1; omega
    have h5 := h3 k l[k] rfl (List.getElem?_eq_getElem hkl)
    by_cases e : j = k
    ·subst e; exact h5
    ·have h6 := List.pairwise_iff_getElem.1 h1 j k (by rw [List.length_take]; omega) (by rw [List.length_take]; omega) (by omega)
     rw [List.getElem_take, List.getElem_take] at h6
     omega
  ·rw [List.mem_append, List.mem_singleton] at hn
   rcases hn with hn | hn
   ·exact h2 n hn
   ·subst hn; exact h4
theorem upP_take {p : Int → Bool} {l : List Int} (i : Nat) (h : UpP p l) : UpP p (l.take i) := ⟨h.1.sublist (List.take_sublist _ _), fun n hn => h.2 n (List.mem_of_mem_take hn)⟩
theorem last2 {l : List Int} {k k2 : Nat} {y z x : Int} (e : k = k2) (hy : l[k]? = some y) (hz : l[k2]? = some z) (h : y < x) : z < x := by subst e; rw [hy] at hz; cases hz; exact h
theorem rising_spec (ao : Option Addr) (cap : Nat) (l : List Int) (fid : Nat) (caps : List Value) (psC : List Pf) (hpC : List Res) (p : Int → Bool) [UFunc Tryz.prog fid]
  (hf : ∀ x ∈ l, Does Tryz.prog fid (.int .i64 x :: caps) psC hpC (fun _ : Unit => .bool (p x)) (fun _ => []) (fun _ => hpC)) :
  Does Tryz.prog 129 [.slice ao l.length cap, .func (.func fid) #[] caps.toArray] (Sl Ty.int ao cap l :: psC) hpC (fun _ : Unit => .bool (decide (UpP p l))) (fun _ => []) (fun _ => hpC) := by
 refine enter Tryz.func129 rfl Tryz.ntmps129 rfl fun b => ?_
 refine sln ao fun hl1 hl2 _ => ?_
 refine GX.wR ?_; intros
 refine GX.loop (σ := Nat) (fun i => [(0, .slice ao l.length cap), (1, .func (.func fid) #[] caps.toArray), (7, .slice ao l.length cap), (8, .int .i64 (l.length : Int)), (9, .int .i64 (i : Int))]) (fun _ => []) (fun _ => hpC)
  (fun i => i ≤ l.length ∧ UpP p (l.take i)) (fun i => l.length - i) 0 ⟨rfl, rfl, rfl, rfl, rfl, trivial⟩ ⟨by omega, by simp [UpP, Rise]⟩ (fun i hi => ?_) (h2 := SelR.all _)
 obtain ⟨hi, hU⟩ := hi
 by_cases hlt : i < l.length
 ·obtain ⟨x, hx⟩ := get_lt hlt
  have hs := upP_snoc (p := p) hx
  have no : ¬ UpP p (l.take (i + 1)) → ¬ UpP p l := fun h h2 => h (upP_take _ h2)
  by_cases h0 : i = 0
  ·subst h0
   refine GX.wR ?_; intros
   refine GX.o (clvA (fs := []) (vs := [.int .i64 x]) (cs := caps) (hf x (List.mem_of_getElem? hx)) fun _ => ?_)
   cases hp : p x with
   | true =>
    refine GX.wR ?_; intros
    exact again 1 ⟨rfl, rfl, rfl, rfl, rfl, trivial⟩ ⟨by omega, hs.2 ⟨hU, fun k y hk => by omega, hp⟩⟩ (by omega) (h2 := SelR.all _)
   | false =>
    refine GX.wR ?_; intros
    exact rt1 () (vN (no fun h => by rw [(hs.1 h).2.2] at hp; cases hp)) (h2 := SelR.all _)
  ·obtain ⟨k, rfl⟩ : ∃ k, i = k + 1 := ⟨i - 1, by omega⟩
   obtain ⟨y, hy⟩ := get_lt (show k < l.length by omega)
   by_cases hxy : x ≤ y
   ·refine GX.wR ?_; intros
    exact rt1 () (vN (no fun h => by have := (hs.1 h).2.1 k y rfl hy; omega)) (h2 := SelR.all _)
   ·refine GX.wR ?_; intros
    refine GX.o (clvA (fs := []) (vs := [.int .i64 x]) (cs := caps) (hf x (List.mem_of_getElem? hx)) fun _ => ?_)
    cases hp : p x with
    | true =>
     refine GX.wR ?_; intros
     exact again (k + 2) ⟨rfl, rfl, rfl, rfl, rfl, trivial⟩ ⟨by omega, hs.2 ⟨hU, fun k2 z hk hz => last2 (show k = k2 by omega) hy hz (by omega), hp⟩⟩ (by omega) (h2 := SelR.all _)
    | false =>
     refine GX.wR ?_; intros
     exact rt1 () (vN (no fun h => by rw [(hs.1 h).2.2] at hp; cases hp)) (h2 := SelR.all _)
 ·have hil : i = l.length := by omega
  subst hil
  rw [List.take_length] at hU
  refine GX.wR ?_; intros
  exact rt1 () (vY hU) (h2 := SelR.all _)
theorem cell_spec (cs : List Value) (v : RtView) (n : Int) (arr : Bool) (c : Int) : Does Tryz.prog 159 [.agg cs.toArray, .int .i64 n, .bool arr, .int .i64 c] [Ag tyRtView cs v] []
  (fun _ : Unit => .tuple #[.int .i64 (cell v.t v.u n arr c).1, .bool (cell v.t v.u n arr c).2.1, .bool (cell v.t v.u n arr c).2.2]) (fun _ => []) (fun _ => []) := by
 refine enter Tryz.func159 rfl Tryz.ntmps159 rfl fun b => ?_
 refine GX.wR ?_; intros
 refine GX.o (cl (of_spec _ v n) fun _ => ?_)
 by_cases h1 : RtM.of v.u n = -1
 ·rw [cell_null h1]
  by_cases h2 : 0 ≤ c
  ·have e2 : decide (0 ≤ c ∧ c < 8) = decide (c < 8) := decide_eq_decide.2 ⟨fun h => h.2, fun h => ⟨h2, h⟩⟩
   rw [e2]
   refine GX.wR ?_; intros
   exact rt3 () rfl
  ·have e2 : decide (0 ≤ c ∧ c < 8) = false := decide_eq_false fun h => h2 h.1
   rw [e2]
   refine GX.wR ?_; intros
   exact rt3 () rfl
 ·by_cases h2 : IsClass v.t (RtM.of v.u n)
  ·obtain ⟨L, hL, k, hk, hkl, hL2⟩ := gt_in h2
   by_cases h3 : L.arr = arr
   ·have hb : (L.arr != arr) = false := by rw [h3]; simp
    by_cases h4 : c < 0
    ·rw [cell_out h1 hL h3 (gt_out (.inl h4)), hk]
     rw [hk] at h1 h2
     have h2' := Classical.not_not.2 h2
     refine GX.wR ?_; intros
     refine GX.o (cl (isClass_spec _ v.t k) fun _ => ?_)
     refine GX.wR ?_; intros
     exact rt3 () rfl
    ·by_cases h5 : (L.refs.length : Int) ≤ c
     ·rw [cell_out h1 hL h3 (gt_out (.inr h5)), hk]
      rw [hk] at h1 h2
      have h2' := Classical.not_not.2 h2
      refine GX.wR ?_; intros
      refine GX.o (cl (isClass_spec _ v.t k) fun _ => ?_)
      refine GX.wR ?_; intros
      exact rt3 () rfl
     ·obtain ⟨x, hx, j, rfl, hj, hxj⟩ := gt_in (l := L.refs) (n := c) ⟨by omega, by omega⟩
      rw [cell_some h1 hL h3 hx, hk]
      rw [hk] at h1 h2
      have h2' := Classical.not_not.2 h2
      refine GX.wR ?_; intros
      refine GX.o (cl (isClass_spec _ v.t k) fun _ => ?_)
      refine GX.wR ?_; intros
      exact rt3 () rfl
   ·have hb : (L.arr != arr) = true := by simpa using h3
    rw [cell_arr h1 hL h3, hk]
    rw [hk] at h1 h2
    have h2' := Classical.not_not.2 h2
    refine GX.wR ?_; intros
    refine GX.o (cl (isClass_spec _ v.t k) fun _ => ?_)
    refine GX.wR ?_; intros
    exact rt3 () rfl
  ·have e2 : gt v.t.classes (RtM.of v.u n) = none := gt_out (by unfold IsClass at h2; omega)
   rw [cell_none h1 e2]
   refine GX.wR ?_; intros
   refine GX.o (cl (isClass_spec _ v.t _) fun _ => ?_)
   refine GX.wR ?_; intros
   exact rt3 () rfl
theorem loads_spec (cs : List Value) (v : RtView) (a f : Int) (arr : Bool) (c : Int) : Does Tryz.prog 150 [.agg cs.toArray, .int .i64 a, .int .i64 f, .bool arr, .int .i64 c] [Ag tyRtView cs v] []
  (fun _ : Unit => .bool (decide (Loads v.t v.u a f arr c))) (fun _ => []) (fun _ => []) := by
 refine enter Tryz.func150 rfl Tryz.ntmps150 rfl fun b => ?_
 refine GX.wR ?_; intros
 refine GX.o (cl (cell_spec _ v f arr c) fun _ => ?_)
 have hL : Loads v.t v.u a f arr c ↔ (cell v.t v.u f arr c).2.2 = true ∧ (if (cell v.t v.u f arr c).2.1 = true then RtM.of v.u a ≠ -3 else Into (RtM.of v.u a) (cell v.t v.u f arr c).1) := Iff.rfl
 generalize cell v.t v.u f arr c = x at *
 obtain ⟨e, any, ok⟩ := x
 dsimp only at *
 cases ok with
 | false =>
  refine GX.wR ?_; intros
  exact rt1 () (vN fun h => by simp at hL; exact hL h)
 | true =>
  cases any with
  | true =>
   rw [if_pos rfl] at hL
   refine GX.wR ?_; intros
   refine GX.o (cl (of_spec _ v a) fun _ => ?_)
   by_cases h : RtM.of v.u a = -3
   ·refine GX.wR ?_; intros
    exact rt1 () (vN fun h2 => (hL.1 h2).2 h)
   ·refine GX.wR ?_; intros
    exact rt1 () (vY (hL.2 ⟨rfl, h⟩))
  | false =>
   rw [if_neg (by simp)] at hL
   refine GX.wR ?_; intros
   refine GX.o (cl (of_spec _ v a) fun _ => ?_)
   refine GX.wR ?_; intros
   refine GX.o (cl (into_spec _ e) fun _ => ?_)
   refine GX.wR ?_; intros
   exact rt1 () (vI (hL.trans ⟨fun h => h.2, fun h => ⟨rfl, h⟩⟩))
theorem lays_spec (cs : List Value) (v : RtView) (to : Int) (arr : Bool) (c d : Int) : Does Tryz.prog 151 [.agg cs.toArray, .int .i64 to, .bool arr, .int .i64 c, .int .i64 d] [Ag tyRtView cs v] []
  (fun _ : Unit => .bool (decide (Lays v.t v.u to arr c d))) (fun _ => []) (fun _ => []) := by
 refine enter Tryz.func151 rfl Tryz.ntmps151 rfl fun b => ?_
 refine GX.wR ?_; intros
 refine GX.o (cl (cell_spec _ v to arr c) fun _ => ?_)
 have hL : Lays v.t v.u to arr c d ↔ (cell v.t v.u to arr c).2.2 = true ∧ (if (cell v.t v.u to arr c).2.1 = true then RtM.of v.u d ≠ -3 else Into (cell v.t v.u to arr c).1 (RtM.of v.u d)) := Iff.rfl
 generalize cell v.t v.u to arr c = x at *
 obtain ⟨e, any, ok⟩ := x
 dsimp only at *
 cases ok with
 | false =>
  refine GX.wR ?_; intros
  exact rt1 () (vN fun h => by simp at hL; exact hL h)
 | true =>
  cases any with
  | true =>
   rw [if_pos rfl] at hL
   refine GX.wR ?_; intros
   refine GX.o (cl (of_spec _ v d) fun _ => ?_)
   by_cases h : RtM.of v.u d = -3
   ·refine GX.wR ?_; intros
    exact rt1 () (vN fun h2 => (hL.1 h2).2 h)
   ·refine GX.wR ?_; intros
    exact rt1 () (vY (hL.2 ⟨rfl, h⟩))
  | false =>
   rw [if_neg (by simp)] at hL
   refine GX.wR ?_; intros
   refine GX.o (cl (of_spec _ v d) fun _ => ?_)
   refine GX.wR ?_; intros
   refine GX.o (cl (into_spec e _) fun _ => ?_)
   refine GX.wR ?_; intros
   exact rt1 () (vI (hL.trans ⟨fun h => h.2, fun h => ⟨rfl, h⟩⟩))
theorem length_spec (cs : List Value) (v : RtView) : Does Tryz.prog 152 [.agg cs.toArray] [Ag tyRtView cs v] []
  (fun _ : Unit => .bool (decide ((cell v.t v.u v.i.b true 0).2.2 = true ∧ RtM.of v.u v.i.a = -2))) (fun _ => []) (fun _ => []) := by
 refine enter Tryz.func152 rfl Tryz.ntmps152 rfl fun b => ?_
 refine GX.wR ?_; intros
 refine GX.o (cl (cell_spec _ v v.i.b true 0) fun _ => ?_)
 generalize cell v.t v.u v.i.b true 0 = x at *
 obtain ⟨e, any, ok⟩ := x
 dsimp only at *
 cases ok with
 | false =>
  refine GX.wR ?_; intros
  exact rt1 () (vN fun h => by simp at h)
 | true =>
  refine GX.wR ?_; intros
  refine GX.o (cl (plain_spec _ v _ _ _ [v.i.a] rfl) fun _ => ?_)
  refine GX.wR ?_; intros
  have e2 : Plain v.u [v.i.a] ↔ RtM.of v.u v.i.a = -2 := by simp [Plain]
  exact rt1 () (vI ⟨fun h => e2.2 h.2, fun h => ⟨rfl, e2.1 h⟩⟩)
set_option maxHeartbeats 1000000 in
theorem fresh_spec (cs : List Value) (v : RtView) (arr : Bool) : Does Tryz.prog 153 [.agg cs.toArray, .bool arr] [Ag tyRtView cs v] []
  (fun _ : Unit => .bool (decide (Fresh v.t v.u v.i arr))) (fun _ => []) (fun _ => []) := by
 refine enter Tryz.func153 rfl Tryz.ntmps153 rfl fun b => ?_
 refine GX.wR ?_; intros
 refine GX.nmP 5 ?_; rintro b5 rfl
 refine frzB b5 ?_
 by_cases h : IsClass v.t v.i.n
 ·obtain ⟨L, hL, k, hk, hkl, hL2⟩ := gt_in h
  have hF : Fresh v.t v.u v.i arr ↔ L.arr = arr ∧ RtM.of v.u v.i.a = v.i.n := by unfold Fresh; rw [hL]
  by_cases h3 : L.arr = arr
  ·have hb : (L.arr == arr) = true := by rw [h3]; simp
   refine GX.drawn0  (fun j => !(List.contains [4] j)) [(0, true), (1, true), (2, true), (3, true), (4, false), (5, true), (6, true), (7, true), (8, true), (9, true), (10, true), (11, true), (12, true), (13, true), (14, true), (15, true), (16, true), (17, true), (18, true), (19, true), (20, true), (22, true), (23, true), (21, false), (24, true), (25, true), (26, true)] rfl (by kernel_rfl) (by kernel_rfl) GX.sA ?_; intro wd F hW hR
   refine GX.wT ?_; intros
   refine GX.gow ?_
   refine (cl (isClass_spec _ v.t v.i.n) fun _ => ?_)
   refine GX.wT ?_; intros
   refine GX.gow ?_
   refine (cl (of_spec _ v v.i.a) fun _ => ?_)
   refine GX.wT ?_; intros
   refine GX.wR ?_; intros
   exact rt1 () (vI (hF.trans ⟨fun h => h.2, fun h => ⟨h3, h⟩⟩))
  ·have hb : (L.arr == arr) = false := by simpa using h3
   refine GX.drawn0  (fun j => !(List.contains [4] j)) [(0, true), (1, true), (2, true), (3, true), (4, false), (5, true), (6, true), (7, true), (8, true), (9, true), (10, true), (11, true), (12, true), (13, true), (14, true), (15, true), (16, true), (17, true), (18, true), (19, true), (20, true), (22, true), (23, true), (21, false), (24, true), (25, true), (26, true)] rfl (by kernel_rfl) (by kernel_rfl) GX.sA ?_; intro wd F hW hR
   refine GX.wT ?_; intros
   refine GX.gow ?_
   refine (cl (isClass_spec _ v.t v.i.n) fun _ => ?_)
   refine GX.wT ?_; intros
   refine GX.wR ?_; intros
   exact rt1 () (vN fun h4 => h3 (hF.1 h4).1)
 ·have hF : ¬ Fresh v.t v.u v.i arr := by unfold Fresh; rw [gt_out (by unfold IsClass at h; omega)]; exact id
  refine GX.drawn0  (fun j => !(List.contains [4] j)) [(0, true), (1, true), (2, true), (3, true), (4, false), (5, true), (6, true), (7, true), (8, true), (9, true), (10, true), (11, true), (12, true), (13, true), (14, true), (15, true), (16, true), (17, true), (18, true), (19, true), (20, true), (22, true), (23, true), (21, false), (24, true), (25, true), (26, true)] rfl (by kernel_rfl) (by kernel_rfl) GX.sA ?_; intro wd F hW hR
  refine GX.wT ?_; intros
  refine GX.gow ?_
  refine (cl (isClass_spec _ v.t v.i.n) fun _ => ?_)
  refine GX.wT ?_; intros
  refine GX.wR ?_; intros
  exact rt1 () (vN hF)
set_option maxHeartbeats 1000000 in
theorem two_spec (cs : List Value) (v : RtView) : Does Tryz.prog 149 [.agg cs.toArray] [Ag tyRtView cs v] []
  (fun _ : Unit => .bool (decide (Two v.u v.i))) (fun _ => []) (fun _ => []) := by
 refine enter Tryz.func149 rfl Tryz.ntmps149 rfl fun b => ?_
 by_cases h1 : v.i.n < 14
 ·refine GX.wR ?_; intros
  exact rt1 () (vN fun h => by have := h.1; omega)
 by_cases h2 : 24 < v.i.n
 ·refine GX.wR ?_; intros
  exact rt1 () (vN fun h => by have := h.1; omega)
 refine GX.wR ?_; intros
 refine GX.o (cl (plain_spec _ v _ _ _ [v.i.a] rfl) fun _ => ?_)
 by_cases h3 : Plain v.u [v.i.a]
 ·have h3' := Classical.not_not.2 h3
  have h4 : RtM.of v.u v.i.a = -2 := h3 _ (by simp)
  refine GX.wR ?_; intros
  refine GX.o (cl (plain_spec _ v _ _ _ [v.i.b, v.i.c] rfl) fun _ => ?_)
  have e5 : Plain v.u [v.i.b, v.i.c] ↔ RtM.of v.u v.i.b = -2 ∧ RtM.of v.u v.i.c = -2 := by simp [Plain]
  by_cases h5 : Plain v.u [v.i.b, v.i.c]
  ·refine GX.wR ?_; intros
   exact rt1 () (vY ⟨by omega, h4, .inl (e5.1 h5)⟩)
  ·have e6 : Refs v.u [v.i.b, v.i.c] ↔ IsRef (RtM.of v.u v.i.b) ∧ IsRef (RtM.of v.u v.i.c) := by simp [Refs]
   by_cases h6 : v.i.n = 21
   ·refine GX.wR ?_; intros
    refine GX.o (cl (refs_spec _ v _ _ _ [v.i.b, v.i.c] rfl) fun _ => ?_)
    refine GX.wR ?_; intros
    exact rt1 () (vI ⟨fun h => h.2.2.elim (fun h7 => absurd (e5.2 h7) h5) (fun h7 => e6.2 h7.2), fun h => ⟨by omega, h4, .inr ⟨.inl h6, e6.1 h⟩⟩⟩)
   ·by_cases h7 : v.i.n = 22
    ·refine GX.wR ?_; intros
     refine GX.o (cl (refs_spec _ v _ _ _ [v.i.b, v.i.c] rfl) fun _ => ?_)
     refine GX.wR ?_; intros
     exact rt1 () (vI ⟨fun h => h.2.2.elim (fun h7 => absurd (e5.2 h7) h5) (fun h7 => e6.2 h7.2), fun h => ⟨by omega, h4, .inr ⟨.inr h7, e6.1 h⟩⟩⟩)
    ·refine GX.wR ?_; intros
     exact rt1 () (vN fun h => h.2.2.elim (fun h8 => h5 (e5.2 h8)) (fun h8 => h8.1.elim h6 h7))
 ·refine GX.wR ?_; intros
  exact rt1 () (vN fun h => h3 fun n hn => by rw [List.mem_singleton.1 hn]; exact h.2.1)
set_option maxHeartbeats 1000000 in
theorem only_spec (cs : List Value) (i : Ins) (a c d n g : Bool) : Does Tryz.prog 144 [.agg cs.toArray, .bool a, .bool c, .bool d, .bool n, .bool g] [Ag tyIns cs i] []
  (fun _ : Unit => .bool (decide (Only i a c d n g))) (fun _ => []) (fun _ => []) := by
 refine enter Tryz.func144 rfl Tryz.ntmps144 rfl fun b => ?_
 have eg : (i.args.length : Int) = 0 ↔ i.args = [] := by rw [← List.length_eq_zero_iff]; omega
 repeat' (first | (apply GX.s_list; first | apply GX.nil | (refine GX.o ?_; first | (apply GX.k_load; first | refine GX.lr ?_ | refine GX.lrA ?_ | refine GX.ln ?_ | refine GX.lb ?_ | refine GX.lh ?_ | (refine GX.ls ?_; intro ao cap _ _) | (refine GX.lA ?_; intro cs) | (refine GX.l0 ?_; intro cs) | refine GX.o1n ?_ | refine GX.o1b ?_ | refine GX.o1h ?_ | (refine GX.o1s ?_; intro ao cap _ _) | refine GX.omn ?_ | refine GX.omb ?_ | refine GX.omh ?_ | (refine GX.oms ?_; intro ao cap _ _) | refine GX.ofn ?_ | refine GX.ofb ?_ | refine GX.ofh ?_ | (refine GX.ofs ?_; intro ao cap _ _) | (refine GX.oA ?_; intro cs)) | (apply GX.k_move; refine GX.m ?_) | (apply GX.k_assign; refine GX.a ?_) | (apply GX.k_fieldAddr; first | refine GX.f0 ?_ | refine GX.fh ?_ | refine GX.fa ?_) | (apply GX.k_call; refine GX.c_len ?_) | (apply GX.k_pick; first | refine GX.pt ?_ | refine GX.pf ?_ | refine GX.pk ?_) | (apply GX.k_box; first | (refine GX.bxF ?_; intro _) | (refine GX.bxR ?_; intro _)) | (apply GX.k_binOp_eql; first | refine GX.b_eql ?_ | refine GX.b_pn ?_ | refine GX.b_nn ?_ | refine GX.b_snn ?_ | refine GX.b_sns ?_ | refine GX.b_eqls ?_ | refine GX.b_eqltf ?_ | refine GX.b_eqlft ?_ | refine GX.b_eqlb ?_)) | refine GX.gt ?_ | refine GX.gf ?_ | refine GX.gbt ?_ | refine GX.gbf ?_ | refine GX.un ?_ | refine GX.un0 ?_ | (refine GX.gs ?_ ?_ <;> intro _) | (refine GX.gsb ?_ ?_ <;> intro _)) | apply GX.then_normal | apply GX.seq | apply GX.region | (apply GX.s_cond; first | refine GX.ct ?_ | refine GX.cf ?_ | refine GX.cdf ?_ | refine GX.cdt ?_ | refine GX.cbt ?_ | refine GX.cbf ?_ | (refine GX.cs ?_ ?_ <;> intro _) | (refine GX.csb ?_ ?_ <;> intro _)) | apply GX.skip | apply GX.block | apply GX.inBlock_normal | apply GX.exit | apply GX.then_exit | apply GX.inBlock_exit | refine GX.ibo ?_ | apply GX.ret | apply GX.then_ret | apply GX.inBlock_ret)
 all_goals first
  | exact rt1 () (vI (Q := ((i.args.length : Int) = 0)) (by unfold Only; simp_all))
  | exact rt1 () (vY (by unfold Only; simp_all))
  | exact rt1 () (vN (by unfold Only; simp_all))
theorem bare_spec (cs : List Value) (i : Ins) : Does Tryz.prog 133 [.agg cs.toArray] [Ag tyIns cs i] []
  (fun _ : Unit => .bool (decide (Bare i))) (fun _ => []) (fun _ => []) := by
 refine enter Tryz.func133 rfl Tryz.ntmps133 rfl fun b => ?_
 repeat' (first | (apply GX.s_list; first | apply GX.nil | (refine GX.o ?_; first | (apply GX.k_load; first | refine GX.lr ?_ | refine GX.lrA ?_ | refine GX.ln ?_ | refine GX.lb ?_ | refine GX.lh ?_ | (refine GX.ls ?_; intro ao cap _ _) | (refine GX.lA ?_; intro cs) | (refine GX.l0 ?_; intro cs) | refine GX.o1n ?_ | refine GX.o1b ?_ | refine GX.o1h ?_ | (refine GX.o1s ?_; intro ao cap _ _) | refine GX.omn ?_ | refine GX.omb ?_ | refine GX.omh ?_ | (refine GX.oms ?_; intro ao cap _ _) | refine GX.ofn ?_ | refine GX.ofb ?_ | refine GX.ofh ?_ | (refine GX.ofs ?_; intro ao cap _ _) | (refine GX.oA ?_; intro cs)) | (apply GX.k_assign; refine GX.a ?_) | (apply GX.k_fieldAddr; first | refine GX.f0 ?_ | refine GX.fh ?_ | refine GX.fa ?_) | (apply GX.k_box; first | (refine GX.bxF ?_; intro _) | (refine GX.bxR ?_; intro _)) | (apply GX.k_binOp_eql; first | refine GX.b_eql ?_ | refine GX.b_pn ?_ | refine GX.b_nn ?_ | refine GX.b_snn ?_ | refine GX.b_sns ?_ | refine GX.b_eqls ?_ | refine GX.b_eqltf ?_ | refine GX.b_eqlft ?_ | refine GX.b_eqlb ?_)) | refine GX.gt ?_ | refine GX.gf ?_ | refine GX.gbt ?_ | refine GX.gbf ?_ | refine GX.un ?_ | refine GX.un0 ?_ | (refine GX.gs ?_ ?_ <;> intro _) | (refine GX.gsb ?_ ?_ <;> intro _)) | apply GX.then_normal | apply GX.seq | apply GX.region | (apply GX.s_cond; first | refine GX.ct ?_ | refine GX.cf ?_ | refine GX.cdf ?_ | refine GX.cdt ?_ | refine GX.cbt ?_ | refine GX.cbf ?_ | (refine GX.cs ?_ ?_ <;> intro _) | (refine GX.csb ?_ ?_ <;> intro _)) | apply GX.skip | apply GX.block | apply GX.inBlock_normal | apply GX.exit | apply GX.then_exit | apply GX.inBlock_exit | refine GX.ibo ?_ | apply GX.ret | apply GX.then_ret | apply GX.inBlock_ret)
 all_goals first
  | (refine GX.o (cl (only_spec _ i _ _ _ _ _) fun _ => ?_)
     refine GX.wR ?_; intros
     refine rt1 () (vI ?_)
     unfold Bare names
     simp_all)
  | exact rt1 () (vN (by unfold Bare names; simp_all))
theorem call_spec (cs : List Value) (v : RtView) : Does Tryz.prog 160 [.agg cs.toArray] [Ag tyRtView cs v] []
  (fun _ : Unit => .bool (decide (CallOk v.t v.u v.i))) (fun _ => []) (fun _ => []) := by
 refine enter Tryz.func160 rfl Tryz.ntmps160 rfl fun b => ?_
 by_cases h1 : v.i.c < 0
 ·have e : ¬ CallOk v.t v.u v.i := by unfold CallOk; rw [gt_out (.inl h1)]; exact id
  refine GX.wR ?_; intros
  exact rt1 () (vN e)
 by_cases h2 : (v.t.units.length : Int) ≤ v.i.c
 ·have e : ¬ CallOk v.t v.u v.i := by unfold CallOk; rw [gt_out (.inr h2)]; exact id
  refine GX.wR ?_; intros
  exact rt1 () (vN e)
 obtain ⟨g, hg, k, hk, hkl, hg2⟩ := gt_in (l := v.t.units) (n := v.i.c) ⟨by omega, by omega⟩
 have e : CallOk v.t v.u v.i ↔ ((v.i.args.length : Int) = g.params ∧ g.params ≤ (g.vars.length : Int) ∧ (∀ p ∈ v.i.args.zip g.vars, Into p.2 (RtM.of v.u p.1))) ∧ (v.i.a = -1 ∨ Into (RtM.of v.u v.i.a) g.result) := by unfold CallOk; rw [hg]
 by_cases h3 : (v.i.args.length : Int) = g.params
 ·by_cases h4 : (g.vars.length : Int) < g.params
  ·refine GX.wR ?_; intros
   exact rt1 () (vN fun h => by have := (e.1 h).1.2.1; omega)
  ·refine GX.wR ?_; intros
   refine GX.nmP 1 ?_; rintro b1 rfl
   refine GX.nmP 3 ?_; rintro b3 rfl
   refine GX.nmP 4 ?_; rintro b4 rfl
   refine frzB b3 ?_
   refine frzB b4 ?_
   refine GX.nmS 43 ?_; rintro aA cA rfl rfl
   refine GX.loop (σ := Nat) (fun i => [(1, .pointer (some ⟨b1, 0, none⟩)), (3, .pointer (some ⟨b3, 0, none⟩)), (4, .pointer (some ⟨b4, 0, none⟩)), (43, .slice aA v.i.args.length cA), (44, .int .i64 (v.i.args.length : Int)), (45, .int .i64 (i : Int))]) (fun _ => []) (fun _ => [])
    (fun i => i ≤ v.i.args.length ∧ ∀ p ∈ (v.i.args.zip g.vars).take i, Into p.2 (RtM.of v.u p.1)) (fun i => v.i.args.length - i) 0 ⟨rfl, rfl, rfl, rfl, rfl, rfl, trivial⟩ ⟨by omega, by simp⟩ (fun i hi => ?_)
   obtain ⟨hi, hA⟩ := hi
   have hzl : (v.i.args.zip g.vars).length = v.i.args.length := by rw [List.length_zip]; omega
   by_cases hlt : i < v.i.args.length
   ·obtain ⟨a, ha⟩ := get_lt hlt
    obtain ⟨w, hw⟩ := get_lt (show i < g.vars.length by omega)
    have hz : (v.i.args.zip g.vars)[i]? = some (a, w) := by rw [List.getElem?_zip_eq_some]; exact ⟨ha, hw⟩
    refine GX.wR ?_; intros
    refine GX.drawn0  (fun j => !(List.contains [8] j)) [(0, true), (1, true), (2, true), (3, true), (4, true), (5, true), (6, true), (7, false), (8, false), (9, true)] rfl (by kernel_rfl) (by kernel_rfl) GX.sA ?_; intro wd F hW hR
    refine GX.wT ?_; intros
    refine GX.gow ?_
    refine (cl (of_spec _ v a) fun _ => ?_)
    refine GX.wT ?_; intros
    refine GX.gow ?_
    refine (cl (into_spec w _) fun _ => ?_)
    refine GX.wT ?_; intros
    by_cases h5 : Into w (RtM.of v.u a)
    ·have h5' := Classical.not_not.2 h5
     refine GX.wR ?_; intros
     refine again (i + 1) ⟨rfl, rfl, rfl, rfl, rfl, rfl, trivial⟩ ⟨by omega, fun p hp => ?_⟩ (by omega)
     rw [List.take_add_one, hz, List.mem_append] at hp
     rcases hp with hp | hp
     ·exact hA p hp
     ·simp at hp; subst hp; exact h5
    ·refine GX.wR ?_; intros
     exact rt1 () (vN fun h => h5 ((e.1 h).1.2.2 (a, w) (List.mem_of_getElem? hz)))
   ·rw [List.take_of_length_le (by omega)] at hA
    by_cases h5 : v.i.a = -1
    ·refine GX.wR ?_; intros
     refine GX.drawn0  (fun j => !(List.contains [10] j)) [(0, true), (1, true), (2, true), (3, true), (4, true), (5, true), (6, true), (8, true), (9, true), (7, false), (10, false), (11, true), (12, true)] rfl (by kernel_rfl) (by kernel_rfl) GX.sA ?_; intro wd F hW hR
     refine GX.wT ?_; intros
     refine GX.wR ?_; intros
     exact rt1 () (vY (e.2 ⟨⟨h3, by omega, hA⟩, .inl h5⟩))
    ·refine GX.wR ?_; intros
     refine GX.drawn0  (fun j => !(List.contains [10] j)) [(0, true), (1, true), (2, true), (3, true), (4, true), (5, true), (6, true), (8, true), (9, true), (7, false), (10, false), (11, true), (12, true)] rfl (by kernel_rfl) (by kernel_rfl) GX.sA ?_; intro wd F hW hR
     refine GX.wT ?_; intros
     refine GX.gow ?_
     refine (cl (of_spec _ v _) fun _ => ?_)
     refine GX.wT ?_; intros
     refine GX.gow ?_
     refine (cl (into_spec _ g.result) fun _ => ?_)
     refine GX.wT ?_; intros
     refine GX.wR ?_; intros
     exact rt1 () (vI (e.trans ⟨fun h => h.2.elim (fun h => absurd h h5) id, fun h => ⟨⟨h3, by omega, hA⟩, .inr h⟩⟩))
 ·refine GX.wR ?_; intros
  exact rt1 () (vN fun h => h3 (e.1 h).1.1)
theorem goes1_spec (bl : Nat) (v : RtView) (n : Int) : Does Tryz.prog 162 [.int .i64 n, .pointer (some ⟨bl, 0, none⟩)] [Pt tyRtView bl 0 v] [] (fun _ : Unit => .bool (decide (n ∈ v.u.owns))) (fun _ => []) (fun _ => []) := by
 refine enter Tryz.func162 rfl Tryz.ntmps162 rfl fun b => ?_
 refine GX.wR ?_; intros
 refine GX.nmS 6 ?_; rintro ao cap rfl rfl
 refine GX.o (cl (contains_spec ao cap v.u.owns n) fun _ => ?_)
 refine GX.wR ?_; intros
 exact rt1 () rfl
end Go.Proofs.YtomadjefdghliaaGreat
