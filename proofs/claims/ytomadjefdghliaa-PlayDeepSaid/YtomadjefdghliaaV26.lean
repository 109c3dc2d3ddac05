import Derived.Test.YtomadjefdghliaaV18
import Derived.Test.YtomadjefdghliaaV25
/- Call and return, in the form of all operations. -/
namespace Go.Proofs.Ytomadjefdghliaa
open Go Go.RR Go.RX Go.GX Go.Api Go.RtM
attribute [local irreducible] wpList Code.wp wpPlan Exit.then Exit.inBlock bodyPost NoPanic Went GX.Post GX.Again GX.Meet GX.RowR GX.Own GX.Owns GX.Box GX.Sl GX.Pt GX.Ag GX.MapR GX.Star GX.Kept GX.Pin wpT GoK AtEnd Both
section
variable {t : RTg} {p : Nat} {k : MK} {cs : List Value} {i : Ins} {v : MV} {x : FrC} {xs : List FrC} {f : Fr} {r : List Fr} {c : TabC} {M : Ms}
theorem ownsN_le {t : RTg} (h : Tame30 t) (f : Fr) : ownsN t f ≤ 1000 := by
  unfold ownsN
  cases hg : gt t.units f.u with
  | none => exact Nat.zero_le _
  | some u => exact h.owns u (gt_mem hg)
theorem bound_le {t : RTg} (h : Tame30 t) : ∀ fs : List Fr, 1 ≤ bound t fs ∧ bound t fs ≤ 1 + 1000 * fs.length
  | [] => ⟨by unfold bound; simp, by unfold bound; simp⟩
  | f :: fs => by
    have h1 := bound_le h fs
    have h2 := ownsN_le h f
    unfold bound at h1 ⊢
    rw [List.map_cons, List.sum_cons, List.length_cons]
    omega
theorem bound_cons (t : RTg) (f : Fr) (fs : List Fr) : bound t (f :: fs) = bound t fs + ownsN t f := by
  unfold bound
  rw [List.map_cons, List.sum_cons]
  omega
theorem Pre.bd {u : Unt} (h : Pre t v x xs f r c M i u) (hT : Tame30 t) : -1000000000 ≤ v.bound ∧ v.bound ≤ 1000000000 := by
  have h1 : v.bound = bound t M.fs := h.hI.bd
  have h2 := bound_le hT M.fs
  have h3 := h.deep
  omega
theorem op13 {u : Unt} (hR : RightP t) (hT : Tame30 t) (h : Pre t v x xs f r c M i u) (ho : i.op = 13) : OpOk t p k cs i v x xs f r c M (M.go t (glob t) f i) 37 := by
  rw [go13 ho]
  have hlen : M.fs.length = (adrs xs).length + 1 := by
    have h1 := h.hI.fr.len
    rw [adrs_len]
    simpa using h1.symm
  have hnb := h.nb
  by_cases hd : 40 ≤ M.fs.length
  · have hc := call_deep t p k v (adrs xs) x f i cs h.nf (by omega) (by omega)
    rw [show M.call t (glob t) f i = M.trap 6 from if_pos hd]
    obtain ⟨h0, _⟩ | ⟨h0, e, d, e1, e2⟩ := trapV_cases v 6
    · omega
    rw [e1] at hc
    rw [e2]
    exact op_keep hc (fun _ => { v with en := e, code := d }) (fun _ => x) f (fun _ => c) M.inp M.out M.gl (fun _ => h.ends h.hI.tab e d) h.fs rfl rfl rfl
  obtain ⟨g, hg, _, hal, hargs, hia, _⟩ := call_v (h.hi.call ho)
  obtain ⟨j, hj, _, hjg⟩ := gt_some hg
  have hgm : g ∈ t.units := gt_mem hg
  have hgv : g.vars.length ≤ 4000 := (right_unit hR hgm).1.1.2.2.2
  cases hm : takeR (glob t) M.tb.B f g.takes (fun _ => 0) with
  | none =>
    have hc := call_no t p k v (adrs xs) x f i cs j g hjg hj (by omega) (by omega) c M.tb h.hI.tab h.hl.2 hm h.nf (by omega) h.hl.1
    have e : M.call t (glob t) f i = M.ends 4 0 := by unfold Ms.call; rw [if_neg hd, hg]; dsimp only; rw [hm]
    rw [e]
    exact op_keep hc (fun _ => { v with en := 4, code := 0 }) (fun _ => x) f (fun _ => c) M.inp M.out M.gl (fun _ => h.ends h.hI.tab 4 0) h.fs rfl rfl rfl
  | some m =>
    have hc := call_yes t p k v (adrs xs) x f i cs j g hjg hj (by omega) (by omega) c M.tb h.hI.tab h.hl.2 m hm h.nf (by omega) h.hl.1 (fun n hn => vok h.hv (hargs n hn)) hal (h.bd hT) (by have := hT.owns g hgm; omega)
    have e : M.call t (glob t) f i = { M with fs := ⟨i.c, 0, argsV f i g.vars.length, i.a, m⟩ :: M.fs } := by unfold Ms.call; rw [if_neg hd, hg]; dsimp only; rw [hm]
    rw [e]
    refine Does.fitT hc (fun s => ⟨⟨{ v with af := s.1.1.1, nf := (adrs xs).length + 2, cf := s.1.1.2, bound := v.bound + g.owns.length }, ⟨s.1.2.1.1, s.1.2.1.2.1, g.vars.length, s.1.2.1.2.2, s.1.2.2⟩ :: x :: xs, c⟩, ?_⟩) (by ((repeat (first | apply Go.GX.AllIn.nil | apply Go.GX.AllIn.cons | (with_reducible apply Go.GX.InP.head) | apply Go.GX.InP.tail)); done)) (by first | ((repeat (first | apply Go.GX.SelR.nil | apply Go.GX.SelR.cons | (with_reducible apply Go.GX.TakeR.head) | apply Go.GX.TakeR.tail)); done) | (repeat (first | apply Go.GX.SelR.nil | apply Go.GX.SelR.cons | apply Go.GX.TakeR.head | apply Go.GX.TakeR.tail))) (fun _ => rfl) (fun s => ?_) (fun s => ?_)
    · refine ⟨h.hI.tab, ?_, ⟨⟨argsV_len _ _ _ hal, s.2⟩, h.hI.fr⟩, h.hI.en, h.hI.code, h.hI.steps, h.hI.slack, h.hI.no, h.hI.ni, ?_⟩
      · show (adrs xs).length + 2 = xs.length + 1 + 1
        rw [adrs_len]
      · show v.bound + (g.owns.length : Int) = bound t (_ :: M.fs)
        rw [bound_cons, show v.bound = bound t M.fs from h.hI.bd]
        unfold ownsN
        dsimp only
        rw [hg]
    · ((repeat (first | apply Go.GX.AllIn.nil | apply Go.GX.AllIn.cons | (with_reducible apply Go.GX.InP.head) | apply Go.GX.InP.tail)); done)
    · dsimp only
      rw [h.fs]
      refine Turn.trans ?_ (toMCH (t := t) (p := p) (k := k) (v := { v with af := s.1.1.1, nf := (adrs xs).length + 2, cf := s.1.1.2, bound := v.bound + g.owns.length }) (c := c) (O := M.out) (L := M.gl) (x := ⟨s.1.2.1.1, s.1.2.1.2.1, g.vars.length, s.1.2.1.2.2, s.1.2.2⟩) (xs := x :: xs) (f := ⟨i.c, 0, argsV f i g.vars.length, i.a, m⟩) (r := f :: r))
      rw [show frs (x :: xs) (f :: r) = [RowR x.bl 76 [.int .i64 f.u, .int .i64 f.pc, .slice (some ⟨x.vb, 0, none⟩) x.n x.n, .int .i64 f.into, .map (some x.mb)], GX.Own 3 Ty.int (some ⟨x.vb, 0, none⟩) x.n f.vars, GX.MapR x.mb x.mp] ++ frs xs r from rfl, show adrs (x :: xs) = adrs xs ++ [some ⟨x.bl, 0, none⟩] from rfl]
      exact (Turn.sel (hp2 := [RowR x.bl 76 [.int .i64 f.u, .int .i64 f.pc, .slice (some ⟨x.vb, 0, none⟩) x.n x.n, .int .i64 f.into, .map (some x.mb)], GX.Own 3 Ty.int (some ⟨x.vb, 0, none⟩) x.n f.vars, GX.MapR x.mb x.mp] ++ (GX.Star (frs xs r) :: [RowR p 51 [.slice k.aC t.classes.length k.cC, .slice k.aG t.globals.length k.cG, .slice k.aU t.units.length k.cU, .int .i64 t.main, .slice k.aL (glob t).length k.cL, .pointer (some ⟨k.tp, 0, none⟩), .int .i64 1, .slice ({ v with af := s.1.1.1, nf := (adrs xs).length + 2, cf := s.1.1.2, bound := v.bound + g.owns.length } : MV).ai ({ v with af := s.1.1.1, nf := (adrs xs).length + 2, cf := s.1.1.2, bound := v.bound + g.owns.length } : MV).ni ({ v with af := s.1.1.1, nf := (adrs xs).length + 2, cf := s.1.1.2, bound := v.bound + g.owns.length } : MV).ci, .slice (some ⟨k.gb, 0, none⟩) t.globals.length t.globals.length, .slice ({ v with af := s.1.1.1, nf := (adrs xs).length + 2, cf := s.1.1.2, bound := v.bound + g.owns.length } : MV).af ({ v with af := s.1.1.1, nf := (adrs xs).length + 2, cf := s.1.1.2, bound := v.bound + g.owns.length } : MV).nf ({ v with af := s.1.1.1, nf := (adrs xs).length + 2, cf := s.1.1.2, bound := v.bound + g.owns.length } : MV).cf, .int .i64 ({ v with af := s.1.1.1, nf := (adrs xs).length + 2, cf := s.1.1.2, bound := v.bound + g.owns.length } : MV).bound, .map (some k.om), .int .i64 ({ v with af := s.1.1.1, nf := (adrs xs).length + 2, cf := s.1.1.2, bound := v.bound + g.owns.length } : MV).en, .int .i64 ({ v with af := s.1.1.1, nf := (adrs xs).length + 2, cf := s.1.1.2, bound := v.bound + g.owns.length } : MV).code, .slice ({ v with af := s.1.1.1, nf := (adrs xs).length + 2, cf := s.1.1.2, bound := v.bound + g.owns.length } : MV).ao ({ v with af := s.1.1.1, nf := (adrs xs).length + 2, cf := s.1.1.2, bound := v.bound + g.owns.length } : MV).no ({ v with af := s.1.1.1, nf := (adrs xs).length + 2, cf := s.1.1.2, bound := v.bound + g.owns.length } : MV).co, .int .i64 ({ v with af := s.1.1.1, nf := (adrs xs).length + 2, cf := s.1.1.2, bound := v.bound + g.owns.length } : MV).steps, .int .i64 0, .int .i64 0, .int .i64 0, .int .i64 0, .int .i64 ({ v with af := s.1.1.1, nf := (adrs xs).length + 2, cf := s.1.1.2, bound := v.bound + g.owns.length } : MV).slack, .int .i64 0], GX.Own 54 Ty.ptr s.1.1.1 s.1.1.2 (adrs xs ++ [some ⟨x.bl, 0, none⟩] ++ [some ⟨s.1.2.1.1, 0, none⟩]), RowR s.1.2.1.1 76 [.int .i64 i.c, .int .i64 0, .slice (some ⟨s.1.2.1.2.1, 0, none⟩) g.vars.length g.vars.length, .int .i64 i.a, .map (some s.1.2.1.2.2)], GX.Own 3 Ty.int (some ⟨s.1.2.1.2.1, 0, none⟩) g.vars.length (argsV f i g.vars.length), GX.MapR s.1.2.1.2.2 s.1.2.2, RowR k.tp 69 [.slice c.aR c.R.length c.cR, .slice c.aL c.L.length c.cL, .int .i64 c.gone, .int .i64 c.peak, .int .i64 c.many, .int .i64 c.most], GX.Own 73 tyRegion c.aR c.cR c.R, GX.Own 116 tyThing c.aL c.cL (c.L.map thg), Owns 3 Ty.int (c.L.map (fun x : Th => x.2)), GX.Own 3 Ty.int v.ao v.co M.out, GX.Own 3 Ty.int (some ⟨k.gb, 0, none⟩) t.globals.length M.gl, GX.MapR k.om opsF])) (by first | ((repeat (first | apply Go.GX.SelR.nil | apply Go.GX.SelR.cons | (with_reducible apply Go.GX.TakeR.head) | apply Go.GX.TakeR.tail)); done) | (repeat (first | apply Go.GX.SelR.nil | apply Go.GX.SelR.cons | apply Go.GX.TakeR.head | apply Go.GX.TakeR.tail)))).trans (Turn.starI.trans (Turn.sel (by first | ((repeat (first | apply Go.GX.SelR.nil | apply Go.GX.SelR.cons | (with_reducible apply Go.GX.TakeR.head) | apply Go.GX.TakeR.tail)); done) | (repeat (first | apply Go.GX.SelR.nil | apply Go.GX.SelR.cons | apply Go.GX.TakeR.head | apply Go.GX.TakeR.tail)))))
theorem op18 {u : Unt} (hT : Tame30 t) (hu : gt t.units f.u = some u) (h : Pre t v x xs f r c M i u) (ho : i.op = 18) : OpOk t p k cs i v x xs f r c M (M.go t (glob t) f i) 42 := by
  rw [go18 ho]
  obtain ⟨j, hj, _, hjg⟩ := gt_some hu
  have hum : u ∈ t.units := gt_mem hu
  have hia : i.a = -1 ∨ Vok f i.a := (h.hi.ret ho).imp id (vok h.hv)
  have hol : u.owns.length ≤ 1000000000 := by have := hT.owns u hum; omega
  have hown : ownsN t f = u.owns.length := by unfold ownsN; rw [hu]
  have hfr := h.hI.fr
  have hbd : v.bound = bound t M.fs := h.hI.bd
  have hnf := h.nf
  have hnb := h.nb
  have hl := h.hl
  have hinto := h.into
  have hfs := h.fs
  rw [h.fs] at hfr
  cases r with
  | nil =>
    cases xs with
    | cons y xs => exact absurd hfr.2 (by simp [FrsAt])
    | nil =>
      have hc := ret_last t p k v x f i cs j u hjg hj hnf hl.1 hia (h.bd hT) hol
      have e : M.ret f i = ({ M with fs := [] } : Ms).ends 1 0 := by unfold Ms.ret; rw [hfs]; rfl
      rw [e]
      refine Does.fitT hc (fun s => ⟨⟨{ v with nf := 0, bound := v.bound - u.owns.length, en := 1, code := 0 }, [], c⟩, ?_⟩) (by ((repeat (first | apply Go.GX.AllIn.nil | apply Go.GX.AllIn.cons | (with_reducible apply Go.GX.InP.head) | apply Go.GX.InP.tail)); done)) (by first | ((repeat (first | apply Go.GX.SelR.nil | apply Go.GX.SelR.cons | (with_reducible apply Go.GX.TakeR.head) | apply Go.GX.TakeR.tail)); done) | (repeat (first | apply Go.GX.SelR.nil | apply Go.GX.SelR.cons | apply Go.GX.TakeR.head | apply Go.GX.TakeR.tail))) (fun _ => rfl) (fun s => ?_) (fun s => ?_)
      · refine ⟨h.hI.tab, rfl, trivial, rfl, rfl, h.hI.steps, h.hI.slack, h.hI.no, h.hI.ni, ?_⟩
        show v.bound - (u.owns.length : Int) = bound t []
        rw [hbd, hfs, bound_cons, hown]
        omega
      · rw [List.nil_append]
        show AllIn [Sl Ty.int v.ai v.ci M.inp] _
        ((repeat (first | apply Go.GX.AllIn.nil | apply Go.GX.AllIn.cons | (with_reducible apply Go.GX.InP.head) | apply Go.GX.InP.tail)); done)
      · dsimp only
        exact Turn.sel (by first | ((repeat (first | apply Go.GX.SelR.nil | apply Go.GX.SelR.cons | (with_reducible apply Go.GX.TakeR.head) | apply Go.GX.TakeR.tail)); done) | (repeat (first | apply Go.GX.SelR.nil | apply Go.GX.SelR.cons | apply Go.GX.TakeR.head | apply Go.GX.TakeR.tail)))
  | cons hh r =>
    cases xs with
    | nil => exact absurd hfr.2 (by simp [FrsAt])
    | cons y xs =>
      have hy := hfr.2.1
      have hin : f.into = -1 ∨ Vok hh f.into := hinto.imp id fun q => q hh r rfl
      have hc := ret_more t p k v (adrs xs) y hh x f i cs j u hjg hj (by rw [hnf]; show (adrs xs ++ _).length + 1 = _; rw [List.length_append]; rfl) (by have : (adrs xs ++ [some (⟨y.bl, 0, none⟩ : Addr)]).length ≤ 900 := hnb; rw [List.length_append] at this; omega) hy.1 hin hl.1 hia (h.bd hT) hol
      have e : M.ret f i = { M with fs := (if 0 ≤ f.into then { hh with vars := setv hh.vars f.into (if 0 ≤ i.a then lkv f.vars i.a else 0) } else hh) :: r } := by unfold Ms.ret; rw [hfs]; rfl
      rw [e]
      obtain ⟨h', hh'⟩ : ∃ h' : Fr, h' = { hh with vars := if 0 ≤ f.into then setv hh.vars f.into (if 0 ≤ i.a then lkv f.vars i.a else 0) else hh.vars } := ⟨_, rfl⟩
      have e2 : (if 0 ≤ f.into then ({ hh with vars := setv hh.vars f.into (if 0 ≤ i.a then lkv f.vars i.a else 0) } : Fr) else hh) = h' := by
        rw [hh']
        split <;> rfl
      have hvl : h'.vars.length = hh.vars.length := by
        rw [hh']
        dsimp only
        split
        · exact setv_len _ _ _
        · rfl
      rw [e2]
      refine Does.fitU (rest := [GX.MapR x.mb x.mp, GX.MapR y.mb y.mp, GX.Star (frs xs r), RowR k.tp 69 [.slice c.aR c.R.length c.cR, .slice c.aL c.L.length c.cL, .int .i64 c.gone, .int .i64 c.peak, .int .i64 c.many, .int .i64 c.most], GX.Own 73 tyRegion c.aR c.cR c.R, GX.Own 116 tyThing c.aL c.cL (c.L.map thg), Owns 3 Ty.int (c.L.map (fun x : Th => x.2)), GX.Own 3 Ty.int v.ao v.co M.out, GX.Own 3 Ty.int (some ⟨k.gb, 0, none⟩) t.globals.length M.gl, GX.MapR k.om opsF]) hc (fun s => ⟨⟨{ v with nf := (adrs xs).length + 1, bound := v.bound - u.owns.length }, y :: xs, c⟩, ?_⟩) (by ((repeat (first | apply Go.GX.AllIn.nil | apply Go.GX.AllIn.cons | (with_reducible apply Go.GX.InP.head) | apply Go.GX.InP.tail)); done)) ?_ (fun _ => rfl) (fun s => ?_) (fun s => ?_)
      · refine ⟨h.hI.tab, ?_, ⟨⟨hvl.trans hy.1, ?_⟩, hfr.2.2⟩, h.hI.en, h.hI.code, h.hI.steps, h.hI.slack, h.hI.no, h.hI.ni, ?_⟩
        · show (adrs xs).length + 1 = xs.length + 1
          rw [adrs_len]
        · rw [hh']; exact hy.2
        · show v.bound - (u.owns.length : Int) = bound t (h' :: r)
          rw [hbd, hfs, bound_cons, hown, bound_cons, bound_cons, show ownsN t h' = ownsN t hh by unfold ownsN; rw [hh']]
          omega
      · rw [show frs (y :: xs) (hh :: r) = [RowR y.bl 76 [.int .i64 hh.u, .int .i64 hh.pc, .slice (some ⟨y.vb, 0, none⟩) y.n y.n, .int .i64 hh.into, .map (some y.mb)], GX.Own 3 Ty.int (some ⟨y.vb, 0, none⟩) y.n hh.vars, GX.MapR y.mb y.mp] ++ frs xs r from rfl, show adrs (y :: xs) = adrs xs ++ [some ⟨y.bl, 0, none⟩] from rfl]
        refine (Turn.sel (hp2 := GX.Star ([RowR y.bl 76 [.int .i64 hh.u, .int .i64 hh.pc, .slice (some ⟨y.vb, 0, none⟩) y.n y.n, .int .i64 hh.into, .map (some y.mb)], GX.Own 3 Ty.int (some ⟨y.vb, 0, none⟩) y.n hh.vars, GX.MapR y.mb y.mp] ++ frs xs r) :: [RowR p 51 [.slice k.aC t.classes.length k.cC, .slice k.aG t.globals.length k.cG, .slice k.aU t.units.length k.cU, .int .i64 t.main, .slice k.aL (glob t).length k.cL, .pointer (some ⟨k.tp, 0, none⟩), .int .i64 1, .slice v.ai v.ni v.ci, .slice (some ⟨k.gb, 0, none⟩) t.globals.length t.globals.length, .slice v.af v.nf v.cf, .int .i64 v.bound, .map (some k.om), .int .i64 v.en, .int .i64 v.code, .slice v.ao v.no v.co, .int .i64 v.steps, .int .i64 0, .int .i64 0, .int .i64 0, .int .i64 0, .int .i64 v.slack, .int .i64 0], GX.Own 54 Ty.ptr v.af v.cf (adrs xs ++ [some ⟨y.bl, 0, none⟩] ++ [some ⟨x.bl, 0, none⟩]), RowR x.bl 76 [.int .i64 f.u, .int .i64 f.pc, .slice (some ⟨x.vb, 0, none⟩) x.n x.n, .int .i64 f.into, .map (some x.mb)], GX.Own 3 Ty.int (some ⟨x.vb, 0, none⟩) x.n f.vars, GX.MapR x.mb x.mp, RowR k.tp 69 [.slice c.aR c.R.length c.cR, .slice c.aL c.L.length c.cL, .int .i64 c.gone, .int .i64 c.peak, .int .i64 c.many, .int .i64 c.most], GX.Own 73 tyRegion c.aR c.cR c.R, GX.Own 116 tyThing c.aL c.cL (c.L.map thg), Owns 3 Ty.int (c.L.map (fun x : Th => x.2)), GX.Own 3 Ty.int v.ao v.co M.out, GX.Own 3 Ty.int (some ⟨k.gb, 0, none⟩) t.globals.length M.gl, GX.MapR k.om opsF]) (by first | ((repeat (first | apply Go.GX.SelR.nil | apply Go.GX.SelR.cons | (with_reducible apply Go.GX.TakeR.head) | apply Go.GX.TakeR.tail)); done) | (repeat (first | apply Go.GX.SelR.nil | apply Go.GX.SelR.cons | apply Go.GX.TakeR.head | apply Go.GX.TakeR.tail)))).trans (Turn.starO.trans (Turn.sel (by first | ((repeat (first | apply Go.GX.SelR.nil | apply Go.GX.SelR.cons | (with_reducible apply Go.GX.TakeR.head) | apply Go.GX.TakeR.tail)); done) | (repeat (first | apply Go.GX.SelR.nil | apply Go.GX.SelR.cons | apply Go.GX.TakeR.head | apply Go.GX.TakeR.tail)))))
      · rw [List.nil_append]
        ((repeat (first | apply Go.GX.AllIn.nil | apply Go.GX.AllIn.cons | (with_reducible apply Go.GX.InP.head) | apply Go.GX.InP.tail)); done)
      · dsimp only
        have e3 : GX.Own 3 Ty.int (some ⟨y.vb, 0, none⟩) y.n (if 0 ≤ f.into then setv hh.vars f.into (if 0 ≤ i.a then lkv f.vars i.a else 0) else hh.vars) = GX.Own 3 Ty.int (some ⟨y.vb, 0, none⟩) y.n h'.vars := by rw [hh']
        have e4 : RowR y.bl 76 [.int .i64 hh.u, .int .i64 hh.pc, .slice (some ⟨y.vb, 0, none⟩) y.n y.n, .int .i64 hh.into, .map (some y.mb)] = RowR y.bl 76 [.int .i64 h'.u, .int .i64 h'.pc, .slice (some ⟨y.vb, 0, none⟩) y.n y.n, .int .i64 h'.into, .map (some y.mb)] := by rw [hh']
        rw [e3, e4]
        exact (Turn.sel (hp2 := [RowR p 51 [.slice k.aC t.classes.length k.cC, .slice k.aG t.globals.length k.cG, .slice k.aU t.units.length k.cU, .int .i64 t.main, .slice k.aL (glob t).length k.cL, .pointer (some ⟨k.tp, 0, none⟩), .int .i64 1, .slice ({ v with nf := (adrs xs).length + 1, bound := v.bound - u.owns.length } : MV).ai ({ v with nf := (adrs xs).length + 1, bound := v.bound - u.owns.length } : MV).ni ({ v with nf := (adrs xs).length + 1, bound := v.bound - u.owns.length } : MV).ci, .slice (some ⟨k.gb, 0, none⟩) t.globals.length t.globals.length, .slice ({ v with nf := (adrs xs).length + 1, bound := v.bound - u.owns.length } : MV).af ({ v with nf := (adrs xs).length + 1, bound := v.bound - u.owns.length } : MV).nf ({ v with nf := (adrs xs).length + 1, bound := v.bound - u.owns.length } : MV).cf, .int .i64 ({ v with nf := (adrs xs).length + 1, bound := v.bound - u.owns.length } : MV).bound, .map (some k.om), .int .i64 ({ v with nf := (adrs xs).length + 1, bound := v.bound - u.owns.length } : MV).en, .int .i64 ({ v with nf := (adrs xs).length + 1, bound := v.bound - u.owns.length } : MV).code, .slice ({ v with nf := (adrs xs).length + 1, bound := v.bound - u.owns.length } : MV).ao ({ v with nf := (adrs xs).length + 1, bound := v.bound - u.owns.length } : MV).no ({ v with nf := (adrs xs).length + 1, bound := v.bound - u.owns.length } : MV).co, .int .i64 ({ v with nf := (adrs xs).length + 1, bound := v.bound - u.owns.length } : MV).steps, .int .i64 0, .int .i64 0, .int .i64 0, .int .i64 0, .int .i64 ({ v with nf := (adrs xs).length + 1, bound := v.bound - u.owns.length } : MV).slack, .int .i64 0], GX.Own 54 Ty.ptr ({ v with nf := (adrs xs).length + 1, bound := v.bound - u.owns.length } : MV).af ({ v with nf := (adrs xs).length + 1, bound := v.bound - u.owns.length } : MV).cf ((adrs xs) ++ [some ⟨y.bl, 0, none⟩]), RowR y.bl 76 [.int .i64 h'.u, .int .i64 h'.pc, .slice (some ⟨y.vb, 0, none⟩) y.n y.n, .int .i64 h'.into, .map (some y.mb)], GX.Own 3 Ty.int (some ⟨y.vb, 0, none⟩) y.n h'.vars, GX.MapR y.mb y.mp, GX.Star (frs xs r), RowR k.tp 69 [.slice c.aR c.R.length c.cR, .slice c.aL c.L.length c.cL, .int .i64 c.gone, .int .i64 c.peak, .int .i64 c.many, .int .i64 c.most], GX.Own 73 tyRegion c.aR c.cR c.R, GX.Own 116 tyThing c.aL c.cL (c.L.map thg), Owns 3 Ty.int (c.L.map (fun x : Th => x.2)), GX.Own 3 Ty.int ({ v with nf := (adrs xs).length + 1, bound := v.bound - u.owns.length } : MV).ao ({ v with nf := (adrs xs).length + 1, bound := v.bound - u.owns.length } : MV).co M.out, GX.Own 3 Ty.int (some ⟨k.gb, 0, none⟩) t.globals.length M.gl, GX.MapR k.om opsF]) (by first | ((repeat (first | apply Go.GX.SelR.nil | apply Go.GX.SelR.cons | (with_reducible apply Go.GX.TakeR.head) | apply Go.GX.TakeR.tail)); done) | (repeat (first | apply Go.GX.SelR.nil | apply Go.GX.SelR.cons | apply Go.GX.TakeR.head | apply Go.GX.TakeR.tail)))).trans toMCH
end
end Go.Proofs.Ytomadjefdghliaa

/- The walk over play's goOn. -/
namespace Go.Proofs.Ytomadjefdghliaa
open Go Go.RR Go.RX Go.GX Go.Api Go.RtM
attribute [local irreducible] wpList Code.wp wpPlan Exit.then Exit.inBlock bodyPost NoPanic Went GX.Post GX.Again GX.Meet GX.RowR GX.Own GX.Owns GX.Box GX.Sl GX.Pt GX.Ag GX.MapR GX.Star GX.Kept GX.Pin wpT GoK AtEnd Both
theorem op_all {t : RTg} {p : Nat} {k : MK} {i : Ins} {v : MV} {x : FrC} {xs : List FrC} {f : Fr} {r : List Fr} {c : TabC} {M : Ms} {u : Unt} (hR : RightP t) (hT : Tame30 t) (hu : gt t.units f.u = some u) (h : Pre t v x xs f r c M i u) :
    ∃ fid : FuncId, UFunc Try.prog fid ∧ (opsF i.op).getD .nilFunc = fnV fid ∧ ∀ cs, OpOk t p k cs i v x xs f r c M (M.go t (glob t) f i) fid := by
  obtain ⟨h1, h2⟩ := h.hi.op
  obtain ho | ho | ho | ho | ho | ho | ho | ho | ho | ho | ho | ho | ho | ho | ho | ho | ho | ho | ho | ho | ho | ho : i.op = 1 ∨ i.op = 2 ∨ i.op = 3 ∨ i.op = 4 ∨ i.op = 5 ∨ i.op = 6 ∨ i.op = 7 ∨ i.op = 8 ∨ i.op = 9 ∨ i.op = 10 ∨ i.op = 11 ∨ i.op = 12 ∨ i.op = 13 ∨ i.op = 14 ∨ i.op = 15 ∨ i.op = 16 ∨ i.op = 17 ∨ i.op = 18 ∨ i.op = 19 ∨ i.op = 20 ∨ i.op = 21 ∨ i.op = 22 := by omega
  · exact ⟨_, inferInstance, by rw [ho]; rfl, fun _ => op1 h ho⟩
  · exact ⟨_, inferInstance, by rw [ho]; rfl, fun _ => op2 h ho⟩
  · exact ⟨_, inferInstance, by rw [ho]; rfl, fun _ => op3 h ho⟩
  · exact ⟨_, inferInstance, by rw [ho]; rfl, fun _ => op4 h ho⟩
  · exact ⟨_, inferInstance, by rw [ho]; rfl, fun _ => op5 h ho⟩
  · exact ⟨_, inferInstance, by rw [ho]; rfl, fun _ => op6 h ho⟩
  · exact ⟨_, inferInstance, by rw [ho]; rfl, fun _ => op7 h ho⟩
  · exact ⟨_, inferInstance, by rw [ho]; rfl, fun _ => op8 h ho⟩
  · exact ⟨_, inferInstance, by rw [ho]; rfl, fun _ => op9 h ho⟩
  · exact ⟨_, inferInstance, by rw [ho]; rfl, fun _ => op10 h ho⟩
  · exact ⟨_, inferInstance, by rw [ho]; rfl, fun _ => op11 h ho⟩
  · exact ⟨_, inferInstance, by rw [ho]; rfl, fun _ => op12 h ho⟩
  · exact ⟨_, inferInstance, by rw [ho]; rfl, fun _ => op13 hR hT h ho⟩
  · exact ⟨_, inferInstance, by rw [ho]; rfl, fun _ => op14 h ho⟩
  · exact ⟨_, inferInstance, by rw [ho]; rfl, fun _ => op15 h ho⟩
  · exact ⟨_, inferInstance, by rw [ho]; rfl, fun _ => op16 h ho⟩
  · exact ⟨_, inferInstance, by rw [ho]; rfl, fun _ => op17 h ho⟩
  · exact ⟨_, inferInstance, by rw [ho]; rfl, fun _ => op18 hT hu h ho⟩
  · exact ⟨_, inferInstance, by rw [ho]; rfl, fun _ => op19 h ho⟩
  · exact ⟨_, inferInstance, by rw [ho]; rfl, fun _ => op20 h ho⟩
  · exact ⟨_, inferInstance, by rw [ho]; rfl, fun _ => op21 h ho⟩
  · exact ⟨_, inferInstance, by rw [ho]; rfl, fun _ => op22 h ho⟩
instance uzF : UZero Try.prog 70 .nilFunc := ⟨Try.zeroValue70⟩
structure GoSt where
  S : PS
  M : Ms
theorem goOn_spec (t : RTg) (p : Nat) (k : MK) (hRt : RightP t) (hT : Tame30 t) (fuel : Int) (hf : fuel ≤ 100000) (S0 : PS) (M0 : Ms) (hI0 : MInv t S0 M0) (hok0 : MsOk t M0) (hb0 : Bnd M0) (n0 : Nat) (hn0 : M0.steps + n0 = fuel) :
    Does Try.prog 15 [.pointer (some ⟨p, 0, none⟩), .int .i64 fuel] [Sl Ty.int k.aL k.cL (glob t), Sl tyLayout k.aC k.cC t.classes, Sl tyUnt k.aU k.cU t.units, Sl Ty.int S0.v.ai S0.v.ci M0.inp] [RowR p 51 [.slice k.aC t.classes.length k.cC, .slice k.aG t.globals.length k.cG, .slice k.aU t.units.length k.cU, .int .i64 t.main, .slice k.aL (glob t).length k.cL, .pointer (some ⟨k.tp, 0, none⟩), .int .i64 1, .slice S0.v.ai S0.v.ni S0.v.ci, .slice (some ⟨k.gb, 0, none⟩) t.globals.length t.globals.length, .slice S0.v.af S0.v.nf S0.v.cf, .int .i64 S0.v.bound, .map (some k.om), .int .i64 S0.v.en, .int .i64 S0.v.code, .slice S0.v.ao S0.v.no S0.v.co, .int .i64 S0.v.steps, .int .i64 0, .int .i64 0, .int .i64 0, .int .i64 0, .int .i64 S0.v.slack, .int .i64 0], GX.Own 54 Ty.ptr S0.v.af S0.v.cf (adrs S0.xs), GX.Star (frs S0.xs M0.fs), RowR k.tp 69 [.slice S0.c.aR S0.c.R.length S0.c.cR, .slice S0.c.aL S0.c.L.length S0.c.cL, .int .i64 S0.c.gone, .int .i64 S0.c.peak, .int .i64 S0.c.many, .int .i64 S0.c.most], GX.Own 73 tyRegion S0.c.aR S0.c.cR S0.c.R, GX.Own 116 tyThing S0.c.aL S0.c.cL (S0.c.L.map thg), Owns 3 Ty.int (S0.c.L.map (fun x : Th => x.2)), GX.Own 3 Ty.int S0.v.ao S0.v.co M0.out, GX.Own 3 Ty.int (some ⟨k.gb, 0, none⟩) t.globals.length M0.gl, GX.MapR k.om opsF] (fun _ : { S : PS // MInv t S (runM t (glob t) n0 M0) ∧ MsOk t (runM t (glob t) n0 M0) ∧ Bnd (runM t (glob t) n0 M0) ∧ (runM t (glob t) n0 M0).steps ≤ fuel } => .tuple #[]) (fun _ => [])
      (fun s => [RowR p 51 [.slice k.aC t.classes.length k.cC, .slice k.aG t.globals.length k.cG, .slice k.aU t.units.length k.cU, .int .i64 t.main, .slice k.aL (glob t).length k.cL, .pointer (some ⟨k.tp, 0, none⟩), .int .i64 1, .slice s.1.v.ai s.1.v.ni s.1.v.ci, .slice (some ⟨k.gb, 0, none⟩) t.globals.length t.globals.length, .slice s.1.v.af s.1.v.nf s.1.v.cf, .int .i64 s.1.v.bound, .map (some k.om), .int .i64 s.1.v.en, .int .i64 s.1.v.code, .slice s.1.v.ao s.1.v.no s.1.v.co, .int .i64 s.1.v.steps, .int .i64 0, .int .i64 0, .int .i64 0, .int .i64 0, .int .i64 s.1.v.slack, .int .i64 0], GX.Own 54 Ty.ptr s.1.v.af s.1.v.cf (adrs s.1.xs), GX.Star (frs s.1.xs (runM t (glob t) n0 M0).fs), RowR k.tp 69 [.slice s.1.c.aR s.1.c.R.length s.1.c.cR, .slice s.1.c.aL s.1.c.L.length s.1.c.cL, .int .i64 s.1.c.gone, .int .i64 s.1.c.peak, .int .i64 s.1.c.many, .int .i64 s.1.c.most], GX.Own 73 tyRegion s.1.c.aR s.1.c.cR s.1.c.R, GX.Own 116 tyThing s.1.c.aL s.1.c.cL (s.1.c.L.map thg), Owns 3 Ty.int (s.1.c.L.map (fun x : Th => x.2)), GX.Own 3 Ty.int s.1.v.ao s.1.v.co (runM t (glob t) n0 M0).out, GX.Own 3 Ty.int (some ⟨k.gb, 0, none⟩) t.globals.length (runM t (glob t) n0 M0).gl, GX.MapR k.om opsF]) := by
  refine enter Try.func15 rfl Try.ntmps15 rfl fun _ => ?_
  refine GX.wp_R ?_; intros
  refine GX.loop (σ := GoSt) (fun _ => [(0, .pointer (some ⟨p, 0, none⟩)), (1, .int .i64 fuel)]) (fun s => [Sl Ty.int s.S.v.ai s.S.v.ci s.M.inp]) (fun s => [RowR p 51 [.slice k.aC t.classes.length k.cC, .slice k.aG t.globals.length k.cG, .slice k.aU t.units.length k.cU, .int .i64 t.main, .slice k.aL (glob t).length k.cL, .pointer (some ⟨k.tp, 0, none⟩), .int .i64 1, .slice s.S.v.ai s.S.v.ni s.S.v.ci, .slice (some ⟨k.gb, 0, none⟩) t.globals.length t.globals.length, .slice s.S.v.af s.S.v.nf s.S.v.cf, .int .i64 s.S.v.bound, .map (some k.om), .int .i64 s.S.v.en, .int .i64 s.S.v.code, .slice s.S.v.ao s.S.v.no s.S.v.co, .int .i64 s.S.v.steps, .int .i64 0, .int .i64 0, .int .i64 0, .int .i64 0, .int .i64 s.S.v.slack, .int .i64 0], GX.Own 54 Ty.ptr s.S.v.af s.S.v.cf (adrs s.S.xs), GX.Star (frs s.S.xs s.M.fs), RowR k.tp 69 [.slice s.S.c.aR s.S.c.R.length s.S.c.cR, .slice s.S.c.aL s.S.c.L.length s.S.c.cL, .int .i64 s.S.c.gone, .int .i64 s.S.c.peak, .int .i64 s.S.c.many, .int .i64 s.S.c.most], GX.Own 73 tyRegion s.S.c.aR s.S.c.cR s.S.c.R, GX.Own 116 tyThing s.S.c.aL s.S.c.cL (s.S.c.L.map thg), Owns 3 Ty.int (s.S.c.L.map (fun x : Th => x.2)), GX.Own 3 Ty.int s.S.v.ao s.S.v.co s.M.out, GX.Own 3 Ty.int (some ⟨k.gb, 0, none⟩) t.globals.length s.M.gl, GX.MapR k.om opsF])
    (fun s => MInv t s.S s.M ∧ MsOk t s.M ∧ Bnd s.M ∧ ∃ n : Nat, s.M.steps + n = fuel ∧ runM t (glob t) n s.M = runM t (glob t) n0 M0) (fun s => (fuel - s.M.steps).toNat + (if s.M.en = 0 then 1 else 0)) ⟨S0, M0⟩ ⟨rfl, rfl, trivial⟩ ⟨hI0, hok0, hb0, n0, hn0, rfl⟩ (fun s hs => ?_)
  obtain ⟨⟨v, xs, c⟩, M⟩ := s
  obtain ⟨hI, hok, hb, n, hn, he⟩ := hs
  dsimp only at hI hok hb hn he ⊢
  have hen : v.en = M.en := hI.en
  have hst : v.steps = M.steps := hI.steps
  by_cases hz : M.en = 0
  · have hz' : v.en = 0 := hen.trans hz
    cases n with
    | zero =>
      have hge : fuel ≤ v.steps := by omega
      have he' : runM t (glob t) 0 M = M.ends 3 0 := if_pos hz
      refine GX.wp_R ?_; intros
      refine GX.o (cl (ends_spec t p k v 3 0) fun _ => ?_)
      refine GX.wp_R ?_; intros
      rw [← he, he']
      exact rt0 ⟨⟨{ v with en := 3, code := 0 }, xs, c⟩, ⟨hI.tab, hI.nf, hI.fr, rfl, rfl, hI.steps, hI.slack, hI.no, hI.ni, hI.bd⟩, ⟨hok.fr, hok.into, hok.deep, hok.gl, fun h => by cases h⟩, ⟨hb.st, hb.B, hb.L, hb.O⟩, by show M.steps ≤ fuel; omega⟩
    | succ n =>
      obtain ⟨f, r, u, i, hnx, hnext⟩ := hok.nextOf hz
      have hfs := hnx.fs
      have hu := hnx.unit
      obtain ⟨ju, hju, hjl, hjg⟩ := gt_some hu
      obtain ⟨jp, hjp, hpl, hip⟩ := gt_some hnx.ins
      have hfr := hI.fr
      rw [hfs] at hfr
      cases xs with
      | nil => exact absurd hfr (by simp [FrsAt])
      | cons x xs =>
      have hlt : ¬ fuel ≤ v.steps := by omega
      have hlt2 : v.steps < 100000 := by omega
      have hge2 : 0 ≤ v.steps := by have := hb.st; omega
      rw [hfs, show frs (x :: xs) (f :: r) = [RowR x.bl 76 [.int .i64 f.u, .int .i64 f.pc, .slice (some ⟨x.vb, 0, none⟩) x.n x.n, .int .i64 f.into, .map (some x.mb)], GX.Own 3 Ty.int (some ⟨x.vb, 0, none⟩) x.n f.vars, GX.MapR x.mb x.mp] ++ frs xs r from rfl, show adrs (x :: xs) = adrs xs ++ [some ⟨x.bl, 0, none⟩] from rfl]
      refine GX.starO (l := [RowR x.bl 76 [.int .i64 f.u, .int .i64 f.pc, .slice (some ⟨x.vb, 0, none⟩) x.n x.n, .int .i64 f.into, .map (some x.mb)], GX.Own 3 Ty.int (some ⟨x.vb, 0, none⟩) x.n f.vars, GX.MapR x.mb x.mp]) (m := frs xs r) ?_
      dsimp only [List.cons_append, List.nil_append]
      have hum : u ∈ t.units := gt_mem hu
      obtain ⟨u', hu1, hu2, hu3⟩ := hok.fr f (by rw [hfs]; simp)
      obtain rfl : u' = u := by rw [hu] at hu1; exact (Option.some.inj hu1).symm
      have hvi := right_ins hRt hum (gt_mem hnx.ins)
      have hd := hok.deep
      have hpre : Pre t { v with steps := v.steps + 1 } x xs { f with pc := f.pc + 1 } r c (M.pre f) i u' := by
        refine ⟨?_, ?_, hvi, hu2, ?_, hok.gl, ?_, ?_, ?_, ?_, ?_⟩
        · refine hI.keep (f' := { f with pc := f.pc + 1 }) hfs (by show _ :: M.fs.tail = _; rw [hfs]; rfl) rfl rfl rfl hfr.1.2 hI.tab rfl rfl hen hI.code (by show v.steps + 1 = M.steps + 1; rw [hst]) hI.slack hI.no hI.ni
        · show _ :: M.fs.tail = _; rw [hfs]; rfl
        · show (_ :: M.fs.tail).length ≤ 40; rw [hfs] at hd ⊢; exact hd
        · show M.tb.B.length ≤ _; have := hb.B; omega
        · show M.tb.L.length ≤ _; have := hb.L; omega
        · show M.out.length ≤ _; have := hb.O; omega
        · have := hT.args u' hum i (gt_mem hnx.ins); omega
        · cases r with
          | nil => exact .inr fun h r' e => by cases e
          | cons hh r =>
            refine (Goal.of hok hfs).imp id fun q h r' e => ?_
            cases e
            exact q
      have hnb := hpre.nb
      have hnf := hpre.nf
      refine GX.wp_R ?_; intros
      refine GX.o (cl (top_spec t p k { v with steps := v.steps + 1 } (adrs xs) _ hnf (by omega)) fun _ => ?_)
      refine GX.wp_R ?_; intros
      refine GX.drawn2 (RowR p 51 _) (RowR x.bl 76 _) (fun j => !(List.contains [19] j)) [(0, true), (1, true), (2, true), (3, true), (4, true), (5, true), (6, true), (7, true), (8, true), (9, true), (10, true), (11, true), (12, true), (13, true), (14, true), (15, true), (16, true), (17, true), (18, false), (19, false)] rfl (by kernel_rfl) (by kernel_rfl) (by first | ((repeat (first | apply Go.GX.SelR.nil | apply Go.GX.SelR.cons | (with_reducible apply Go.GX.TakeR.head) | apply Go.GX.TakeR.tail)); done) | (repeat (first | apply Go.GX.SelR.nil | apply Go.GX.SelR.cons | apply Go.GX.TakeR.head | apply Go.GX.TakeR.tail))) ?_; intro wd F hW hR
      refine GX.wp_T ?_; intros
      refine GX.unpin (RowR p 51 _) ?_
      refine GX.unpin (RowR x.bl 76 _) ?_
      refine GX.wp_T ?_; intros
      refine GX.wp_R ?_; intros
      refine GX.nmP 5 ?_; rintro b5 rfl
      refine frzB b5 ?_
      obtain ⟨fid, hF, hlk, hop⟩ := op_all (p := p) (k := k) hRt hT (f := { f with pc := f.pc + 1 }) hu hpre
      refine GX.drawn2 (RowR p 51 _) (GX.MapR k.om opsF) (fun j => !(List.contains [9] j)) [(0, true), (1, true), (2, true), (3, true), (4, true), (5, true), (6, true), (7, true), (8, true), (9, false)] rfl (by kernel_rfl) (by kernel_rfl) (by first | ((repeat (first | apply Go.GX.SelR.nil | apply Go.GX.SelR.cons | (with_reducible apply Go.GX.TakeR.head) | apply Go.GX.TakeR.tail)); done) | (repeat (first | apply Go.GX.SelR.nil | apply Go.GX.SelR.cons | apply Go.GX.TakeR.head | apply Go.GX.TakeR.tail))) ?_; intro wd F hW hR
      refine GX.wp_T ?_; intros
      refine GX.unpin (RowR p 51 _) ?_
      refine GX.unpin (GX.MapR k.om opsF) ?_
      refine GX.nmA 69 ?_; rintro cs rfl
      haveI := hF
      refine GX.gow ?_
      refine (clv (fs := []) (vs := [.pointer (some ⟨p, 0, none⟩), .agg cs.toArray]) (cs := []) (hop cs) fun s => ?_)
      obtain ⟨⟨v', xs', c'⟩, hI'⟩ := s
      dsimp only
      refine GX.wp_T ?_; intros
      have hok' := hok.go (G := glob t) hRt hnx
      have hb' := hb.go (G := glob t) hRt hT hnx
      have hst' := (go_grow (M.pre f) t (glob t) { f with pc := f.pc + 1 } i hvi.op.1 hvi.op.2).st
      have he' : runM t (glob t) n (((M.pre f).go t (glob t) { f with pc := f.pc + 1 } i).less t) = runM t (glob t) n0 M0 := by
        rw [← he, ← step_next hnext]
        exact (if_pos hz).symm
      have hst2 : (M.pre f).steps = M.steps + 1 := rfl
      generalize (M.pre f).go t (glob t) { f with pc := f.pc + 1 } i = M' at hI' hok' hb' hst' he' ⊢
      have hbd : v'.bound = bound t M'.fs := hI'.bd
      have hbl := bound_le hT M'.fs
      have hdp := hok'.deep
      obtain ⟨l1, l2, l3, l4, l5, l6, l7, l8⟩ := less_fs M' t
      by_cases hz2 : v'.en = 0
      · have hM2 : M'.en = 0 := hI'.en.symm.trans hz2
        have hles : M'.less t = { M' with slack := min M'.slack (M'.room t) } := if_pos hM2
        have hlv : liveN M'.tb.B ≤ M'.tb.B.length := List.countP_le_length
        refine GX.wp_R ?_; intros
        refine GX.drawn1 (RowR p 51 _) (fun j => !(List.contains [12] j)) [(0, true), (1, true), (2, true), (3, true), (4, true), (5, true), (6, true), (7, false), (8, true), (9, true), (10, true), (11, true), (12, false)] rfl (by kernel_rfl) (by kernel_rfl) (by first | ((repeat (first | apply Go.GX.SelR.nil | apply Go.GX.SelR.cons | (with_reducible apply Go.GX.TakeR.head) | apply Go.GX.TakeR.tail)); done) | (repeat (first | apply Go.GX.SelR.nil | apply Go.GX.SelR.cons | apply Go.GX.TakeR.head | apply Go.GX.TakeR.tail))) ?_; intro wd F hW hR
        refine GX.wp_T ?_; intros
        refine GX.unpin (RowR p 51 _) ?_
        refine GX.gow ?_
        refine (cl (slack_spec t p k v' c' M'.tb hI'.tab (by omega) (by have := hb'.B; omega)) fun _ => ?_)
        refine GX.wp_T ?_; intros
        refine GX.wp_R ?_; intros
        rw [hles] at he'
        have hok2 := hok'.less
        have hb2 := hb'.less t
        rw [hles] at hok2 hb2
        refine again ⟨⟨{ v' with slack := min v'.slack (v'.bound - (liveN M'.tb.B : Int)) }, xs', c'⟩, { M' with slack := min M'.slack (M'.room t) }⟩ ⟨rfl, rfl, trivial⟩ ⟨?_, hok2, hb2, n, ?_, he'⟩ ?_
        · refine ⟨hI'.tab, hI'.nf, hI'.fr, hI'.en, hI'.code, hI'.steps, ?_, hI'.no, hI'.ni, hI'.bd⟩
          show min v'.slack _ = min M'.slack (M'.room t)
          rw [show v'.slack = M'.slack from hI'.slack, hbd]
          rfl
        · show M'.steps + n = fuel
          omega
        · show (fuel - M'.steps).toNat + (if M'.en = 0 then 1 else 0) < (fuel - M.steps).toNat + (if M.en = 0 then 1 else 0)
          rw [if_pos hz]
          split <;> omega
      · have hM2 : M'.en ≠ 0 := fun h => hz2 (hI'.en.trans h)
        have hles : M'.less t = M' := if_neg hM2
        rw [hles] at he'
        refine GX.wp_R ?_; intros
        refine again ⟨⟨v', xs', c'⟩, M'⟩ ⟨rfl, rfl, trivial⟩ ⟨hI', hok', hb', n, ?_, he'⟩ ?_
        · show M'.steps + n = fuel
          omega
        · show (fuel - M'.steps).toNat + (if M'.en = 0 then 1 else 0) < (fuel - M.steps).toNat + (if M.en = 0 then 1 else 0)
          rw [if_pos hz]
          split <;> omega
  · have hz' : ¬ v.en = 0 := by rw [hen]; exact hz
    rw [runM_ended hz] at he
    rw [← he]
    refine GX.wp_R ?_; intros
    exact en0 ⟨⟨v, xs, c⟩, hI, hok, hb, by omega⟩
end Go.Proofs.Ytomadjefdghliaa

/- The walks over package rt: rising, cell, loads, lays, only, bare, two, length, fresh. -/
namespace Go.Proofs.Ytomadjefdghliaa
open Go Go.RR Go.RX Go.GX Go.Api Go.RiseM Go.ReachM Go.RtM
attribute [local irreducible] wpList Code.wp wpPlan Exit.then Exit.inBlock bodyPost NoPanic Went GX.Post GX.Again GX.Meet GX.RowR GX.Own GX.Owns GX.Box GX.Sl GX.Pt GX.Ag GX.MapR GX.Kept GX.Pin wpT GoK AtEnd Both

/-- Rising, and each is such. -/
abbrev UpP (p : Int → Bool) (l : List Int) : Prop := Rise l ∧ ∀ n ∈ l, p n = true
theorem upP_snoc {p : Int → Bool} {l : List Int} {i : Nat} {x : Int} (hx : l[i]? = some x) : UpP p (l.take (i + 1)) ↔ UpP p (l.take i) ∧ (∀ k y, i = k + 1 → l[k]? = some y → y < x) ∧ p x = true := by
  have e : l.take (i + 1) = l.take i ++ [x] := by rw [List.take_add_one, hx]; rfl
  rw [e]
  unfold UpP Rise
  rw [List.pairwise_append]
  constructor
  · rintro ⟨⟨h1, _, h2⟩, h3⟩
    refine ⟨⟨h1, fun n hn => h3 n (by simp [hn])⟩, fun k y hk hy => h2 y ?_ x (by simp), h3 x (by simp)⟩
    exact List.mem_take_iff_getElem.2 ⟨k, by have := (List.getElem?_eq_some_iff.1 hy).1; omega, (List.getElem?_eq_some_iff.1 hy).2⟩
  · rintro ⟨⟨h1, h2⟩, h3, h4⟩
    refine ⟨⟨h1, by simp, fun a ha c hc => ?_⟩, fun n hn => ?_⟩
    · obtain rfl : c = x := by simpa using hc
      obtain ⟨j, hj, rfl⟩ := List.mem_take_iff_getElem.1 ha
      cases i with
      | zero => omega
      | succ k =>
        have hkl : k < l.length := by have := (List.getElem?_eq_some_iff.1 hx).1; omega
        have h5 := h3 k l[k] rfl (List.getElem?_eq_getElem hkl)
        by_cases e : j = k
        · subst e; exact h5
        · have h6 := List.pairwise_iff_getElem.1 h1 j k (by rw [List.length_take]; omega) (by rw [List.length_take]; omega) (by omega)
          rw [List.getElem_take, List.getElem_take] at h6
          omega
    · rw [List.mem_append, List.mem_singleton] at hn
      rcases hn with hn | hn
      · exact h2 n hn
      · subst hn; exact h4
theorem upP_take {p : Int → Bool} {l : List Int} (i : Nat) (h : UpP p l) : UpP p (l.take i) := ⟨h.1.sublist (List.take_sublist _ _), fun n hn => h.2 n (List.mem_of_mem_take hn)⟩

theorem last2 {l : List Int} {k k2 : Nat} {y z x : Int} (e : k = k2) (hy : l[k]? = some y) (hz : l[k2]? = some z) (h : y < x) : z < x := by subst e; rw [hy] at hz; cases hz; exact h
theorem rising_spec (ao : Option Addr) (cap : Nat) (l : List Int) (fid : Nat) (caps : List Value) (psC : List Pf) (hpC : List Res) (p : Int → Bool) [UFunc Try.prog fid]
    (hf : ∀ x ∈ l, Does Try.prog fid (.int .i64 x :: caps) psC hpC (fun _ : Unit => .bool (p x)) (fun _ => []) (fun _ => hpC)) :
    Does Try.prog 72 [.slice ao l.length cap, .func (.func fid) #[] caps.toArray] (Sl Ty.int ao cap l :: psC) hpC (fun _ : Unit => .bool (decide (UpP p l))) (fun _ => []) (fun _ => hpC) := by
  refine enter Try.func72 rfl Try.ntmps72 rfl fun b => ?_
  refine sln ao fun hl1 hl2 _ => ?_
  refine GX.wR ?_; intros
  refine GX.loop (σ := Nat) (fun i => [(0, .slice ao l.length cap), (1, .func (.func fid) #[] caps.toArray), (7, .slice ao l.length cap), (8, .int .i64 (l.length : Int)), (9, .int .i64 (i : Int))]) (fun _ => []) (fun _ => hpC)
    (fun i => i ≤ l.length ∧ UpP p (l.take i)) (fun i => l.length - i) 0 ⟨rfl, rfl, rfl, rfl, rfl, trivial⟩ ⟨by omega, by simp [UpP, Rise]⟩ (fun i hi => ?_) (h2 := SelR.all _)
  obtain ⟨hi, hU⟩ := hi
  by_cases hlt : i < l.length
  · obtain ⟨x, hx⟩ := get_lt hlt
    have hs := upP_snoc (p := p) hx
    have no : ¬ UpP p (l.take (i + 1)) → ¬ UpP p l := fun h h2 => h (upP_take _ h2)
    by_cases h0 : i = 0
    · subst h0
      refine GX.wR ?_; intros
      refine GX.o (clvA (fs := []) (vs := [.int .i64 x]) (cs := caps) (hf x (List.mem_of_getElem? hx)) fun _ => ?_)
      cases hp : p x with
      | true =>
        refine GX.wR ?_; intros
        exact again 1 ⟨rfl, rfl, rfl, rfl, rfl, trivial⟩ ⟨by omega, hs.2 ⟨hU, fun k y hk => by omega, hp⟩⟩ (by omega) (h2 := SelR.all _)
      | false =>
        refine GX.wR ?_; intros
        exact rt1 () (vN (no fun h => by rw [(hs.1 h).2.2] at hp; cases hp)) (h2 := SelR.all _)
    · obtain ⟨k, rfl⟩ : ∃ k, i = k + 1 := ⟨i - 1, by omega⟩
      obtain ⟨y, hy⟩ := get_lt (show k < l.length by omega)
      by_cases hxy : x ≤ y
      · refine GX.wR ?_; intros
        exact rt1 () (vN (no fun h => by have := (hs.1 h).2.1 k y rfl hy; omega)) (h2 := SelR.all _)
      · refine GX.wR ?_; intros
        refine GX.o (clvA (fs := []) (vs := [.int .i64 x]) (cs := caps) (hf x (List.mem_of_getElem? hx)) fun _ => ?_)
        cases hp : p x with
        | true =>
          refine GX.wR ?_; intros
          exact again (k + 2) ⟨rfl, rfl, rfl, rfl, rfl, trivial⟩ ⟨by omega, hs.2 ⟨hU, fun k2 z hk hz => last2 (show k = k2 by omega) hy hz (by omega), hp⟩⟩ (by omega) (h2 := SelR.all _)
        | false =>
          refine GX.wR ?_; intros
          exact rt1 () (vN (no fun h => by rw [(hs.1 h).2.2] at hp; cases hp)) (h2 := SelR.all _)
  · have hil : i = l.length := by omega
    subst hil
    rw [List.take_length] at hU
    refine GX.wR ?_; intros
    exact rt1 () (vY hU) (h2 := SelR.all _)

theorem cell_spec (cs : List Value) (v : RtView) (n : Int) (arr : Bool) (c : Int) : Does Try.prog 100 [.agg cs.toArray, .int .i64 n, .bool arr, .int .i64 c] [Ag tyRtView cs v] []
    (fun _ : Unit => .tuple #[.int .i64 (cell v.t v.u n arr c).1, .bool (cell v.t v.u n arr c).2.1, .bool (cell v.t v.u n arr c).2.2]) (fun _ => []) (fun _ => []) := by
  refine enter Try.func100 rfl Try.ntmps100 rfl fun b => ?_
  refine GX.wR ?_; intros
  refine GX.o (cl (of_spec _ v n) fun _ => ?_)
  by_cases h1 : RtM.of v.u n = -1
  · rw [cell_null h1]
    by_cases h2 : 0 ≤ c
    · have e2 : decide (0 ≤ c ∧ c < 8) = decide (c < 8) := decide_eq_decide.2 ⟨fun h => h.2, fun h => ⟨h2, h⟩⟩
      rw [e2]
      refine GX.wR ?_; intros
      exact rt3 () rfl
    · have e2 : decide (0 ≤ c ∧ c < 8) = false := decide_eq_false fun h => h2 h.1
      rw [e2]
      refine GX.wR ?_; intros
      exact rt3 () rfl
  · by_cases h2 : IsClass v.t (RtM.of v.u n)
    · obtain ⟨L, hL, k, hk, hkl, hL2⟩ := gt_in h2
      by_cases h3 : L.arr = arr
      · have hb : (L.arr != arr) = false := by rw [h3]; simp
        by_cases h4 : c < 0
        · rw [cell_out h1 hL h3 (gt_out (.inl h4)), hk]
          rw [hk] at h1 h2
          have h2' := Classical.not_not.2 h2
          refine GX.wR ?_; intros
          refine GX.o (cl (isClass_spec _ v.t k) fun _ => ?_)
          refine GX.wR ?_; intros
          exact rt3 () rfl
        · by_cases h5 : (L.refs.length : Int) ≤ c
          · rw [cell_out h1 hL h3 (gt_out (.inr h5)), hk]
            rw [hk] at h1 h2
            have h2' := Classical.not_not.2 h2
            refine GX.wR ?_; intros
            refine GX.o (cl (isClass_spec _ v.t k) fun _ => ?_)
            refine GX.wR ?_; intros
            exact rt3 () rfl
          · obtain ⟨x, hx, j, rfl, hj, hxj⟩ := gt_in (l := L.refs) (n := c) ⟨by omega, by omega⟩
            rw [cell_some h1 hL h3 hx, hk]
            rw [hk] at h1 h2
            have h2' := Classical.not_not.2 h2
            refine GX.wR ?_; intros
            refine GX.o (cl (isClass_spec _ v.t k) fun _ => ?_)
            refine GX.wR ?_; intros
            exact rt3 () rfl
      · have hb : (L.arr != arr) = true := by simpa using h3
        rw [cell_arr h1 hL h3, hk]
        rw [hk] at h1 h2
        have h2' := Classical.not_not.2 h2
        refine GX.wR ?_; intros
        refine GX.o (cl (isClass_spec _ v.t k) fun _ => ?_)
        refine GX.wR ?_; intros
        exact rt3 () rfl
    · have e2 : gt v.t.classes (RtM.of v.u n) = none := gt_out (by unfold IsClass at h2; omega)
      rw [cell_none h1 e2]
      refine GX.wR ?_; intros
      refine GX.o (cl (isClass_spec _ v.t _) fun _ => ?_)
      refine GX.wR ?_; intros
      exact rt3 () rfl
end Go.Proofs.Ytomadjefdghliaa
