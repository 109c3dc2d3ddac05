import Derived.Test.YtomadjefdghliaaGreatU12
import Derived.Test.YtomadjefdghliaaGreatU14
import Derived.Test.YtomadjefdghliaaGreatU16
namespace Go.Proofs.YtomadjefdghliaaGreat
open Go.Api Go.RtM Go.RiseM
theorem of_ne {u : Unt} {n : Int} (h : of u n ≠ -3) : ∃ k : Nat, n = k ∧ k < u.vars.length := by
 unfold of at h
 cases hg : gt u.vars n with
 | none => rw [hg] at h; exact absurd rfl h
 | some x => obtain ⟨k, h1, h2, _⟩ := gt_some hg; exact ⟨k, h1, h2⟩
theorem into_l {a b : Int} (h : Into a b) : a ≠ -3 := by
 unfold Into at h
 split at h <;> omega
theorem into_r {a b : Int} (h : Into a b) : b ≠ -3 := by
 unfold Into at h
 split at h <;> omega
theorem cell_v {t : RTg} {u : Unt} {n : Int} {arr : Bool} {c : Int} (h : (cell t u n arr c).2.2 = true) : of u n ≠ -3 := by
 by_cases h1 : of u n = -1
 ·omega
 ·cases h2 : gt t.classes (of u n) with
  | none => rw [cell_none h1 h2] at h; cases h
  | some L => obtain ⟨k, h3, _⟩ := gt_some h2; omega
theorem loads_v {t : RTg} {u : Unt} {a b : Int} {arr : Bool} {c : Int} (h : Loads t u a b arr c) : of u a ≠ -3 ∧ of u b ≠ -3 := by
 obtain ⟨h1, h2⟩ := h
 refine ⟨?_, cell_v h1⟩
 split at h2
 ·exact h2
 ·exact into_l h2
theorem lays_v {t : RTg} {u : Unt} {a b : Int} {arr : Bool} {c : Int} (h : Lays t u a arr c b) : of u a ≠ -3 ∧ of u b ≠ -3 := by
 obtain ⟨h1, h2⟩ := h
 refine ⟨cell_v h1, ?_⟩
 split at h2
 ·exact h2
 ·exact into_r h2
theorem fresh_v {t : RTg} {u : Unt} {i : Ins} {arr : Bool} (h : Fresh t u i arr) : (∃ L, gt t.classes i.n = some L) ∧ of u i.a ≠ -3 := by
 unfold Fresh at h
 cases h2 : gt t.classes i.n with
 | none => rw [h2] at h; exact h.elim
 | some L => rw [h2] at h; obtain ⟨k, h3, _⟩ := gt_some h2; exact ⟨⟨L, rfl⟩, by have := h.2; omega⟩
theorem call_v {t : RTg} {u : Unt} {i : Ins} (h : CallOk t u i) : ∃ g, gt t.units i.c = some g ∧ (i.args.length : Int) = g.params ∧ i.args.length ≤ g.vars.length ∧ (∀ n ∈ i.args, of u n ≠ -3) ∧ (i.a = -1 ∨ of u i.a ≠ -3) ∧ (i.a = -1 ∨ Into (of u i.a) g.result) := by
 unfold CallOk at h
 cases h2 : gt t.units i.c with
 | none => rw [h2] at h; exact h.elim
 | some g =>
  rw [h2] at h
  obtain ⟨⟨h3, h4, h5⟩, h6⟩ := h
  refine ⟨g, rfl, h3, by omega, fun n hn => ?_, h6.imp id into_l, h6⟩
  obtain ⟨k, hk, hx⟩ := List.getElem_of_mem hn
  have hk2 : k < g.vars.length := by omega
  exact into_r (h5 (n, g.vars[k]) (by
   rw [← hx]
   have hz : k < (i.args.zip g.vars).length := by rw [List.length_zip]; omega
   have := List.getElem_mem hz
   rwa [List.getElem_zip] at this))
theorem ing_v {t : RTg} {n : Int} {P : Int → Prop} (h : InG t n P) : ∃ g, gt t.globals n = some g ∧ P g := by
 unfold InG at h
 cases h2 : gt t.globals n with
 | none => rw [h2] at h; exact h.elim
 | some g => rw [h2] at h; exact ⟨g, rfl, h⟩
theorem bare_op30 {i : Ins} (h : Bare i) : 1 ≤ i.op ∧ i.op ≤ 22 := by
 unfold Bare names at h
 by_cases h1 : i.op = 1 ∨ i.op = 11 ∨ i.op = 19 ∨ i.op = 20
 ·omega
 rw [if_neg h1] at h
 by_cases h2 : i.op = 2 ∨ i.op = 14 ∨ i.op = 15 ∨ i.op = 18
 ·omega
 rw [if_neg h2] at h
 by_cases h3 : i.op = 3 ∨ i.op = 10
 ·omega
 rw [if_neg h3] at h
 by_cases h4 : i.op = 5 ∨ i.op = 12
 ·omega
 rw [if_neg h4] at h
 by_cases h5 : i.op = 6 ∨ i.op = 7 ∨ i.op = 8 ∨ i.op = 9
 ·omega
 rw [if_neg h5] at h
 by_cases h6 : i.op = 4
 ·omega
 rw [if_neg h6] at h
 by_cases h7 : i.op = 13
 ·omega
 rw [if_neg h7] at h
 by_cases h8 : i.op = 16
 ·omega
 rw [if_neg h8] at h
 by_cases h9 : i.op = 17
 ·omega
 rw [if_neg h9] at h
 by_cases h10 : i.op = 21 ∨ i.op = 22
 ·omega
 rw [if_neg h10] at h
 exact h.elim
structure InsV (t : RTg) (u : Unt) (i : Ins) : Prop where
 op : 1 ≤ i.op ∧ i.op ≤ 22
 va : (1 ≤ i.op ∧ i.op ≤ 12 ∨ i.op = 14 ∨ i.op = 15 ∨ i.op = 17 ∨ i.op = 19 ∨ i.op = 20) → of u i.a ≠ -3
 vb : (3 ≤ i.op ∧ i.op ≤ 10 ∨ i.op = 12) → of u i.b ≠ -3
 vc : (i.op = 4 ∨ i.op = 8 ∨ i.op = 9) → of u i.c ≠ -3
 cls : (i.op = 11 ∨ i.op = 12) → ∃ L, gt t.classes i.n = some L
 call : i.op = 13 → CallOk t u i
 go : (i.op = 16 ∨ i.op = 17) → RtM.Place u i.n
 els : i.op = 17 → RtM.Place u i.c
 ret : i.op = 18 → i.a = -1 ∨ of u i.a ≠ -3
 glo : (i.op = 19 ∨ i.op = 20) → ∃ g, gt t.globals i.n = some g
 own : (i.op = 21 ∨ i.op = 22) → Rise i.args ∧ ∀ n ∈ i.args, n ∈ u.owns
 two : i.op = 4 → 14 ≤ i.n ∧ i.n ≤ 24
 one : i.op = 5 → i.n = 12 ∨ i.n = 13
theorem fit1 {t : RTg} {u : Unt} {i : Ins} (hF : Fits t u i) (h : i.op = 1 ∨ i.op = 14 ∨ i.op = 15) : of u i.a = -2 := by
 unfold Fits at hF
 rwa [if_pos h] at hF
theorem fit2 {t : RTg} {u : Unt} {i : Ins} (hF : Fits t u i) (h : i.op = 2) : IsRef (of u i.a) := by
 unfold Fits at hF
 rwa [if_neg (by omega), if_pos h] at hF
theorem fit3 {t : RTg} {u : Unt} {i : Ins} (hF : Fits t u i) (h : i.op = 3) : Into (of u i.a) (of u i.b) := by
 unfold Fits at hF
 rwa [if_neg (by omega), if_neg (by omega), if_pos h] at hF
theorem fit4 {t : RTg} {u : Unt} {i : Ins} (hF : Fits t u i) (h : i.op = 4) : Two u i := by
 unfold Fits at hF
 rwa [if_neg (by omega), if_neg (by omega), if_neg (by omega), if_pos h] at hF
theorem fit5 {t : RTg} {u : Unt} {i : Ins} (hF : Fits t u i) (h : i.op = 5) : (i.n = 12 ∨ i.n = 13) ∧ of u i.a = -2 ∧ of u i.b = -2 := by
 unfold Fits at hF
 rwa [if_neg (by omega), if_neg (by omega), if_neg (by omega), if_neg (by omega), if_pos h] at hF
theorem fit6 {t : RTg} {u : Unt} {i : Ins} (hF : Fits t u i) (h : i.op = 6) : Loads t u i.a i.b false i.c := by
 unfold Fits at hF
 rwa [if_neg (by omega), if_neg (by omega), if_neg (by omega), if_neg (by omega), if_neg (by omega), if_pos h] at hF
theorem fit7 {t : RTg} {u : Unt} {i : Ins} (hF : Fits t u i) (h : i.op = 7) : Lays t u i.a false i.c i.b := by
 unfold Fits at hF
 rwa [if_neg (by omega), if_neg (by omega), if_neg (by omega), if_neg (by omega), if_neg (by omega), if_neg (by omega), if_pos h] at hF
theorem fit8 {t : RTg} {u : Unt} {i : Ins} (hF : Fits t u i) (h : i.op = 8) : of u i.c = -2 ∧ Loads t u i.a i.b true 0 := by
 unfold Fits at hF
 rwa [if_neg (by omega), if_neg (by omega), if_neg (by omega), if_neg (by omega), if_neg (by omega), if_neg (by omega), if_neg (by omega), if_pos h] at hF
theorem fit9 {t : RTg} {u : Unt} {i : Ins} (hF : Fits t u i) (h : i.op = 9) : of u i.b = -2 ∧ Lays t u i.a true 0 i.c := by
 unfold Fits at hF
 rwa [if_neg (by omega), if_neg (by omega), if_neg (by omega), if_neg (by omega), if_neg (by omega), if_neg (by omega), if_neg (by omega), if_neg (by omega), if_pos h] at hF
theorem fit10 {t : RTg} {u : Unt} {i : Ins} (hF : Fits t u i) (h : i.op = 10) : (cell t u i.b true 0).2.2 = true ∧ of u i.a = -2 := by
 unfold Fits at hF
 rwa [if_neg (by omega), if_neg (by omega), if_neg (by omega), if_neg (by omega), if_neg (by omega), if_neg (by omega), if_neg (by omega), if_neg (by omega), if_neg (by omega), if_pos h] at hF
theorem fit11 {t : RTg} {u : Unt} {i : Ins} (hF : Fits t u i) (h : i.op = 11) : Fresh t u i false := by
 unfold Fits at hF
 rwa [if_neg (by omega), if_neg (by omega), if_neg (by omega), if_neg (by omega), if_neg (by omega), if_neg (by omega), if_neg (by omega), if_neg (by omega), if_neg (by omega), if_neg (by omega), if_pos h] at hF
theorem fit12 {t : RTg} {u : Unt} {i : Ins} (hF : Fits t u i) (h : i.op = 12) : Fresh t u i true ∧ of u i.b = -2 := by
 unfold Fits at hF
 rwa [if_neg (by omega), if_neg (by omega), if_neg (by omega), if_neg (by omega), if_neg (by omega), if_neg (by omega), if_neg (by omega), if_neg (by omega), if_neg (by omega), if_neg (by omega), if_neg (by omega), if_pos h] at hF
theorem fitG {t : RTg} {u : Unt} {i : Ins} (hF : Fits t u i) (h : i.op = 13 ∨ 16 ≤ i.op) : Goes t u i := by
 unfold Fits at hF
 rwa [if_neg (by omega), if_neg (by omega), if_neg (by omega), if_neg (by omega), if_neg (by omega), if_neg (by omega), if_neg (by omega), if_neg (by omega), if_neg (by omega), if_neg (by omega), if_neg (by omega), if_neg (by omega)] at hF
theorem fit13 {t : RTg} {u : Unt} {i : Ins} (hF : Fits t u i) (h : i.op = 13) : CallOk t u i := by
 have hF := fitG hF (by omega)
 unfold Goes at hF
 rwa [if_pos h] at hF
theorem fit16 {t : RTg} {u : Unt} {i : Ins} (hF : Fits t u i) (h : i.op = 16) : RtM.Place u i.n := by
 have hF := fitG hF (by omega)
 unfold Goes at hF
 rwa [if_neg (by omega), if_pos h] at hF
theorem fit17 {t : RTg} {u : Unt} {i : Ins} (hF : Fits t u i) (h : i.op = 17) : of u i.a = -2 ∧ RtM.Place u i.n ∧ RtM.Place u i.c := by
 have hF := fitG hF (by omega)
 unfold Goes at hF
 rwa [if_neg (by omega), if_neg (by omega), if_pos h] at hF
theorem fit18 {t : RTg} {u : Unt} {i : Ins} (hF : Fits t u i) (h : i.op = 18) : (u.result = -3 ∧ i.a = -1 ∨ u.result ≠ -3 ∧ Into u.result (of u i.a)) := by
 have hF := fitG hF (by omega)
 unfold Goes at hF
 rwa [if_neg (by omega), if_neg (by omega), if_neg (by omega), if_pos h] at hF
theorem fit19 {t : RTg} {u : Unt} {i : Ins} (hF : Fits t u i) (h : i.op = 19) : InG t i.n (fun g => Into (of u i.a) g) := by
 have hF := fitG hF (by omega)
 unfold Goes at hF
 rwa [if_neg (by omega), if_neg (by omega), if_neg (by omega), if_neg (by omega), if_pos h] at hF
theorem fit20 {t : RTg} {u : Unt} {i : Ins} (hF : Fits t u i) (h : i.op = 20) : InG t i.n (fun g => Into g (of u i.a)) := by
 have hF := fitG hF (by omega)
 unfold Goes at hF
 rwa [if_neg (by omega), if_neg (by omega), if_neg (by omega), if_neg (by omega), if_neg (by omega), if_pos h] at hF
theorem fit21 {t : RTg} {u : Unt} {i : Ins} (hF : Fits t u i) (h : 21 ≤ i.op) : i.args ≠ [] ∧ Rise i.args ∧ ∀ n ∈ i.args, n ∈ u.owns := by
 have hF := fitG hF (by omega)
 unfold Goes at hF
 rwa [if_neg (by omega), if_neg (by omega), if_neg (by omega), if_neg (by omega), if_neg (by omega), if_neg (by omega)] at hF
theorem two_v {u : Unt} {i : Ins} (h : Two u i) : of u i.a ≠ -3 ∧ of u i.b ≠ -3 ∧ of u i.c ≠ -3 := by
 obtain ⟨_, h2, h3 | ⟨_, h3, h4⟩⟩ := h
 ·omega
 ·exact ⟨by omega, by omega, by omega⟩
theorem insV {t : RTg} {u : Unt} {i : Ins} (hB : Bare i) (hF : Fits t u i) : InsV t u i := by
 have ho := bare_op30 hB
 refine ⟨ho, fun h => ?_, fun h => ?_, fun h => ?_, fun h => ?_, fun h => fit13 hF h, fun h => ?_, fun h => (fit17 hF h).2.2, fun h => ?_, fun h => ?_, fun h => (fit21 hF (by omega)).2, fun h => (fit4 hF h).1, fun h => (fit5 hF h).1⟩
 ·obtain h | h | h | h | h | h | h | h | h | h | h | h | h | h | h : (i.op = 1 ∨ i.op = 14 ∨ i.op = 15) ∨ i.op = 2 ∨ i.op = 3 ∨ i.op = 4 ∨ i.op = 5 ∨ i.op = 6 ∨ i.op = 7 ∨ i.op = 8 ∨ i.op = 9 ∨ i.op = 10 ∨ i.op = 11 ∨ i.op = 12 ∨ i.op = 17 ∨ i.op = 19 ∨ i.op = 20 := by omega
  ·have := fit1 hF h; omega
  ·have := fit2 hF h; omega
  ·exact into_l (fit3 hF h)
  ·exact (two_v (fit4 hF h)).1
  ·have := fit5 hF h; omega
  ·exact (loads_v (fit6 hF h)).1
  ·exact (lays_v (fit7 hF h)).1
  ·exact (loads_v (fit8 hF h).2).1
  ·exact (lays_v (fit9 hF h).2).1
  ·have := (fit10 hF h).2; omega
  ·exact (fresh_v (fit11 hF h)).2
  ·exact (fresh_v (fit12 hF h).1).2
  ·have := (fit17 hF h).1; omega
  ·obtain ⟨g, _, h3⟩ := ing_v (fit19 hF h); exact into_l h3
  ·obtain ⟨g, _, h3⟩ := ing_v (fit20 hF h); exact into_r h3
 ·obtain h | h | h | h | h | h | h | h | h : i.op = 3 ∨ i.op = 4 ∨ i.op = 5 ∨ i.op = 6 ∨ i.op = 7 ∨ i.op = 8 ∨ i.op = 9 ∨ i.op = 10 ∨ i.op = 12 := by omega
  ·exact into_r (fit3 hF h)
  ·exact (two_v (fit4 hF h)).2.1
  ·have := fit5 hF h; omega
  ·exact (loads_v (fit6 hF h)).2
  ·exact (lays_v (fit7 hF h)).2
  ·exact (loads_v (fit8 hF h).2).2
  ·have := (fit9 hF h).1; omega
  ·exact cell_v (fit10 hF h).1
  ·have := (fit12 hF h).2; omega
 ·obtain h | h | h := h
  ·exact (two_v (fit4 hF h)).2.2
  ·have := (fit8 hF h).1; omega
  ·exact (lays_v (fit9 hF h).2).2
 ·obtain h | h := h
  ·exact (fresh_v (fit11 hF h)).1
  ·exact (fresh_v (fit12 hF h).1).1
 ·obtain h | h := h
  ·exact fit16 hF h
  ·exact (fit17 hF h).2.1
 ·obtain ⟨_, h⟩ | ⟨_, h⟩ := fit18 hF h
  ·exact .inl h
  ·exact .inr (into_r h)
 ·obtain h | h := h
  ·obtain ⟨g, h2, _⟩ := ing_v (fit19 hF h); exact ⟨g, h2⟩
  ·obtain ⟨g, h2, _⟩ := ing_v (fit20 hF h); exact ⟨g, h2⟩
theorem right_unit {t : RTg} (hR : RightP t) {u : Unt} (hu : u ∈ t.units) : UnitOk t u := hR.2.2.2.2.2 u hu
theorem right_ins {t : RTg} (hR : RightP t) {u : Unt} (hu : u ∈ t.units) {i : Ins} (hi : i ∈ u.ins) : InsV t u i := by
 obtain ⟨h1, h2⟩ := (right_unit hR hu).2 i hi
 exact insV h1 h2
structure FrOk (t : RTg) (f : Fr) (u : Unt) : Prop where
 unit : gt t.units f.u = some u
 vars : f.vars.length = u.vars.length
 pc : RtM.Place u f.pc
theorem vok {f : Fr} {u : Unt} {n : Int} (hv : f.vars.length = u.vars.length) (h : of u n ≠ -3) : Vok f n := by
 obtain ⟨k, h1, h2⟩ := of_ne h
 exact ⟨k, h1, by omega⟩
def Goal (f : Fr) : List Fr → Prop
 | [] => True
 | h :: _ => f.into = -1 ∨ Vok h f.into
structure MsOk (t : RTg) (M : Ms) : Prop where
 fr : ∀ f ∈ M.fs, ∃ u, FrOk t f u
 into : ∀ (k : Nat) f h, M.fs[k]? = some f → M.fs[k + 1]? = some h → f.into = -1 ∨ Vok h f.into
 deep : M.fs.length ≤ 40
 gl : M.gl.length = t.globals.length
 en : M.en = 0 → M.fs ≠ []
end Go.Proofs.YtomadjefdghliaaGreat
namespace Go.Proofs.YtomadjefdghliaaGreat
open Go Go.RR Go.RX Go.GX Go.Api Go.RtM
attribute [local irreducible] wpList Code.wp wpPlan Exit.then Exit.inBlock bodyPost NoPanic Went GX.Post GX.Again GX.Meet GX.RowR GX.Own GX.Owns GX.Box GX.Sl GX.Pt GX.Ag GX.MapR GX.Star GX.Kept GX.Pin wpT GoK AtEnd Both
theorem branch_spec (t : RTg) (p : Nat) (k : MK) (v : MV) (l : List (Option Addr)) (x : FrC) (f : Fr) (i : Ins) (cs : List Value) (hn : v.nf = l.length + 1) (hb : l.length ≤ 1000) (hl : f.vars.length = x.n) (va : Vok f i.a) :
  Does Tryz.prog 59 [.pointer (some ⟨p, 0, none⟩), .agg cs.toArray] [Ag tyIns cs i] [RowR p 57 [.slice k.aC t.classes.length k.cC, .slice k.aG t.globals.length k.cG, .slice k.aU t.units.length k.cU, .int .i64 t.main, .slice k.aL (glob t).length k.cL, .pointer (some ⟨k.tp, 0, none⟩), .int .i64 1, .slice v.ai v.ni v.ci, .slice (some ⟨k.gb, 0, none⟩) t.globals.length t.globals.length, .slice v.af v.nf v.cf, .int .i64 v.bound, .map (some k.om), .int .i64 v.en, .int .i64 v.code, .slice v.ao v.no v.co, .int .i64 v.steps, .int .i64 0, .int .i64 0, .int .i64 0, .int .i64 0, .int .i64 v.slack, .int .i64 0], GX.Own 60 Ty.ptr v.af v.cf (l ++ [some ⟨x.bl, 0, none⟩]), RowR x.bl 93 [.int .i64 f.u, .int .i64 f.pc, .slice (some ⟨x.vb, 0, none⟩) x.n x.n, .int .i64 f.into, .map (some x.mb)], GX.Own 3 Ty.int (some ⟨x.vb, 0, none⟩) x.n f.vars] (fun _ : Unit => .tuple #[]) (fun _ => []) (fun _ => [RowR p 57 [.slice k.aC t.classes.length k.cC, .slice k.aG t.globals.length k.cG, .slice k.aU t.units.length k.cU, .int .i64 t.main, .slice k.aL (glob t).length k.cL, .pointer (some ⟨k.tp, 0, none⟩), .int .i64 1, .slice v.ai v.ni v.ci, .slice (some ⟨k.gb, 0, none⟩) t.globals.length t.globals.length, .slice v.af v.nf v.cf, .int .i64 v.bound, .map (some k.om), .int .i64 v.en, .int .i64 v.code, .slice v.ao v.no v.co, .int .i64 v.steps, .int .i64 0, .int .i64 0, .int .i64 0, .int .i64 0, .int .i64 v.slack, .int .i64 0], GX.Own 60 Ty.ptr v.af v.cf (l ++ [some ⟨x.bl, 0, none⟩]), RowR x.bl 93 [.int .i64 f.u, .int .i64 (if lkv f.vars i.a ≠ 0 then i.n else i.c), .slice (some ⟨x.vb, 0, none⟩) x.n x.n, .int .i64 f.into, .map (some x.mb)], GX.Own 3 Ty.int (some ⟨x.vb, 0, none⟩) x.n f.vars]) := by
 refine enter Tryz.func59 rfl Tryz.ntmps59 rfl fun _ => ?_
 refine GX.wp_R ?_; intros
 refine GX.o (cl (vI_spec t p k v l x f i.a hn hb hl va) fun _ => ?_)
 by_cases h0 : lkv f.vars i.a ≠ 0
 ·rw [if_pos h0]
  refine GX.wp_R ?_; intros
  refine GX.drawn0  (fun j => !(List.contains [6] j)) [(0, true), (2, true), (3, true), (1, false), (4, true), (5, true), (6, false)] rfl (by kernel_rfl) (by kernel_rfl) GX.sA ?_; intro wd F hW hR
  refine GX.wp_T ?_; intros
  refine GX.gow ?_
  refine (cl (top_spec t p k v l _ hn hb) fun _ => ?_)
  refine GX.wp_T ?_; intros
  refine GX.wp_R ?_; intros
  exact rt0 ()
 ·rw [if_neg h0]
  refine GX.wp_R ?_; intros
  refine GX.drawn0  (fun j => !(List.contains [6] j)) [(0, true), (2, true), (3, true), (1, false), (4, true), (5, true), (6, false)] rfl (by kernel_rfl) (by kernel_rfl) GX.sA ?_; intro wd F hW hR
  refine GX.wp_T ?_; intros
  refine GX.gow ?_
  refine (cl (top_spec t p k v l _ hn hb) fun _ => ?_)
  refine GX.wp_T ?_; intros
  refine GX.wp_R ?_; intros
  exact en0 ()
theorem read_no (t : RTg) (p : Nat) (k : MK) (v : MV) (i : Ins) (cs : List Value) (hi : v.ni = 0) :
  Does Tryz.prog 56 [.pointer (some ⟨p, 0, none⟩), .agg cs.toArray] [Ag tyIns cs i] [RowR p 57 [.slice k.aC t.classes.length k.cC, .slice k.aG t.globals.length k.cG, .slice k.aU t.units.length k.cU, .int .i64 t.main, .slice k.aL (glob t).length k.cL, .pointer (some ⟨k.tp, 0, none⟩), .int .i64 1, .slice v.ai v.ni v.ci, .slice (some ⟨k.gb, 0, none⟩) t.globals.length t.globals.length, .slice v.af v.nf v.cf, .int .i64 v.bound, .map (some k.om), .int .i64 v.en, .int .i64 v.code, .slice v.ao v.no v.co, .int .i64 v.steps, .int .i64 0, .int .i64 0, .int .i64 0, .int .i64 0, .int .i64 v.slack, .int .i64 0]] (fun _ : Unit => .tuple #[]) (fun _ => []) (fun _ => [RowR p 57 [.slice k.aC t.classes.length k.cC, .slice k.aG t.globals.length k.cG, .slice k.aU t.units.length k.cU, .int .i64 t.main, .slice k.aL (glob t).length k.cL, .pointer (some ⟨k.tp, 0, none⟩), .int .i64 1, .slice (trapV v 5).ai (trapV v 5).ni (trapV v 5).ci, .slice (some ⟨k.gb, 0, none⟩) t.globals.length t.globals.length, .slice (trapV v 5).af (trapV v 5).nf (trapV v 5).cf, .int .i64 (trapV v 5).bound, .map (some k.om), .int .i64 (trapV v 5).en, .int .i64 (trapV v 5).code, .slice (trapV v 5).ao (trapV v 5).no (trapV v 5).co, .int .i64 (trapV v 5).steps, .int .i64 0, .int .i64 0, .int .i64 0, .int .i64 0, .int .i64 (trapV v 5).slack, .int .i64 0]]) := by
 refine enter Tryz.func56 rfl Tryz.ntmps56 rfl fun _ => ?_
 refine GX.wp_R ?_; intros
 refine GX.o (cl (trap_spec t p k v 5) fun _ => ?_)
 refine GX.wp_R ?_; intros
 exact rt0 ()
theorem read_yes (t : RTg) (p : Nat) (k : MK) (v : MV) (l : List (Option Addr)) (x : FrC) (f : Fr) (i : Ins) (cs : List Value) (y : Int) (inp : List Int) (hi : v.ni = inp.length + 1) (hn : v.nf = l.length + 1) (hb : l.length ≤ 1000) (hl : f.vars.length = x.n) (va : Vok f i.a) :
  Does Tryz.prog 56 [.pointer (some ⟨p, 0, none⟩), .agg cs.toArray] [Ag tyIns cs i, Sl Ty.int v.ai v.ci (y :: inp)] [RowR p 57 [.slice k.aC t.classes.length k.cC, .slice k.aG t.globals.length k.cG, .slice k.aU t.units.length k.cU, .int .i64 t.main, .slice k.aL (glob t).length k.cL, .pointer (some ⟨k.tp, 0, none⟩), .int .i64 1, .slice v.ai v.ni v.ci, .slice (some ⟨k.gb, 0, none⟩) t.globals.length t.globals.length, .slice v.af v.nf v.cf, .int .i64 v.bound, .map (some k.om), .int .i64 v.en, .int .i64 v.code, .slice v.ao v.no v.co, .int .i64 v.steps, .int .i64 0, .int .i64 0, .int .i64 0, .int .i64 0, .int .i64 v.slack, .int .i64 0], GX.Own 60 Ty.ptr v.af v.cf (l ++ [some ⟨x.bl, 0, none⟩]), RowR x.bl 93 [.int .i64 f.u, .int .i64 f.pc, .slice (some ⟨x.vb, 0, none⟩) x.n x.n, .int .i64 f.into, .map (some x.mb)], GX.Own 3 Ty.int (some ⟨x.vb, 0, none⟩) x.n f.vars] (fun _ : Option Addr × Nat => .tuple #[]) (fun s => [Sl Ty.int s.1 s.2 inp]) (fun s => [RowR p 57 [.slice k.aC t.classes.length k.cC, .slice k.aG t.globals.length k.cG, .slice k.aU t.units.length k.cU, .int .i64 t.main, .slice k.aL (glob t).length k.cL, .pointer (some ⟨k.tp, 0, none⟩), .int .i64 1, .slice s.1 inp.length s.2, .slice (some ⟨k.gb, 0, none⟩) t.globals.length t.globals.length, .slice v.af v.nf v.cf, .int .i64 v.bound, .map (some k.om), .int .i64 v.en, .int .i64 v.code, .slice v.ao v.no v.co, .int .i64 v.steps, .int .i64 0, .int .i64 0, .int .i64 0, .int .i64 0, .int .i64 v.slack, .int .i64 0], GX.Own 60 Ty.ptr v.af v.cf (l ++ [some ⟨x.bl, 0, none⟩]), RowR x.bl 93 [.int .i64 f.u, .int .i64 f.pc, .slice (some ⟨x.vb, 0, none⟩) x.n x.n, .int .i64 f.into, .map (some x.mb)], GX.Own 3 Ty.int (some ⟨x.vb, 0, none⟩) x.n (setv f.vars i.a y)]) := by
 refine enter Tryz.func56 rfl Tryz.ntmps56 rfl fun _ => ?_
 have hx0 : (y :: inp)[0]? = some y := rfl
 have hil : (y :: inp).length = v.ni := by rw [hi]; rfl
 refine GX.wp_R ?_; intros
 refine GX.drawn1 (RowR p 57 [.slice k.aC t.classes.length k.cC, .slice k.aG t.globals.length k.cG, .slice k.aU t.units.length k.cU, .int .i64 t.main, .slice k.aL (glob t).length k.cL, .pointer (some ⟨k.tp, 0, none⟩), .int .i64 1, .slice v.ai v.ni v.ci, .slice (some ⟨k.gb, 0, none⟩) t.globals.length t.globals.length, .slice v.af v.nf v.cf, .int .i64 v.bound, .map (some k.om), .int .i64 v.en, .int .i64 v.code, .slice v.ao v.no v.co, .int .i64 v.steps, .int .i64 0, .int .i64 0, .int .i64 0, .int .i64 0, .int .i64 v.slack, .int .i64 0]) (fun j => !(List.contains [9] j)) [(0, true), (1, true), (2, true), (3, true), (4, true), (5, true), (6, true), (7, true), (8, true), (9, false)] rfl (by kernel_rfl) (by kernel_rfl) GX.sA ?_; intro wd F hW hR
 refine GX.wp_T ?_; intros
 refine GX.unpin (RowR p 57 _) ?_
 refine GX.gow ?_
 refine (cl (setI_spec t p k v l x f i.a y hn hb hl va) fun _ => ?_)
 refine GX.wp_T ?_; intros
 refine GX.wp_R ?_; intros
 refine GX.nmS 27 ?_; rintro a c rfl rfl
 rw [show List.drop (Int.toNat 1) (y :: inp) = inp from rfl]
 exact en0 (a, v.ci - Int.toNat 1)
theorem prints_spec (t : RTg) (p : Nat) (k : MK) (v : MV) (l : List (Option Addr)) (x : FrC) (f : Fr) (i : Ins) (cs : List Value) (O : List Int) (ho : v.no = O.length) (hO : O.length ≤ 1000000000) (hn : v.nf = l.length + 1) (hb : l.length ≤ 1000) (hl : f.vars.length = x.n) (va : Vok f i.a) :
  Does Tryz.prog 57 [.pointer (some ⟨p, 0, none⟩), .agg cs.toArray] [Ag tyIns cs i] [RowR p 57 [.slice k.aC t.classes.length k.cC, .slice k.aG t.globals.length k.cG, .slice k.aU t.units.length k.cU, .int .i64 t.main, .slice k.aL (glob t).length k.cL, .pointer (some ⟨k.tp, 0, none⟩), .int .i64 1, .slice v.ai v.ni v.ci, .slice (some ⟨k.gb, 0, none⟩) t.globals.length t.globals.length, .slice v.af v.nf v.cf, .int .i64 v.bound, .map (some k.om), .int .i64 v.en, .int .i64 v.code, .slice v.ao v.no v.co, .int .i64 v.steps, .int .i64 0, .int .i64 0, .int .i64 0, .int .i64 0, .int .i64 v.slack, .int .i64 0], GX.Own 60 Ty.ptr v.af v.cf (l ++ [some ⟨x.bl, 0, none⟩]), RowR x.bl 93 [.int .i64 f.u, .int .i64 f.pc, .slice (some ⟨x.vb, 0, none⟩) x.n x.n, .int .i64 f.into, .map (some x.mb)], GX.Own 3 Ty.int (some ⟨x.vb, 0, none⟩) x.n f.vars, GX.Own 3 Ty.int v.ao v.co O] (fun _ : Option Addr × Nat => .tuple #[]) (fun _ => []) (fun s => [RowR p 57 [.slice k.aC t.classes.length k.cC, .slice k.aG t.globals.length k.cG, .slice k.aU t.units.length k.cU, .int .i64 t.main, .slice k.aL (glob t).length k.cL, .pointer (some ⟨k.tp, 0, none⟩), .int .i64 1, .slice v.ai v.ni v.ci, .slice (some ⟨k.gb, 0, none⟩) t.globals.length t.globals.length, .slice v.af v.nf v.cf, .int .i64 v.bound, .map (some k.om), .int .i64 v.en, .int .i64 v.code, .slice s.1 (O.length + 1) s.2, .int .i64 v.steps, .int .i64 0, .int .i64 0, .int .i64 0, .int .i64 0, .int .i64 v.slack, .int .i64 0], GX.Own 60 Ty.ptr v.af v.cf (l ++ [some ⟨x.bl, 0, none⟩]), RowR x.bl 93 [.int .i64 f.u, .int .i64 f.pc, .slice (some ⟨x.vb, 0, none⟩) x.n x.n, .int .i64 f.into, .map (some x.mb)], GX.Own 3 Ty.int (some ⟨x.vb, 0, none⟩) x.n f.vars, GX.Own 3 Ty.int s.1 s.2 (O ++ [lkv f.vars i.a])]) := by
 refine enter Tryz.func57 rfl Tryz.ntmps57 rfl fun _ => ?_
 rw [ho]
 have hO1 : (O ++ [lkv f.vars i.a]).length = O.length + 1 := by simp
 refine GX.wp_R ?_; intros
 refine GX.drawn1 (RowR p 57 _) (fun j => !(List.contains [12, 17] j)) [(0, true), (1, true), (2, true), (3, true), (4, true), (5, true), (6, true), (7, true), (8, true), (9, true), (10, false), (11, false), (12, false), (13, true), (14, true), (15, true), (16, true), (17, false)] rfl (by kernel_rfl) (by kernel_rfl) GX.sA ?_; intro wd F hW hR
 refine GX.wp_T ?_; intros
 refine GX.unpin (RowR p 57 _) ?_
 rw [← ho]
 refine GX.gow ?_
 refine (cl (vI_spec t p k v l x f i.a hn hb hl va) fun _ => ?_)
 rw [ho]
 refine GX.wp_T ?_; intros
 refine GX.nmS 16 ?_; rintro a c rfl rfl
 refine GX.wp_R ?_; intros
 rw [hO1]
 exact en0 (a, c)
theorem get_spec (t : RTg) (p : Nat) (k : MK) (v : MV) (l : List (Option Addr)) (x : FrC) (f : Fr) (i : Ins) (cs : List Value) (gl : List Int) (j : Nat) (y : Int) (hgl : gl.length = t.globals.length) (hj : i.n = j) (hy : gl[j]? = some y) (hn : v.nf = l.length + 1) (hb : l.length ≤ 1000) (hl : f.vars.length = x.n) (va : Vok f i.a) :
  Does Tryz.prog 61 [.pointer (some ⟨p, 0, none⟩), .agg cs.toArray] [Ag tyIns cs i] [RowR p 57 [.slice k.aC t.classes.length k.cC, .slice k.aG t.globals.length k.cG, .slice k.aU t.units.length k.cU, .int .i64 t.main, .slice k.aL (glob t).length k.cL, .pointer (some ⟨k.tp, 0, none⟩), .int .i64 1, .slice v.ai v.ni v.ci, .slice (some ⟨k.gb, 0, none⟩) t.globals.length t.globals.length, .slice v.af v.nf v.cf, .int .i64 v.bound, .map (some k.om), .int .i64 v.en, .int .i64 v.code, .slice v.ao v.no v.co, .int .i64 v.steps, .int .i64 0, .int .i64 0, .int .i64 0, .int .i64 0, .int .i64 v.slack, .int .i64 0], GX.Own 60 Ty.ptr v.af v.cf (l ++ [some ⟨x.bl, 0, none⟩]), RowR x.bl 93 [.int .i64 f.u, .int .i64 f.pc, .slice (some ⟨x.vb, 0, none⟩) x.n x.n, .int .i64 f.into, .map (some x.mb)], GX.Own 3 Ty.int (some ⟨x.vb, 0, none⟩) x.n f.vars, GX.Own 3 Ty.int (some ⟨k.gb, 0, none⟩) t.globals.length gl] (fun _ : Unit => .tuple #[]) (fun _ => []) (fun _ => [RowR p 57 [.slice k.aC t.classes.length k.cC, .slice k.aG t.globals.length k.cG, .slice k.aU t.units.length k.cU, .int .i64 t.main, .slice k.aL (glob t).length k.cL, .pointer (some ⟨k.tp, 0, none⟩), .int .i64 1, .slice v.ai v.ni v.ci, .slice (some ⟨k.gb, 0, none⟩) t.globals.length t.globals.length, .slice v.af v.nf v.cf, .int .i64 v.bound, .map (some k.om), .int .i64 v.en, .int .i64 v.code, .slice v.ao v.no v.co, .int .i64 v.steps, .int .i64 0, .int .i64 0, .int .i64 0, .int .i64 0, .int .i64 v.slack, .int .i64 0], GX.Own 60 Ty.ptr v.af v.cf (l ++ [some ⟨x.bl, 0, none⟩]), RowR x.bl 93 [.int .i64 f.u, .int .i64 f.pc, .slice (some ⟨x.vb, 0, none⟩) x.n x.n, .int .i64 f.into, .map (some x.mb)], GX.Own 3 Ty.int (some ⟨x.vb, 0, none⟩) x.n (setv f.vars i.a y), GX.Own 3 Ty.int (some ⟨k.gb, 0, none⟩) t.globals.length gl]) := by
 refine enter Tryz.func61 rfl Tryz.ntmps61 rfl fun _ => ?_
 have hjl : j < gl.length := (List.getElem?_eq_some_iff.1 hy).1
 rw [← hgl]
 refine GX.wp_R ?_; intros
 refine GX.drawn2 (RowR p 57 _) (GX.Own 3 Ty.int (some ⟨k.gb, 0, none⟩) _ _) (fun j => !(List.contains [11] j)) [(0, true), (1, true), (2, true), (3, true), (4, true), (5, true), (6, true), (7, true), (8, true), (9, true), (10, true), (11, false)] rfl (by kernel_rfl) (by kernel_rfl) GX.sA ?_; intro wd F hW hR
 refine GX.wp_T ?_; intros
 rw [hj]
 refine GX.wp_T ?_; intros
 refine GX.unpin (RowR p 57 _) ?_
 refine GX.unpin (GX.Own 3 Ty.int (some ⟨k.gb, 0, none⟩) _ _) ?_
 rw [hgl]
 refine GX.gow ?_
 refine (cl (setI_spec t p k v l x f i.a y hn hb hl va) fun _ => ?_)
 refine GX.wp_T ?_; intros
 refine GX.wp_R ?_; intros
 exact en0 ()
theorem put_spec30 (t : RTg) (p : Nat) (k : MK) (v : MV) (l : List (Option Addr)) (x : FrC) (f : Fr) (i : Ins) (cs : List Value) (gl : List Int) (j : Nat) (hgl : gl.length = t.globals.length) (hj : i.n = j) (hjl : j < gl.length) (hn : v.nf = l.length + 1) (hb : l.length ≤ 1000) (hl : f.vars.length = x.n) (va : Vok f i.a) :
  Does Tryz.prog 62 [.pointer (some ⟨p, 0, none⟩), .agg cs.toArray] [Ag tyIns cs i] [RowR p 57 [.slice k.aC t.classes.length k.cC, .slice k.aG t.globals.length k.cG, .slice k.aU t.units.length k.cU, .int .i64 t.main, .slice k.aL (glob t).length k.cL, .pointer (some ⟨k.tp, 0, none⟩), .int .i64 1, .slice v.ai v.ni v.ci, .slice (some ⟨k.gb, 0, none⟩) t.globals.length t.globals.length, .slice v.af v.nf v.cf, .int .i64 v.bound, .map (some k.om), .int .i64 v.en, .int .i64 v.code, .slice v.ao v.no v.co, .int .i64 v.steps, .int .i64 0, .int .i64 0, .int .i64 0, .int .i64 0, .int .i64 v.slack, .int .i64 0], GX.Own 60 Ty.ptr v.af v.cf (l ++ [some ⟨x.bl, 0, none⟩]), RowR x.bl 93 [.int .i64 f.u, .int .i64 f.pc, .slice (some ⟨x.vb, 0, none⟩) x.n x.n, .int .i64 f.into, .map (some x.mb)], GX.Own 3 Ty.int (some ⟨x.vb, 0, none⟩) x.n f.vars, GX.Own 3 Ty.int (some ⟨k.gb, 0, none⟩) t.globals.length gl] (fun _ : Unit => .tuple #[]) (fun _ => []) (fun _ => [RowR p 57 [.slice k.aC t.classes.length k.cC, .slice k.aG t.globals.length k.cG, .slice k.aU t.units.length k.cU, .int .i64 t.main, .slice k.aL (glob t).length k.cL, .pointer (some ⟨k.tp, 0, none⟩), .int .i64 1, .slice v.ai v.ni v.ci, .slice (some ⟨k.gb, 0, none⟩) t.globals.length t.globals.length, .slice v.af v.nf v.cf, .int .i64 v.bound, .map (some k.om), .int .i64 v.en, .int .i64 v.code, .slice v.ao v.no v.co, .int .i64 v.steps, .int .i64 0, .int .i64 0, .int .i64 0, .int .i64 0, .int .i64 v.slack, .int .i64 0], GX.Own 60 Ty.ptr v.af v.cf (l ++ [some ⟨x.bl, 0, none⟩]), RowR x.bl 93 [.int .i64 f.u, .int .i64 f.pc, .slice (some ⟨x.vb, 0, none⟩) x.n x.n, .int .i64 f.into, .map (some x.mb)], GX.Own 3 Ty.int (some ⟨x.vb, 0, none⟩) x.n f.vars, GX.Own 3 Ty.int (some ⟨k.gb, 0, none⟩) t.globals.length (gl.set j (lkv f.vars i.a))]) := by
 refine enter Tryz.func62 rfl Tryz.ntmps62 rfl fun _ => ?_
 obtain ⟨y, hy⟩ := GX.get_lt hjl
 refine GX.wp_R ?_; intros
 refine GX.drawn1 (RowR p 57 _) (fun j => !(List.contains [11] j)) [(0, true), (1, true), (2, true), (3, true), (4, true), (5, true), (6, true), (7, true), (8, true), (9, false), (10, true), (11, false)] rfl (by kernel_rfl) (by kernel_rfl) GX.sA ?_; intro wd F hW hR
 refine GX.wp_T ?_; intros
 refine GX.unpin (RowR p 57 _) ?_
 refine GX.gow ?_
 refine (cl (vI_spec t p k v l x f i.a hn hb hl va) fun _ => ?_)
 refine GX.wp_T ?_; intros
 rw [← hgl, hj]
 refine GX.wp_T ?_; intros
 refine GX.wp_R ?_; intros
 exact en0 ()
def RegsAt (x : FrC) (f : Fr) : Prop := ∀ c, (x.mp c).getD (.int .i64 0) = .int .i64 (f.regs c)
def regV (T : Tb) (G : List Int) (f : Fr) (c : Int) : Int := if hasB T.B (reg G f c) = true then reg G f c else 0
theorem hasB0 (B : List Bool) : hasB B 0 = false := hasB_neg (by omega)
theorem regV_has (T : Tb) (G : List Int) (f : Fr) (c : Int) : hasB T.B (regV T G f c) = hasB T.B (reg G f c) := by
 unfold regV
 split
 ·rfl
 ·rename_i h; rw [hasB0]; simpa using h
theorem regV_add (T : Tb) (G : List Int) (f : Fr) (c n : Int) : T.add (regV T G f c) n = T.add (reg G f c) n := by
 by_cases h : hasB T.B (reg G f c) = true
 ·unfold regV; rw [if_pos h]
 ·unfold Tb.add; rw [regV_has, if_neg h, if_neg h]
theorem region_spec (t : RTg) (p : Nat) (k : MK) (v : MV) (x : FrC) (f : Fr) (cl_ : Int) (c : TabC) (T : Tb) (hT : TInv c T) (hr : RegsAt x f) :
  Does Tryz.prog 110 [.pointer (some ⟨p, 0, none⟩), .pointer (some ⟨x.bl, 0, none⟩), .int .i64 cl_] [Sl Ty.int k.aL k.cL (glob t)] [RowR p 57 [.slice k.aC t.classes.length k.cC, .slice k.aG t.globals.length k.cG, .slice k.aU t.units.length k.cU, .int .i64 t.main, .slice k.aL (glob t).length k.cL, .pointer (some ⟨k.tp, 0, none⟩), .int .i64 1, .slice v.ai v.ni v.ci, .slice (some ⟨k.gb, 0, none⟩) t.globals.length t.globals.length, .slice v.af v.nf v.cf, .int .i64 v.bound, .map (some k.om), .int .i64 v.en, .int .i64 v.code, .slice v.ao v.no v.co, .int .i64 v.steps, .int .i64 0, .int .i64 0, .int .i64 0, .int .i64 0, .int .i64 v.slack, .int .i64 0], RowR x.bl 93 [.int .i64 f.u, .int .i64 f.pc, .slice (some ⟨x.vb, 0, none⟩) x.n x.n, .int .i64 f.into, .map (some x.mb)], GX.MapR x.mb x.mp, RowR k.tp 86 [.slice c.aR c.R.length c.cR, .slice c.aL c.L.length c.cL, .int .i64 c.gone, .int .i64 c.peak, .int .i64 c.many, .int .i64 c.most], GX.Own 90 tyRegion c.aR c.cR c.R, GX.Own 148 tyThing c.aL c.cL (c.L.map thg), Owns 3 Ty.int (c.L.map (fun x : Th => x.2))] (fun _ : Unit => .int .i64 (regV T (glob t) f cl_)) (fun _ => []) (fun _ => [RowR p 57 [.slice k.aC t.classes.length k.cC, .slice k.aG t.globals.length k.cG, .slice k.aU t.units.length k.cU, .int .i64 t.main, .slice k.aL (glob t).length k.cL, .pointer (some ⟨k.tp, 0, none⟩), .int .i64 1, .slice v.ai v.ni v.ci, .slice (some ⟨k.gb, 0, none⟩) t.globals.length t.globals.length, .slice v.af v.nf v.cf, .int .i64 v.bound, .map (some k.om), .int .i64 v.en, .int .i64 v.code, .slice v.ao v.no v.co, .int .i64 v.steps, .int .i64 0, .int .i64 0, .int .i64 0, .int .i64 0, .int .i64 v.slack, .int .i64 0], RowR x.bl 93 [.int .i64 f.u, .int .i64 f.pc, .slice (some ⟨x.vb, 0, none⟩) x.n x.n, .int .i64 f.into, .map (some x.mb)], GX.MapR x.mb x.mp, RowR k.tp 86 [.slice c.aR c.R.length c.cR, .slice c.aL c.L.length c.cL, .int .i64 c.gone, .int .i64 c.peak, .int .i64 c.many, .int .i64 c.most], GX.Own 90 tyRegion c.aR c.cR c.R, GX.Own 148 tyThing c.aL c.cL (c.L.map thg), Owns 3 Ty.int (c.L.map (fun x : Th => x.2))]) := by
 refine enter Tryz.func110 rfl Tryz.ntmps110 rfl fun _ => ?_
 have h0 := hr cl_
 by_cases hg : cl_ ∈ glob t
 ·refine GX.wp_R ?_; intros
  refine GX.o (cl (contains_spec k.aL k.cL (glob t) cl_) fun _ => ?_)
  refine GX.wp_R ?_; intros
  refine GX.o (cl (tHas_spec k.tp hT 1) fun _ => ?_)
  have e : reg (glob t) f cl_ = 1 := if_pos hg
  by_cases hh : hasB T.B 1 = true
  ·rw [hh, show regV T (glob t) f cl_ = 1 by unfold regV; rw [e, if_pos hh]]
   refine GX.wp_R ?_; intros
   exact rt1 () rfl
  ·rw [show hasB T.B 1 = false by simpa using hh, show regV T (glob t) f cl_ = 0 by unfold regV; rw [e, if_neg hh]]
   refine GX.wp_R ?_; intros
   exact rt1 () rfl
 ·refine GX.wp_R ?_; intros
  refine GX.o (cl (contains_spec k.aL k.cL (glob t) cl_) fun _ => ?_)
  refine GX.wp_R ?_; intros
  refine GX.o (cl (tHas_spec k.tp hT (f.regs cl_)) fun _ => ?_)
  have e : reg (glob t) f cl_ = f.regs cl_ := if_neg hg
  by_cases hh : hasB T.B (f.regs cl_) = true
  ·rw [hh, show regV T (glob t) f cl_ = f.regs cl_ by unfold regV; rw [e, if_pos hh]]
   refine GX.wp_R ?_; intros
   exact rt1 () rfl
  ·rw [show hasB T.B (f.regs cl_) = false by simpa using hh, show regV T (glob t) f cl_ = 0 by unfold regV; rw [e, if_neg hh]]
   refine GX.wp_R ?_; intros
   exact rt1 () rfl
theorem lies_spec (t : RTg) (p : Nat) (k : MK) (v : MV) (l : List (Option Addr)) (x : FrC) (f : Fr) (i : Ins) (cs : List Value) (n : Int) (c : TabC) (T : Tb) (hT : TInv c T) (hB : T.B.length ≤ 1000000000) (hL : T.L.length ≤ 1000000000) (hr : RegsAt x f) (hn : v.nf = l.length + 1) (hb : l.length ≤ 1000) (hl : f.vars.length = x.n) (va : Vok f i.a) :
  Does Tryz.prog 109 [.pointer (some ⟨p, 0, none⟩), .agg cs.toArray, .int .i64 n] [Ag tyIns cs i, Sl Ty.int k.aL k.cL (glob t)] [RowR p 57 [.slice k.aC t.classes.length k.cC, .slice k.aG t.globals.length k.cG, .slice k.aU t.units.length k.cU, .int .i64 t.main, .slice k.aL (glob t).length k.cL, .pointer (some ⟨k.tp, 0, none⟩), .int .i64 1, .slice v.ai v.ni v.ci, .slice (some ⟨k.gb, 0, none⟩) t.globals.length t.globals.length, .slice v.af v.nf v.cf, .int .i64 v.bound, .map (some k.om), .int .i64 v.en, .int .i64 v.code, .slice v.ao v.no v.co, .int .i64 v.steps, .int .i64 0, .int .i64 0, .int .i64 0, .int .i64 0, .int .i64 v.slack, .int .i64 0], GX.Own 60 Ty.ptr v.af v.cf (l ++ [some ⟨x.bl, 0, none⟩]), RowR x.bl 93 [.int .i64 f.u, .int .i64 f.pc, .slice (some ⟨x.vb, 0, none⟩) x.n x.n, .int .i64 f.into, .map (some x.mb)], GX.Own 3 Ty.int (some ⟨x.vb, 0, none⟩) x.n f.vars, GX.MapR x.mb x.mp, RowR k.tp 86 [.slice c.aR c.R.length c.cR, .slice c.aL c.L.length c.cL, .int .i64 c.gone, .int .i64 c.peak, .int .i64 c.many, .int .i64 c.most], GX.Own 90 tyRegion c.aR c.cR c.R, GX.Own 148 tyThing c.aL c.cL (c.L.map thg), Owns 3 Ty.int (c.L.map (fun x : Th => x.2))] (fun _ : { c' : TabC // TInv c' (T.add (reg (glob t) f i.n) n) } => .tuple #[]) (fun _ => [])
   (fun s => [RowR p 57 [.slice k.aC t.classes.length k.cC, .slice k.aG t.globals.length k.cG, .slice k.aU t.units.length k.cU, .int .i64 t.main, .slice k.aL (glob t).length k.cL, .pointer (some ⟨k.tp, 0, none⟩), .int .i64 1, .slice (if hasB T.B (reg (glob t) f i.n) = true then v else ({ v with en := 4, code := 0 } : MV)).ai (if hasB T.B (reg (glob t) f i.n) = true then v else ({ v with en := 4, code := 0 } : MV)).ni (if hasB T.B (reg (glob t) f i.n) = true then v else ({ v with en := 4, code := 0 } : MV)).ci, .slice (some ⟨k.gb, 0, none⟩) t.globals.length t.globals.length, .slice (if hasB T.B (reg (glob t) f i.n) = true then v else ({ v with en := 4, code := 0 } : MV)).af (if hasB T.B (reg (glob t) f i.n) = true then v else ({ v with en := 4, code := 0 } : MV)).nf (if hasB T.B (reg (glob t) f i.n) = true then v else ({ v with en := 4, code := 0 } : MV)).cf, .int .i64 (if hasB T.B (reg (glob t) f i.n) = true then v else ({ v with en := 4, code := 0 } : MV)).bound, .map (some k.om), .int .i64 (if hasB T.B (reg (glob t) f i.n) = true then v else ({ v with en := 4, code := 0 } : MV)).en, .int .i64 (if hasB T.B (reg (glob t) f i.n) = true then v else ({ v with en := 4, code := 0 } : MV)).code, .slice (if hasB T.B (reg (glob t) f i.n) = true then v else ({ v with en := 4, code := 0 } : MV)).ao (if hasB T.B (reg (glob t) f i.n) = true then v else ({ v with en := 4, code := 0 } : MV)).no (if hasB T.B (reg (glob t) f i.n) = true then v else ({ v with en := 4, code := 0 } : MV)).co, .int .i64 (if hasB T.B (reg (glob t) f i.n) = true then v else ({ v with en := 4, code := 0 } : MV)).steps, .int .i64 0, .int .i64 0, .int .i64 0, .int .i64 0, .int .i64 (if hasB T.B (reg (glob t) f i.n) = true then v else ({ v with en := 4, code := 0 } : MV)).slack, .int .i64 0], GX.Own 60 Ty.ptr (if hasB T.B (reg (glob t) f i.n) = true then v else ({ v with en := 4, code := 0 } : MV)).af (if hasB T.B (reg (glob t) f i.n) = true then v else ({ v with en := 4, code := 0 } : MV)).cf (l ++ [some ⟨x.bl, 0, none⟩]), RowR x.bl 93 [.int .i64 f.u, .int .i64 f.pc, .slice (some ⟨x.vb, 0, none⟩) x.n x.n, .int .i64 f.into, .map (some x.mb)], GX.Own 3 Ty.int (some ⟨x.vb, 0, none⟩) x.n (if hasB T.B (reg (glob t) f i.n) = true then setv f.vars i.a ((T.L.length + 1 : Nat) : Int) else f.vars), GX.MapR x.mb x.mp, RowR k.tp 86 [.slice s.1.aR s.1.R.length s.1.cR, .slice s.1.aL s.1.L.length s.1.cL, .int .i64 s.1.gone, .int .i64 s.1.peak, .int .i64 s.1.many, .int .i64 s.1.most], GX.Own 90 tyRegion s.1.aR s.1.cR s.1.R, GX.Own 148 tyThing s.1.aL s.1.cL (s.1.L.map thg), Owns 3 Ty.int (s.1.L.map (fun x : Th => x.2))]) := by
 refine enter Tryz.func109 rfl Tryz.ntmps109 rfl fun _ => ?_
 have e1 := regV_has T (glob t) f i.n
 have e2 := regV_add T (glob t) f i.n n
 refine GX.wp_R ?_; intros
 refine GX.drawn1 (RowR p 57 [.slice k.aC t.classes.length k.cC, .slice k.aG t.globals.length k.cG, .slice k.aU t.units.length k.cU, .int .i64 t.main, .slice k.aL (glob t).length k.cL, .pointer (some ⟨k.tp, 0, none⟩), .int .i64 1, .slice v.ai v.ni v.ci, .slice (some ⟨k.gb, 0, none⟩) t.globals.length t.globals.length, .slice v.af v.nf v.cf, .int .i64 v.bound, .map (some k.om), .int .i64 v.en, .int .i64 v.code, .slice v.ao v.no v.co, .int .i64 v.steps, .int .i64 0, .int .i64 0, .int .i64 0, .int .i64 0, .int .i64 v.slack, .int .i64 0]) (fun j => !(List.contains [11] j)) [(0, true), (1, true), (2, true), (3, true), (4, true), (5, true), (7, true), (8, true), (10, true), (6, false), (9, false), (11, false), (12, true), (13, true), (14, true), (15, true), (16, true)] rfl (by kernel_rfl) (by kernel_rfl) GX.sA ?_; intro wd F hW hR
 refine GX.wp_T ?_; intros
 refine GX.unpin (RowR p 57 _) ?_
 refine GX.gow ?_
 refine (cl (top_spec t p k v l _ hn hb) fun _ => ?_)
 refine GX.wp_T ?_; intros
 refine GX.gow ?_
 refine (cl (region_spec t p k v x f i.n c T hT hr) fun _ => ?_)
 refine GX.wp_T ?_; intros
 refine GX.gow ?_
 refine (cl (tAdd_spec k.tp hT (regV T (glob t) f i.n) n hB hL) fun s => ?_)
 obtain ⟨c', hc'⟩ := s
 dsimp only
 rw [e2] at hc'
 rw [e1]
 by_cases hh : hasB T.B (reg (glob t) f i.n) = true
 ·rw [if_pos hh, if_pos hh, if_pos hh, hh]
  refine GX.wp_T ?_; intros
  refine GX.wp_R ?_; intros
  refine GX.o (cl (setI_spec t p k v l x f i.a _ hn hb hl va) fun _ => ?_)
  refine GX.wp_R ?_; intros
  exact en0 ⟨c', hc'⟩
 ·rw [if_neg hh, if_neg hh, if_neg hh, show hasB T.B (reg (glob t) f i.n) = false by simpa using hh]
  refine GX.wp_T ?_; intros
  refine GX.wp_R ?_; intros
  refine GX.o (cl (ends_spec t p k v 4 0) fun _ => ?_)
  refine GX.wp_R ?_; intros
  exact rt0 ⟨c', hc'⟩
end Go.Proofs.YtomadjefdghliaaGreat
