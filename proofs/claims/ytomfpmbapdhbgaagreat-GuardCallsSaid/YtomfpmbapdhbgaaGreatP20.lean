import Derived.Test.YtomfpmbapdhbgaaGreatP13
import Derived.Test.YtomfpmbapdhbgaaGreatP14
import Derived.Test.YtomfpmbapdhbgaaGreatP18
import Derived.Test.YtomfpmbapdhbgaaGreatP19
/- The walks over guard's passes and stale. -/
namespace Go.Proofs.YtomfpmbapdhbgaaGreat
open Go Go.RR Go.RX Go.GX Go.Api Go.RiseM Go.ReachM Go.RtM Go.LivM
attribute [local irreducible] wpList Code.wp wpPlan Exit.then Exit.inBlock bodyPost NoPanic Went GX.Post GX.Again GX.Meet GX.RowR GX.Own GX.Owns GX.Box GX.Sl GX.Pt GX.Ag GX.MapR GX.Kept GX.Pin wpT GoK AtEnd Both
theorem puts_le (l : List Int) : (puts l).length ≤ l.length := by
  unfold puts
  have key : ∀ (l acc : List Int), (l.foldl put acc).length ≤ acc.length + l.length := by
    intro l
    induction l with
    | nil => simp
    | cons x l ih =>
      intro acc
      have := ih (put acc x)
      have := put_len acc x
      simp only [List.foldl_cons, List.length_cons]; omega
  simpa using key l []
/-- What a unit's instructions may be, for the walks. -/
structure InsOk (t : RTg) (x : Ins) : Prop where
  args : x.args.length ≤ 100000
  call : x.op = 13 → ∃ (j : Nat) (g : Unt), x.c = (j : Int) ∧ t.units[j]? = some g
structure PsS (t : RTg) (k : Int) (u : Unt) (x : Ins) (s : Api.State) where
  a : Option Addr
  c : Nat
  l : List Int
  r : Bool
  hr : r = decide (GuaM.Passes t k u x s)
  hl : r = true → l = GuaM.alive x s.live
set_option maxHeartbeats 2000000 in
theorem passes_spec (bl : Nat) (v : GV) (t : RTg) (u : Unt) (k : Int) (w : Value) (cs ss : List Value) (x : Ins) (s : Api.State) (hs : Small t) (hx : InsOk t x) (hg : (glob t).length ≤ 100000) (hv : s.live.length ≤ 100000) (hu : u.takes.length ≤ 100000) :
    Does Tryz.prog 59 [.pointer (some ⟨bl, 0, none⟩), .agg cs.toArray, .agg ss.toArray] [Ag tyIns cs x, Ag tyState ss s, Sl tyUnt v.aU v.cU t.units, Sl Ty.int v.aV v.cV u.vars, Sl Ty.int v.aT v.cT u.takes, Sl tyIns v.aI v.cI u.ins, Sl tyIns v.aJ v.cJ u.ins, Sl (Ty.slice Ty.int) v.aF v.cF (flds t), Sl Ty.int v.aS v.cS (GuaM.both (glob t) (out t k)), Sl Ty.int v.aL v.cL (glob t), Sl (Ty.slice Ty.int) v.aX v.cX (outs t)] [RowR bl 66 [.slice v.aC t.classes.length v.cC, .slice v.aG t.globals.length v.cG, .slice v.aU t.units.length v.cU, .int .i64 t.main, .int .i64 u.params, .slice v.aV u.vars.length v.cV, .int .i64 u.result, .slice v.aT u.takes.length v.cT, .slice v.aO u.owns.length v.cO, .slice v.aI u.ins.length v.cI, .slice v.aF (flds t).length v.cF, .slice v.aS (GuaM.both (glob t) (out t k)).length v.cS, .slice v.aL (glob t).length v.cL, .slice v.aX (outs t).length v.cX, .int .i64 0, .slice none 0 0, .bool false, .int .i64 0, .int .i64 0, .int .i64 0, .slice v.aJ u.ins.length v.cJ, .slice (some ⟨v.st, 0, none⟩) u.ins.length u.ins.length, w, .slice (some ⟨v.wt, 0, none⟩) u.ins.length u.ins.length]]
      (fun q : PsS t k u x s => .tuple #[.slice q.a q.l.length q.c, .bool q.r]) (fun q => [Sl Ty.int q.a q.c q.l]) (fun _ => [RowR bl 66 [.slice v.aC t.classes.length v.cC, .slice v.aG t.globals.length v.cG, .slice v.aU t.units.length v.cU, .int .i64 t.main, .int .i64 u.params, .slice v.aV u.vars.length v.cV, .int .i64 u.result, .slice v.aT u.takes.length v.cT, .slice v.aO u.owns.length v.cO, .slice v.aI u.ins.length v.cI, .slice v.aF (flds t).length v.cF, .slice v.aS (GuaM.both (glob t) (out t k)).length v.cS, .slice v.aL (glob t).length v.cL, .slice v.aX (outs t).length v.cX, .int .i64 0, .slice none 0 0, .bool false, .int .i64 0, .int .i64 0, .int .i64 0, .slice v.aJ u.ins.length v.cJ, .slice (some ⟨v.st, 0, none⟩) u.ins.length u.ins.length, w, .slice (some ⟨v.wt, 0, none⟩) u.ins.length u.ins.length]]) := by
  refine enter Tryz.func59 rfl Tryz.ntmps59 rfl fun b => ?_
  have hxa := hx.args
  refine GX.wR ?_; intros
  refine GX.drawn0  (fun j => !(List.contains [4] j)) [(0, true), (2, true), (3, true), (1, false), (4, false)] rfl (by kernel_rfl) (by kernel_rfl) (by first | ((repeat (first | apply Go.GX.SelR.nil | apply Go.GX.SelR.cons | (with_reducible apply Go.GX.TakeR.head) | apply Go.GX.TakeR.tail)); done) | (repeat (first | apply Go.GX.SelR.nil | apply Go.GX.SelR.cons | apply Go.GX.TakeR.head | apply Go.GX.TakeR.tail))) ?_; intro wd F hW hR
  refine GX.wT ?_; intros
  refine GX.gow ?_
  refine (cl (uses_spec _ x (by omega)) fun q => ?_)
  obtain ⟨a2, c2⟩ := q
  dsimp only
  refine GX.wT ?_; intros
  refine GX.nmS 13 ?_; rintro aS cS rfl rfl
  refine GX.gow ?_
  refine (cl (gsome_spec a2 aS c2 cS (uses x) s.stale) fun _ => ?_)
  refine GX.wT ?_; intros
  refine GX.nmP 4 ?_; rintro b4 rfl
  refine GX.nmP 5 ?_; rintro b5 rfl
  by_cases hst : ∃ n, n ∈ uses x ∧ n ∈ s.stale
  · refine GX.wR ?_; intros
    refine slNil Ty.int ?_
    exact rt2 ⟨none, 0, [], false, (decide_eq_false fun h => by obtain ⟨n, h1, h2⟩ := hst; exact h.2 n h1 h2).symm, fun h => by cases h⟩ rfl
  have hU : ∀ n ∈ uses x, n ∉ s.stale := fun n h1 h2 => hst ⟨n, h1, h2⟩
  have hP : GuaM.Passes t k u x s ↔ GuaM.CondL t k u x s.live := ⟨fun h => h.1, fun h => ⟨h, hU⟩⟩
  by_cases e21 : x.op = 21
  · have hA : GuaM.alive x s.live = puts (s.live ++ x.args) := by unfold GuaM.alive; rw [if_pos e21]; rfl
    have hC : GuaM.CondL t k u x s.live ↔ (∀ c ∈ x.args, c ∉ s.live) ∧ GuaM.Closed t k (puts (s.live ++ x.args)) := by unfold GuaM.CondL; rw [if_pos e21]; rfl
    have hpl := puts_le (s.live ++ x.args)
    rw [List.length_append] at hpl
    refine GX.wR ?_; intros
    refine GX.nmS 20 ?_; rintro aL cL rfl rfl
    refine GX.nmS 22 ?_; rintro aR cR rfl rfl
    refine GX.o (cl (both_spec aL aR cL cR s.live x.args (by omega) (by omega)) fun q => ?_)
    obtain ⟨a6, c6⟩ := q
    dsimp only
    refine GX.wR ?_; intros
    refine GX.nmS 26 ?_; rintro aR2 cR2 rfl rfl
    refine GX.nmS 28 ?_; rintro aL2 cL2 rfl rfl
    refine GX.o (cl (gsome_spec aR2 aL2 cR2 cL2 x.args s.live) fun _ => ?_)
    by_cases h2 : ∃ n, n ∈ x.args ∧ n ∈ s.live
    · have h2' : ¬ ¬ ∃ n, n ∈ x.args ∧ n ∈ s.live := fun h => h h2
      refine GX.wR ?_; intros
      exact rt2 ⟨a6, c6, _, false, (decide_eq_false (by rw [hP, hC]; rintro ⟨h3, _⟩; obtain ⟨n, h4, h5⟩ := h2; exact h3 n h4 h5)).symm, fun h => by cases h⟩ rfl
    · refine GX.wR ?_; intros
      refine GX.o (cl (closed_spec bl v t u k w a6 c6 (puts (s.live ++ x.args)) hs (by omega)) fun _ => ?_)
      refine GX.wR ?_; intros
      exact rt2 ⟨a6, c6, _, decide (GuaM.Closed t k (puts (s.live ++ x.args))), decide_eq_decide.2 (by rw [hP, hC]; exact ⟨fun h => ⟨fun c h4 h5 => h2 ⟨c, h4, h5⟩, h⟩, fun h => h.2⟩), fun _ => hA.symm⟩ rfl
  by_cases e22 : x.op = 22
  · have hA : GuaM.alive x s.live = GuaM.minus s.live x.args := by unfold GuaM.alive; rw [if_neg e21, if_pos e22]
    have hC : GuaM.CondL t k u x s.live ↔ (∀ c ∈ x.args, c ∈ s.live) ∧ GuaM.Closed t k (GuaM.minus s.live x.args) := by unfold GuaM.CondL; rw [if_neg e21, if_pos e22]
    have hml : (GuaM.minus s.live x.args).length ≤ s.live.length := List.length_filter_le _ _
    refine GX.wR ?_; intros
    refine GX.nmS 39 ?_; rintro aL cL rfl rfl
    refine GX.nmS 41 ?_; rintro aR cR rfl rfl
    refine GX.o (cl (gminus_spec aL aR cL cR s.live x.args (by omega)) fun q => ?_)
    obtain ⟨a6, c6⟩ := q
    dsimp only
    refine GX.wR ?_; intros
    refine GX.nmS 45 ?_; rintro aR2 cR2 rfl rfl
    refine GX.nmS 47 ?_; rintro aL2 cL2 rfl rfl
    refine GX.o (cl (gall_spec aR2 aL2 cR2 cL2 x.args s.live) fun _ => ?_)
    by_cases h2 : ∀ n ∈ x.args, n ∈ s.live
    · refine GX.wR ?_; intros
      refine GX.o (cl (closed_spec bl v t u k w a6 c6 (GuaM.minus s.live x.args) hs (by omega)) fun _ => ?_)
      refine GX.wR ?_; intros
      exact rt2 ⟨a6, c6, _, decide (GuaM.Closed t k (GuaM.minus s.live x.args)), decide_eq_decide.2 (by rw [hP, hC]; exact ⟨fun h => ⟨h2, h⟩, fun h => h.2⟩), fun _ => hA.symm⟩ rfl
    · refine GX.wR ?_; intros
      exact rt2 ⟨a6, c6, _, false, (decide_eq_false (by rw [hP, hC]; exact fun h => h2 h.1)).symm, fun h => by cases h⟩ rfl
  have hA : s.live = GuaM.alive x s.live := by unfold GuaM.alive; rw [if_neg e21, if_neg e22]
  by_cases e13 : x.op = 13
  · have hC : GuaM.CondL t k u x s.live ↔ GuaM.CallC t k u x s.live := by unfold GuaM.CondL; rw [if_neg e21, if_neg e22, if_neg (by omega), if_pos e13]
    obtain ⟨j, g, hj, hg2⟩ := hx.call e13
    refine GX.wR ?_; intros
    refine GX.drawn1 (RowR bl 66 [.slice v.aC t.classes.length v.cC, .slice v.aG t.globals.length v.cG, .slice v.aU t.units.length v.cU, .int .i64 t.main, .int .i64 u.params, .slice v.aV u.vars.length v.cV, .int .i64 u.result, .slice v.aT u.takes.length v.cT, .slice v.aO u.owns.length v.cO, .slice v.aI u.ins.length v.cI, .slice v.aF (flds t).length v.cF, .slice v.aS (GuaM.both (glob t) (out t k)).length v.cS, .slice v.aL (glob t).length v.cL, .slice v.aX (outs t).length v.cX, .int .i64 0, .slice none 0 0, .bool false, .int .i64 0, .int .i64 0, .int .i64 0, .slice v.aJ u.ins.length v.cJ, .slice (some ⟨v.st, 0, none⟩) u.ins.length u.ins.length, w, .slice (some ⟨v.wt, 0, none⟩) u.ins.length u.ins.length]) (fun j => !(List.contains [] j)) [(0, true), (1, true), (2, true), (3, true), (4, true), (5, true), (6, false), (7, true), (8, true)] rfl (by kernel_rfl) (by kernel_rfl) (by first | ((repeat (first | apply Go.GX.SelR.nil | apply Go.GX.SelR.cons | (with_reducible apply Go.GX.TakeR.head) | apply Go.GX.TakeR.tail)); done) | (repeat (first | apply Go.GX.SelR.nil | apply Go.GX.SelR.cons | apply Go.GX.TakeR.head | apply Go.GX.TakeR.tail))) ?_; intro wd F hW hR
    refine GX.wT ?_; intros
    refine GX.nmS 78 ?_; rintro a7 c7 rfl rfl
    refine GX.nmA 80 ?_; rintro cs2 rfl
    refine GX.nmS 82 ?_; rintro aL cL rfl rfl
    refine GX.unpin (RowR bl 66 [.slice v.aC t.classes.length v.cC, .slice v.aG t.globals.length v.cG, .slice v.aU t.units.length v.cU, .int .i64 t.main, .int .i64 u.params, .slice v.aV u.vars.length v.cV, .int .i64 u.result, .slice v.aT u.takes.length v.cT, .slice v.aO u.owns.length v.cO, .slice v.aI u.ins.length v.cI, .slice v.aF (flds t).length v.cF, .slice v.aS (GuaM.both (glob t) (out t k)).length v.cS, .slice v.aL (glob t).length v.cL, .slice v.aX (outs t).length v.cX, .int .i64 0, .slice none 0 0, .bool false, .int .i64 0, .int .i64 0, .int .i64 0, .slice v.aJ u.ins.length v.cJ, .slice (some ⟨v.st, 0, none⟩) u.ins.length u.ins.length, w, .slice (some ⟨v.wt, 0, none⟩) u.ins.length u.ins.length]) ?_
    refine GX.gow ?_
    refine (cl (gcall_spec bl v t u k w aL cL s.live cs2 x g j hj hg2 (by omega) (by omega)) fun _ => ?_)
    refine GX.wT ?_; intros
    refine GX.wR ?_; intros
    exact rt2 ⟨a7, c7, s.live, decide (GuaM.CallC t k u x s.live), decide_eq_decide.2 (by rw [hP, hC]), fun _ => hA⟩ rfl
  by_cases e18 : x.op = 18
  · have hC : GuaM.CondL t k u x s.live ↔ s.live = [] := by unfold GuaM.CondL; rw [if_neg e21, if_neg e22, if_neg (by omega), if_neg e13, if_pos e18]
    refine GX.wR ?_; intros
    refine GX.drawn0  (fun j => !(List.contains [] j)) [(0, true), (1, true), (2, true), (3, true), (4, true), (5, true), (6, true), (7, true)] rfl (by kernel_rfl) (by kernel_rfl) (by first | ((repeat (first | apply Go.GX.SelR.nil | apply Go.GX.SelR.cons | (with_reducible apply Go.GX.TakeR.head) | apply Go.GX.TakeR.tail)); done) | (repeat (first | apply Go.GX.SelR.nil | apply Go.GX.SelR.cons | apply Go.GX.TakeR.head | apply Go.GX.TakeR.tail))) ?_; intro wd F hW hR
    refine GX.wT ?_; intros
    refine GX.wR ?_; intros
    refine GX.nmS 87 ?_; rintro a7 c7 rfl rfl
    exact rt2 ⟨a7, c7, s.live, decide ((s.live.length : Int) = 0), decide_eq_decide.2 (by rw [hP, hC, ← List.length_eq_zero_iff]; omega), fun _ => hA⟩ rfl
  by_cases e11 : x.op = 11 ∨ x.op = 12
  · have hC : GuaM.CondL t k u x s.live ↔ x.n ∈ glob t ∨ x.n ∈ s.live ∨ x.n ∈ u.takes := by unfold GuaM.CondL; rw [if_neg e21, if_neg e22, if_pos e11]
    have hpl := puts_le (glob t ++ s.live)
    rw [List.length_append] at hpl
    have hmem : x.n ∈ puts (puts (glob t ++ s.live) ++ u.takes) ↔ x.n ∈ glob t ∨ x.n ∈ s.live ∨ x.n ∈ u.takes := by
      rw [(puts_spec _).2, List.mem_append, (puts_spec _).2, List.mem_append, or_assoc]
    by_cases o11 : x.op = 11
    · refine GX.wR ?_; intros
      refine GX.drawn1 (RowR bl 66 [.slice v.aC t.classes.length v.cC, .slice v.aG t.globals.length v.cG, .slice v.aU t.units.length v.cU, .int .i64 t.main, .int .i64 u.params, .slice v.aV u.vars.length v.cV, .int .i64 u.result, .slice v.aT u.takes.length v.cT, .slice v.aO u.owns.length v.cO, .slice v.aI u.ins.length v.cI, .slice v.aF (flds t).length v.cF, .slice v.aS (GuaM.both (glob t) (out t k)).length v.cS, .slice v.aL (glob t).length v.cL, .slice v.aX (outs t).length v.cX, .int .i64 0, .slice none 0 0, .bool false, .int .i64 0, .int .i64 0, .int .i64 0, .slice v.aJ u.ins.length v.cJ, .slice (some ⟨v.st, 0, none⟩) u.ins.length u.ins.length, w, .slice (some ⟨v.wt, 0, none⟩) u.ins.length u.ins.length]) (fun j => !(List.contains [] j)) [(0, true), (1, true), (2, true), (3, true), (4, true), (5, true), (6, true), (7, true), (9, true), (10, true), (11, true), (12, true), (13, true), (15, true), (16, true), (8, false), (14, false), (17, false), (18, true), (19, true)] rfl (by kernel_rfl) (by kernel_rfl) (by first | ((repeat (first | apply Go.GX.SelR.nil | apply Go.GX.SelR.cons | (with_reducible apply Go.GX.TakeR.head) | apply Go.GX.TakeR.tail)); done) | (repeat (first | apply Go.GX.SelR.nil | apply Go.GX.SelR.cons | apply Go.GX.TakeR.head | apply Go.GX.TakeR.tail))) ?_; intro wd F hW hR
      refine GX.wT ?_; intros
      refine GX.nmS 58 ?_; rintro a7 c7 rfl rfl
      refine GX.nmS 64 ?_; rintro aL cL rfl rfl
      refine GX.gow ?_
      refine (cl (both_spec v.aL aL v.cL cL (glob t) s.live (by omega) (by omega)) fun q => ?_)
      obtain ⟨a8, c8⟩ := q
      dsimp only
      refine GX.wT ?_; intros
      refine GX.gow ?_
      refine (cl (both_spec a8 v.aT c8 v.cT (puts (glob t ++ s.live)) u.takes (by omega) (by omega)) fun q => ?_)
      obtain ⟨a9, c9⟩ := q
      dsimp only
      refine GX.wT ?_; intros
      refine GX.gow ?_
      refine (cl (contains_spec a9 c9 (puts (puts (glob t ++ s.live) ++ u.takes)) x.n) fun _ => ?_)
      refine GX.wT ?_; intros
      refine GX.unpin (RowR bl 66 [.slice v.aC t.classes.length v.cC, .slice v.aG t.globals.length v.cG, .slice v.aU t.units.length v.cU, .int .i64 t.main, .int .i64 u.params, .slice v.aV u.vars.length v.cV, .int .i64 u.result, .slice v.aT u.takes.length v.cT, .slice v.aO u.owns.length v.cO, .slice v.aI u.ins.length v.cI, .slice v.aF (flds t).length v.cF, .slice v.aS (GuaM.both (glob t) (out t k)).length v.cS, .slice v.aL (glob t).length v.cL, .slice v.aX (outs t).length v.cX, .int .i64 0, .slice none 0 0, .bool false, .int .i64 0, .int .i64 0, .int .i64 0, .slice v.aJ u.ins.length v.cJ, .slice (some ⟨v.st, 0, none⟩) u.ins.length u.ins.length, w, .slice (some ⟨v.wt, 0, none⟩) u.ins.length u.ins.length]) ?_
      refine GX.wR ?_; intros
      exact rt2 ⟨a7, c7, s.live, decide (x.n ∈ puts (puts (glob t ++ s.live) ++ u.takes)), decide_eq_decide.2 (by rw [hP, hC]; exact hmem), fun _ => hA⟩ rfl
    · have o12 : x.op = 12 := e11.resolve_left o11
      refine GX.wR ?_; intros
      refine GX.drawn1 (RowR bl 66 [.slice v.aC t.classes.length v.cC, .slice v.aG t.globals.length v.cG, .slice v.aU t.units.length v.cU, .int .i64 t.main, .int .i64 u.params, .slice v.aV u.vars.length v.cV, .int .i64 u.result, .slice v.aT u.takes.length v.cT, .slice v.aO u.owns.length v.cO, .slice v.aI u.ins.length v.cI, .slice v.aF (flds t).length v.cF, .slice v.aS (GuaM.both (glob t) (out t k)).length v.cS, .slice v.aL (glob t).length v.cL, .slice v.aX (outs t).length v.cX, .int .i64 0, .slice none 0 0, .bool false, .int .i64 0, .int .i64 0, .int .i64 0, .slice v.aJ u.ins.length v.cJ, .slice (some ⟨v.st, 0, none⟩) u.ins.length u.ins.length, w, .slice (some ⟨v.wt, 0, none⟩) u.ins.length u.ins.length]) (fun j => !(List.contains [] j)) [(0, true), (1, true), (2, true), (3, true), (4, true), (5, true), (6, true), (7, true), (9, true), (10, true), (11, true), (12, true), (13, true), (15, true), (16, true), (8, false), (14, false), (17, false), (18, true), (19, true)] rfl (by kernel_rfl) (by kernel_rfl) (by first | ((repeat (first | apply Go.GX.SelR.nil | apply Go.GX.SelR.cons | (with_reducible apply Go.GX.TakeR.head) | apply Go.GX.TakeR.tail)); done) | (repeat (first | apply Go.GX.SelR.nil | apply Go.GX.SelR.cons | apply Go.GX.TakeR.head | apply Go.GX.TakeR.tail))) ?_; intro wd F hW hR
      refine GX.wT ?_; intros
      refine GX.nmS 58 ?_; rintro a7 c7 rfl rfl
      refine GX.nmS 64 ?_; rintro aL cL rfl rfl
      refine GX.gow ?_
      refine (cl (both_spec v.aL aL v.cL cL (glob t) s.live (by omega) (by omega)) fun q => ?_)
      obtain ⟨a8, c8⟩ := q
      dsimp only
      refine GX.wT ?_; intros
      refine GX.gow ?_
      refine (cl (both_spec a8 v.aT c8 v.cT (puts (glob t ++ s.live)) u.takes (by omega) (by omega)) fun q => ?_)
      obtain ⟨a9, c9⟩ := q
      dsimp only
      refine GX.wT ?_; intros
      refine GX.gow ?_
      refine (cl (contains_spec a9 c9 (puts (puts (glob t ++ s.live) ++ u.takes)) x.n) fun _ => ?_)
      refine GX.wT ?_; intros
      refine GX.unpin (RowR bl 66 [.slice v.aC t.classes.length v.cC, .slice v.aG t.globals.length v.cG, .slice v.aU t.units.length v.cU, .int .i64 t.main, .int .i64 u.params, .slice v.aV u.vars.length v.cV, .int .i64 u.result, .slice v.aT u.takes.length v.cT, .slice v.aO u.owns.length v.cO, .slice v.aI u.ins.length v.cI, .slice v.aF (flds t).length v.cF, .slice v.aS (GuaM.both (glob t) (out t k)).length v.cS, .slice v.aL (glob t).length v.cL, .slice v.aX (outs t).length v.cX, .int .i64 0, .slice none 0 0, .bool false, .int .i64 0, .int .i64 0, .int .i64 0, .slice v.aJ u.ins.length v.cJ, .slice (some ⟨v.st, 0, none⟩) u.ins.length u.ins.length, w, .slice (some ⟨v.wt, 0, none⟩) u.ins.length u.ins.length]) ?_
      refine GX.wR ?_; intros
      exact rt2 ⟨a7, c7, s.live, decide (x.n ∈ puts (puts (glob t ++ s.live) ++ u.takes)), decide_eq_decide.2 (by rw [hP, hC]; exact hmem), fun _ => hA⟩ rfl
  · have hC : GuaM.CondL t k u x s.live ↔ True := by unfold GuaM.CondL; rw [if_neg e21, if_neg e22, if_neg e11, if_neg e13, if_neg e18]
    have n11 : ¬ x.op = 11 := fun h => e11 (.inl h)
    have n12 : ¬ x.op = 12 := fun h => e11 (.inr h)
    refine GX.wR ?_; intros
    refine GX.nmS 93 ?_; rintro a7 c7 rfl rfl
    exact rt2 ⟨a7, c7, s.live, true, (decide_eq_true (by rw [hP, hC]; trivial)).symm, fun _ => hA⟩ rfl
/-- The first of the variables that are gone. -/
def gonT (u : Unt) (x : Ins) (i : Nat) : List Int := ((List.range i).filter fun v => decide (u.vars.getD v (-3) ∈ x.args)).map fun v => ((v : Nat) : Int)
theorem gonT_succ {u : Unt} {x : Ins} {i : Nat} {c : Int} (hc : u.vars[i]? = some c) : gonT u x (i + 1) = gonT u x i ++ if c ∈ x.args then [(i : Int)] else [] := by
  have hd : u.vars.getD i (-3) = c := by rw [List.getD_eq_getElem?_getD, hc]; rfl
  unfold gonT
  rw [List.range_succ, List.filter_append, List.map_append]
  congr 1
  rw [List.filter_cons, hd]
  by_cases h : c ∈ x.args <;> simp [h]
theorem gonT_len (u : Unt) (x : Ins) (i : Nat) : (gonT u x i).length ≤ i := by
  unfold gonT
  rw [List.length_map]
  have := List.length_filter_le (fun v => decide (u.vars.getD v (-3) ∈ x.args)) (List.range i)
  rwa [List.length_range] at this
theorem rise_puts {l : List Int} (h : Rise l) : puts l = l := Rise.eq (puts_spec l).1 h fun x => (puts_spec l).2 x
set_option maxHeartbeats 2000000 in
theorem gstale_spec (bl : Nat) (v : GV) (t : RTg) (u : Unt) (k : Int) (w : Value) (cs : List Value) (x : Ins) (a : Option Addr) (cp : Nat) (L : List Int) (hR : Rise L) (hL : L.length ≤ 100000) (hu : u.vars.length ≤ 100000) :
    Does Tryz.prog 60 [.pointer (some ⟨bl, 0, none⟩), .agg cs.toArray, .slice a L.length cp] [Ag tyIns cs x, Sl Ty.int a cp L, Sl tyUnt v.aU v.cU t.units, Sl Ty.int v.aV v.cV u.vars, Sl Ty.int v.aT v.cT u.takes, Sl tyIns v.aI v.cI u.ins, Sl tyIns v.aJ v.cJ u.ins, Sl (Ty.slice Ty.int) v.aF v.cF (flds t), Sl Ty.int v.aS v.cS (GuaM.both (glob t) (out t k)), Sl Ty.int v.aL v.cL (glob t), Sl (Ty.slice Ty.int) v.aX v.cX (outs t)] [RowR bl 66 [.slice v.aC t.classes.length v.cC, .slice v.aG t.globals.length v.cG, .slice v.aU t.units.length v.cU, .int .i64 t.main, .int .i64 u.params, .slice v.aV u.vars.length v.cV, .int .i64 u.result, .slice v.aT u.takes.length v.cT, .slice v.aO u.owns.length v.cO, .slice v.aI u.ins.length v.cI, .slice v.aF (flds t).length v.cF, .slice v.aS (GuaM.both (glob t) (out t k)).length v.cS, .slice v.aL (glob t).length v.cL, .slice v.aX (outs t).length v.cX, .int .i64 0, .slice none 0 0, .bool false, .int .i64 0, .int .i64 0, .int .i64 0, .slice v.aJ u.ins.length v.cJ, .slice (some ⟨v.st, 0, none⟩) u.ins.length u.ins.length, w, .slice (some ⟨v.wt, 0, none⟩) u.ins.length u.ins.length]]
      (fun q : Option Addr × Nat => .slice q.1 (GuaM.staleOut u x L).length q.2) (fun q => [Sl Ty.int q.1 q.2 (GuaM.staleOut u x L)]) (fun _ => [RowR bl 66 [.slice v.aC t.classes.length v.cC, .slice v.aG t.globals.length v.cG, .slice v.aU t.units.length v.cU, .int .i64 t.main, .int .i64 u.params, .slice v.aV u.vars.length v.cV, .int .i64 u.result, .slice v.aT u.takes.length v.cT, .slice v.aO u.owns.length v.cO, .slice v.aI u.ins.length v.cI, .slice v.aF (flds t).length v.cF, .slice v.aS (GuaM.both (glob t) (out t k)).length v.cS, .slice v.aL (glob t).length v.cL, .slice v.aX (outs t).length v.cX, .int .i64 0, .slice none 0 0, .bool false, .int .i64 0, .int .i64 0, .int .i64 0, .slice v.aJ u.ins.length v.cJ, .slice (some ⟨v.st, 0, none⟩) u.ins.length u.ins.length, w, .slice (some ⟨v.wt, 0, none⟩) u.ins.length u.ins.length]]) := by
  refine enter Tryz.func60 rfl Tryz.ntmps60 rfl fun b => ?_
  by_cases e22 : x.op = 22
  · have hS : GuaM.staleOut u x L = GuaM.minus (puts (L ++ gonT u x u.vars.length)) [def_ x] := by
      unfold GuaM.staleOut GuaM.goneL
      rw [if_pos e22]; rfl
    refine GX.wR ?_; intros
    refine GX.nmP 4 ?_; rintro b4 rfl
    refine GX.ownNil 3 Ty.int ?_
    refine GX.loop (σ := Nat × Option Addr × Nat) (fun s => [(0, .pointer (some ⟨bl, 0, none⟩)), (2, .slice a L.length cp), (4, .pointer (some ⟨b4, 0, none⟩)), (7, .slice s.2.1 (gonT u x s.1).length s.2.2), (17, .slice v.aV u.vars.length v.cV), (18, .int .i64 (u.vars.length : Int)), (19, .int .i64 (s.1 : Int))]) (fun _ => []) (fun s => [GX.Own 3 Ty.int s.2.1 s.2.2 (gonT u x s.1), RowR bl 66 [.slice v.aC t.classes.length v.cC, .slice v.aG t.globals.length v.cG, .slice v.aU t.units.length v.cU, .int .i64 t.main, .int .i64 u.params, .slice v.aV u.vars.length v.cV, .int .i64 u.result, .slice v.aT u.takes.length v.cT, .slice v.aO u.owns.length v.cO, .slice v.aI u.ins.length v.cI, .slice v.aF (flds t).length v.cF, .slice v.aS (GuaM.both (glob t) (out t k)).length v.cS, .slice v.aL (glob t).length v.cL, .slice v.aX (outs t).length v.cX, .int .i64 0, .slice none 0 0, .bool false, .int .i64 0, .int .i64 0, .int .i64 0, .slice v.aJ u.ins.length v.cJ, .slice (some ⟨v.st, 0, none⟩) u.ins.length u.ins.length, w, .slice (some ⟨v.wt, 0, none⟩) u.ins.length u.ins.length]])
      (fun s => s.1 ≤ u.vars.length) (fun s => u.vars.length - s.1) (0, none, 0) ⟨rfl, rfl, rfl, rfl, rfl, rfl, rfl, trivial⟩ (by simp) (fun s hi => ?_)
    obtain ⟨i, aG, cG⟩ := s
    dsimp only at *
    have hgl := gonT_len u x i
    by_cases hlt : i < u.vars.length
    · obtain ⟨c, hc⟩ := get_lt hlt
      have hsc := gonT_succ (x := x) hc
      refine GX.wR ?_; intros
      refine GX.nmS 25 ?_; rintro aA cA rfl rfl
      refine GX.o (cl (contains_spec aA cA x.args c) fun _ => ?_)
      by_cases h : c ∈ x.args
      · rw [if_pos h] at hsc
        refine GX.wR ?_; intros
        rw [← hsc]
        exact again (i + 1, _, _) ⟨rfl, rfl, rfl, rfl, rfl, rfl, rfl, trivial⟩ (by dsimp only; omega) (by dsimp only; omega)
      · rw [if_neg h, List.append_nil] at hsc
        refine GX.wR ?_; intros
        rw [← hsc]
        exact again (i + 1, aG, cG) ⟨rfl, rfl, rfl, rfl, rfl, rfl, rfl, trivial⟩ (by dsimp only; omega) (by dsimp only; omega)
    · have hil : i = u.vars.length := by omega
      subst hil
      refine frz aG ?_
      refine GX.wR ?_; intros
      refine GX.o (cl (both_spec a aG cp cG L (gonT u x u.vars.length) (by omega) (by omega)) fun q => ?_)
      obtain ⟨a6, c6⟩ := q
      dsimp only
      have hpl := puts_le (L ++ gonT u x u.vars.length)
      rw [List.length_append] at hpl
      refine GX.wR ?_; intros
      refine GX.nmA 37 ?_; rintro cs2 rfl
      refine GX.o (cl (def_spec cs2 x) fun _ => ?_)
      refine GX.wR ?_; intros
      refine GX.nmB 39 ?_; rintro b7 rfl
      refine GX.o (cl (gminus_spec a6 (some ⟨b7, 0, none⟩) c6 1 (puts (L ++ gonT u x u.vars.length)) [def_ x] (by omega)) fun q => ?_)
      rw [← hS]
      refine GX.wR ?_; intros
      exact rt1 q rfl
  · have hS : GuaM.staleOut u x L = GuaM.minus L [def_ x] := by
      unfold GuaM.staleOut GuaM.goneL GuaM.both
      rw [if_neg e22, List.append_nil, rise_puts hR]
    refine GX.wR ?_; intros
    refine GX.nmA 37 ?_; rintro cs2 rfl
    refine GX.o (cl (def_spec cs2 x) fun _ => ?_)
    refine GX.wR ?_; intros
    refine GX.nmB 39 ?_; rintro b7 rfl
    refine GX.o (cl (gminus_spec a (some ⟨b7, 0, none⟩) cp 1 L [def_ x] (by omega)) fun q => ?_)
    rw [← hS]
    refine GX.wR ?_; intros
    exact rt1 q rfl
end Go.Proofs.YtomfpmbapdhbgaaGreat

/- The walk over Ints of the reference of chapter 15. -/
namespace Go.Proofs.YtomfpmbapdhbgaaGreat
open Go Go.RR Go.RX Go.GX
attribute [local irreducible] wpList Code.wp wpPlan Exit.then Exit.inBlock bodyPost NoPanic Went GX.Post GX.Again GX.Meet GX.RowR GX.Own GX.Owns GX.Box GX.Sl GX.Pt GX.Ag GX.MapR GX.Kept GX.Pin

theorem take_eq_succ {α : Type} {xs ys : List α} {i : Nat} {x : α} (h : xs.take i = ys.take i) (hx : xs[i]? = some x) (hy : ys[i]? = some x) : xs.take (i + 1) = ys.take (i + 1) := by
  rw [List.take_add_one, List.take_add_one, h, hx, hy]

theorem ints_same (ao1 ao2 : Option Addr) (cap1 cap2 : Nat) (xs ys : List Int) : Does Tryz.prog 17 [.slice ao1 xs.length cap1, .slice ao2 ys.length cap2] [Sl Ty.int ao1 cap1 xs, Sl Ty.int ao2 cap2 ys] []
    (fun _ : Unit => .bool (decide (xs = ys))) (fun _ => []) (fun _ => []) := by
  refine enter Tryz.func17 rfl Tryz.ntmps17 rfl fun b => ?_
  refine sln ao1 fun h1 h2 _ => ?_
  by_cases hl : xs.length = ys.length
  · repeat (first | (apply GX.s_list; first | apply GX.nil | (refine GX.o ?_; first | (apply GX.k_load; first | refine GX.lr ?_ | refine GX.lrA ?_ | refine GX.ln ?_ | refine GX.lb ?_ | refine GX.lh ?_ | (refine GX.ls ?_; intro ao cap _ _) | (refine GX.lA ?_; intro cs) | (refine GX.l0 ?_; intro cs) | refine GX.o1n ?_ | refine GX.o1b ?_ | refine GX.o1h ?_ | (refine GX.o1s ?_; intro ao cap _ _) | refine GX.omn ?_ | refine GX.omb ?_ | refine GX.omh ?_ | (refine GX.oms ?_; intro ao cap _ _) | refine GX.ofn ?_ | refine GX.ofb ?_ | refine GX.ofh ?_ | (refine GX.ofs ?_; intro ao cap _ _) | (refine GX.oA ?_; intro cs)) | (apply GX.k_move; refine GX.m ?_) | (apply GX.k_indexAddr; first | refine GX.io1 ?_ | refine GX.ioh ?_ | refine GX.i1 ?_ | refine GX.ih ?_ | (refine GX.ix ?_; intro bl o)) | (apply GX.k_binOp_lss; refine GX.b_lss ?_) | (apply GX.k_binOp_add; first | refine GX.b_inc ?_ | refine GX.b_add ?_ | refine GX.b_addw ?_) | (apply GX.k_assign; refine GX.a ?_) | (apply GX.k_call; refine GX.c_len ?_) | (apply GX.k_binOp_neq; first | refine GX.b_neq ?_ | refine GX.b_pm ?_ | refine GX.b_nm ?_ | refine GX.b_neqs ?_ | refine GX.b_neqtf ?_ | refine GX.b_neqft ?_ | refine GX.b_neqb ?_)) | refine GX.gt ?_ | refine GX.gf ?_ | refine GX.gbt ?_ | refine GX.gbf ?_ | refine GX.un ?_ | refine GX.un0 ?_) | apply GX.then_normal | apply GX.seq | apply GX.region | (apply GX.s_cond; first | refine GX.ct ?_ | refine GX.cf ?_ | refine GX.cdf ?_ | refine GX.cdt ?_ | refine GX.cbt ?_ | refine GX.cbf ?_) | apply GX.skip | apply GX.block | apply GX.inBlock_normal | apply GX.exit | apply GX.then_exit | apply GX.inBlock_exit | refine GX.ibo ?_ | apply GX.ret | apply GX.then_ret | apply GX.inBlock_ret)
    refine GX.loop (σ := Nat) (fun i => [(0, .slice ao1 xs.length cap1), (1, .slice ao2 ys.length cap2), (5, .int .i64 (i : Int))]) (fun _ => []) (fun _ => [])
      (fun i => i ≤ xs.length ∧ xs.take i = ys.take i) (fun i => xs.length - i) 0 ⟨rfl, rfl, rfl, trivial⟩ ⟨by omega, by simp⟩ (fun i hi => ?_)
    obtain ⟨hi, ht⟩ := hi
    by_cases hlt : i < xs.length
    · obtain ⟨x, hx⟩ := get_lt hlt
      obtain ⟨y, hy⟩ := get_lt (show i < ys.length by omega)
      by_cases hxy : x = y
      · repeat (first | (apply GX.s_list; first | apply GX.nil | (refine GX.o ?_; first | (apply GX.k_load; first | refine GX.lr ?_ | refine GX.lrA ?_ | refine GX.ln ?_ | refine GX.lb ?_ | refine GX.lh ?_ | (refine GX.ls ?_; intro ao cap _ _) | (refine GX.lA ?_; intro cs) | (refine GX.l0 ?_; intro cs) | refine GX.o1n ?_ | refine GX.o1b ?_ | refine GX.o1h ?_ | (refine GX.o1s ?_; intro ao cap _ _) | refine GX.omn ?_ | refine GX.omb ?_ | refine GX.omh ?_ | (refine GX.oms ?_; intro ao cap _ _) | refine GX.ofn ?_ | refine GX.ofb ?_ | refine GX.ofh ?_ | (refine GX.ofs ?_; intro ao cap _ _) | (refine GX.oA ?_; intro cs)) | (apply GX.k_move; refine GX.m ?_) | (apply GX.k_indexAddr; first | refine GX.io1 ?_ | refine GX.ioh ?_ | refine GX.i1 ?_ | refine GX.ih ?_ | (refine GX.ix ?_; intro bl o)) | (apply GX.k_binOp_lss; refine GX.b_lss ?_) | (apply GX.k_binOp_add; first | refine GX.b_inc ?_ | refine GX.b_add ?_ | refine GX.b_addw ?_) | (apply GX.k_assign; refine GX.a ?_) | (apply GX.k_call; refine GX.c_len ?_) | (apply GX.k_binOp_neq; first | refine GX.b_neq ?_ | refine GX.b_pm ?_ | refine GX.b_nm ?_ | refine GX.b_neqs ?_ | refine GX.b_neqtf ?_ | refine GX.b_neqft ?_ | refine GX.b_neqb ?_)) | refine GX.gt ?_ | refine GX.gf ?_ | refine GX.gbt ?_ | refine GX.gbf ?_ | refine GX.un ?_ | refine GX.un0 ?_) | apply GX.then_normal | apply GX.seq | apply GX.region | (apply GX.s_cond; first | refine GX.ct ?_ | refine GX.cf ?_ | refine GX.cdf ?_ | refine GX.cdt ?_ | refine GX.cbt ?_ | refine GX.cbf ?_) | apply GX.skip | apply GX.block | apply GX.inBlock_normal | apply GX.exit | apply GX.then_exit | apply GX.inBlock_exit | refine GX.ibo ?_ | apply GX.ret | apply GX.then_ret | apply GX.inBlock_ret)
        refine GX.drawn0  (fun j => !(List.contains [] j)) [(0, true), (1, true), (2, true), (3, true), (4, true), (5, true), (6, true), (7, true), (8, true)] rfl (by kernel_rfl) (by kernel_rfl) (by first | ((repeat (first | apply Go.GX.SelR.nil | apply Go.GX.SelR.cons | (with_reducible apply Go.GX.TakeR.head) | apply Go.GX.TakeR.tail)); done) | (repeat (first | apply Go.GX.SelR.nil | apply Go.GX.SelR.cons | apply Go.GX.TakeR.head | apply Go.GX.TakeR.tail))) ?_; intro wd F hW hR
        repeat (first | (apply GX.s_take; first | (refine GX.tkp ?_; first | (apply GX.t_move; refine GX.tm ?_) | (apply GX.t_indexAddr; first | refine GX.ti1 ?_ | refine GX.tih ?_) | (apply GX.t_binOp_neq; first | refine GX.tb_neq ?_ | refine GX.tb_pm ?_ | refine GX.tb_nm ?_ | refine GX.tb_neqs ?_ | refine GX.tb_neqtf ?_ | refine GX.tb_neqft ?_ | refine GX.tb_neqb ?_)) | ((first | refine GX.tkr ?_ | refine GX.tkrE ?_); first | (apply GX.r_load; first | refine GX.rlr ?_ | refine GX.rlrA ?_ | refine GX.rln ?_ | refine GX.rlb ?_ | refine GX.rlh ?_ | (refine GX.rls ?_; intro ao cap _ _ _) | (refine GX.rlA ?_; intro cs _) | (refine GX.rl0 ?_; intro cs _) | refine GX.ro1n ?_ | refine GX.ro1b ?_ | refine GX.ro1h ?_ | (refine GX.ro1s ?_; intro ao cap _ _ _) | refine GX.romn ?_ | refine GX.romb ?_ | refine GX.romh ?_ | (refine GX.roms ?_; intro ao cap _ _ _) | refine GX.rofn ?_ | refine GX.rofb ?_ | refine GX.rofh ?_ | (refine GX.rofs ?_; intro ao cap _ _ _) | (refine GX.roA ?_; intro cs _)) | (apply GX.r_indexAddr; first | refine GX.rio1 ?_ | refine GX.rioh ?_ | (refine GX.rix ?_; intro bl o _))) | (refine GX.tkx ?_; first | (refine GX.xix ?_; intro _ _ _)) | refine GX.pgt ?_ | refine GX.pgf ?_ | refine GX.pgbt ?_ | refine GX.pgbf ?_ | refine GX.tkn ?_ | refine GX.tknE ?_) | (apply GX.s_go; first | (refine GX.gow ?_; first | (apply GX.k_load; first | refine GX.lr ?_ | refine GX.lrA ?_ | refine GX.ln ?_ | refine GX.lb ?_ | refine GX.lh ?_ | (refine GX.ls ?_; intro ao cap _ _) | (refine GX.lA ?_; intro cs) | (refine GX.l0 ?_; intro cs) | refine GX.o1n ?_ | refine GX.o1b ?_ | refine GX.o1h ?_ | (refine GX.o1s ?_; intro ao cap _ _) | refine GX.omn ?_ | refine GX.omb ?_ | refine GX.omh ?_ | (refine GX.oms ?_; intro ao cap _ _) | refine GX.ofn ?_ | refine GX.ofb ?_ | refine GX.ofh ?_ | (refine GX.ofs ?_; intro ao cap _ _) | (refine GX.oA ?_; intro cs)) | (apply GX.k_move; refine GX.m ?_) | (apply GX.k_indexAddr; first | refine GX.io1 ?_ | refine GX.ioh ?_ | refine GX.i1 ?_ | refine GX.ih ?_ | (refine GX.ix ?_; intro bl o)) | (apply GX.k_binOp_neq; first | refine GX.b_neq ?_ | refine GX.b_pm ?_ | refine GX.b_nm ?_ | refine GX.b_neqs ?_ | refine GX.b_neqtf ?_ | refine GX.b_neqft ?_ | refine GX.b_neqb ?_)) | refine GX.pgt ?_ | refine GX.pgf ?_ | refine GX.pgbt ?_ | refine GX.pgbf ?_ | refine GX.gon ?_) | (apply GX.s_went; first | refine GX.wentF ?_ | refine GX.went ?_ | refine GX.wentE ?_) | apply GX.done)
        repeat (first | (apply GX.s_list; first | apply GX.nil | (refine GX.o ?_; first | (apply GX.k_load; first | refine GX.lr ?_ | refine GX.lrA ?_ | refine GX.ln ?_ | refine GX.lb ?_ | refine GX.lh ?_ | (refine GX.ls ?_; intro ao cap _ _) | (refine GX.lA ?_; intro cs) | (refine GX.l0 ?_; intro cs) | refine GX.o1n ?_ | refine GX.o1b ?_ | refine GX.o1h ?_ | (refine GX.o1s ?_; intro ao cap _ _) | refine GX.omn ?_ | refine GX.omb ?_ | refine GX.omh ?_ | (refine GX.oms ?_; intro ao cap _ _) | refine GX.ofn ?_ | refine GX.ofb ?_ | refine GX.ofh ?_ | (refine GX.ofs ?_; intro ao cap _ _) | (refine GX.oA ?_; intro cs)) | (apply GX.k_move; refine GX.m ?_) | (apply GX.k_indexAddr; first | refine GX.io1 ?_ | refine GX.ioh ?_ | refine GX.i1 ?_ | refine GX.ih ?_ | (refine GX.ix ?_; intro bl o)) | (apply GX.k_binOp_lss; refine GX.b_lss ?_) | (apply GX.k_binOp_add; first | refine GX.b_inc ?_ | refine GX.b_add ?_ | refine GX.b_addw ?_) | (apply GX.k_assign; refine GX.a ?_) | (apply GX.k_call; refine GX.c_len ?_) | (apply GX.k_binOp_neq; first | refine GX.b_neq ?_ | refine GX.b_pm ?_ | refine GX.b_nm ?_ | refine GX.b_neqs ?_ | refine GX.b_neqtf ?_ | refine GX.b_neqft ?_ | refine GX.b_neqb ?_)) | refine GX.gt ?_ | refine GX.gf ?_ | refine GX.gbt ?_ | refine GX.gbf ?_ | refine GX.un ?_ | refine GX.un0 ?_) | apply GX.then_normal | apply GX.seq | apply GX.region | (apply GX.s_cond; first | refine GX.ct ?_ | refine GX.cf ?_ | refine GX.cdf ?_ | refine GX.cdt ?_ | refine GX.cbt ?_ | refine GX.cbf ?_) | apply GX.skip | apply GX.block | apply GX.inBlock_normal | apply GX.exit | apply GX.then_exit | apply GX.inBlock_exit | refine GX.ibo ?_ | apply GX.ret | apply GX.then_ret | apply GX.inBlock_ret)
        subst hxy
        exact again (i + 1) ⟨rfl, rfl, rfl, trivial⟩ ⟨by omega, take_eq_succ ht hx hy⟩ (by omega)
      · repeat (first | (apply GX.s_list; first | apply GX.nil | (refine GX.o ?_; first | (apply GX.k_load; first | refine GX.lr ?_ | refine GX.lrA ?_ | refine GX.ln ?_ | refine GX.lb ?_ | refine GX.lh ?_ | (refine GX.ls ?_; intro ao cap _ _) | (refine GX.lA ?_; intro cs) | (refine GX.l0 ?_; intro cs) | refine GX.o1n ?_ | refine GX.o1b ?_ | refine GX.o1h ?_ | (refine GX.o1s ?_; intro ao cap _ _) | refine GX.omn ?_ | refine GX.omb ?_ | refine GX.omh ?_ | (refine GX.oms ?_; intro ao cap _ _) | refine GX.ofn ?_ | refine GX.ofb ?_ | refine GX.ofh ?_ | (refine GX.ofs ?_; intro ao cap _ _) | (refine GX.oA ?_; intro cs)) | (apply GX.k_move; refine GX.m ?_) | (apply GX.k_indexAddr; first | refine GX.io1 ?_ | refine GX.ioh ?_ | refine GX.i1 ?_ | refine GX.ih ?_ | (refine GX.ix ?_; intro bl o)) | (apply GX.k_binOp_lss; refine GX.b_lss ?_) | (apply GX.k_binOp_add; first | refine GX.b_inc ?_ | refine GX.b_add ?_ | refine GX.b_addw ?_) | (apply GX.k_assign; refine GX.a ?_) | (apply GX.k_call; refine GX.c_len ?_) | (apply GX.k_binOp_neq; first | refine GX.b_neq ?_ | refine GX.b_pm ?_ | refine GX.b_nm ?_ | refine GX.b_neqs ?_ | refine GX.b_neqtf ?_ | refine GX.b_neqft ?_ | refine GX.b_neqb ?_)) | refine GX.gt ?_ | refine GX.gf ?_ | refine GX.gbt ?_ | refine GX.gbf ?_ | refine GX.un ?_ | refine GX.un0 ?_) | apply GX.then_normal | apply GX.seq | apply GX.region | (apply GX.s_cond; first | refine GX.ct ?_ | refine GX.cf ?_ | refine GX.cdf ?_ | refine GX.cdt ?_ | refine GX.cbt ?_ | refine GX.cbf ?_) | apply GX.skip | apply GX.block | apply GX.inBlock_normal | apply GX.exit | apply GX.then_exit | apply GX.inBlock_exit | refine GX.ibo ?_ | apply GX.ret | apply GX.then_ret | apply GX.inBlock_ret)
        refine GX.drawn0  (fun j => !(List.contains [] j)) [(0, true), (1, true), (2, true), (3, true), (4, true), (5, true), (6, true), (7, true), (8, true)] rfl (by kernel_rfl) (by kernel_rfl) (by first | ((repeat (first | apply Go.GX.SelR.nil | apply Go.GX.SelR.cons | (with_reducible apply Go.GX.TakeR.head) | apply Go.GX.TakeR.tail)); done) | (repeat (first | apply Go.GX.SelR.nil | apply Go.GX.SelR.cons | apply Go.GX.TakeR.head | apply Go.GX.TakeR.tail))) ?_; intro wd F hW hR
        repeat (first | (apply GX.s_take; first | (refine GX.tkp ?_; first | (apply GX.t_move; refine GX.tm ?_) | (apply GX.t_indexAddr; first | refine GX.ti1 ?_ | refine GX.tih ?_) | (apply GX.t_binOp_neq; first | refine GX.tb_neq ?_ | refine GX.tb_pm ?_ | refine GX.tb_nm ?_ | refine GX.tb_neqs ?_ | refine GX.tb_neqtf ?_ | refine GX.tb_neqft ?_ | refine GX.tb_neqb ?_)) | ((first | refine GX.tkr ?_ | refine GX.tkrE ?_); first | (apply GX.r_load; first | refine GX.rlr ?_ | refine GX.rlrA ?_ | refine GX.rln ?_ | refine GX.rlb ?_ | refine GX.rlh ?_ | (refine GX.rls ?_; intro ao cap _ _ _) | (refine GX.rlA ?_; intro cs _) | (refine GX.rl0 ?_; intro cs _) | refine GX.ro1n ?_ | refine GX.ro1b ?_ | refine GX.ro1h ?_ | (refine GX.ro1s ?_; intro ao cap _ _ _) | refine GX.romn ?_ | refine GX.romb ?_ | refine GX.romh ?_ | (refine GX.roms ?_; intro ao cap _ _ _) | refine GX.rofn ?_ | refine GX.rofb ?_ | refine GX.rofh ?_ | (refine GX.rofs ?_; intro ao cap _ _ _) | (refine GX.roA ?_; intro cs _)) | (apply GX.r_indexAddr; first | refine GX.rio1 ?_ | refine GX.rioh ?_ | (refine GX.rix ?_; intro bl o _))) | (refine GX.tkx ?_; first | (refine GX.xix ?_; intro _ _ _)) | refine GX.pgt ?_ | refine GX.pgf ?_ | refine GX.pgbt ?_ | refine GX.pgbf ?_ | refine GX.tkn ?_ | refine GX.tknE ?_) | (apply GX.s_go; first | (refine GX.gow ?_; first | (apply GX.k_load; first | refine GX.lr ?_ | refine GX.lrA ?_ | refine GX.ln ?_ | refine GX.lb ?_ | refine GX.lh ?_ | (refine GX.ls ?_; intro ao cap _ _) | (refine GX.lA ?_; intro cs) | (refine GX.l0 ?_; intro cs) | refine GX.o1n ?_ | refine GX.o1b ?_ | refine GX.o1h ?_ | (refine GX.o1s ?_; intro ao cap _ _) | refine GX.omn ?_ | refine GX.omb ?_ | refine GX.omh ?_ | (refine GX.oms ?_; intro ao cap _ _) | refine GX.ofn ?_ | refine GX.ofb ?_ | refine GX.ofh ?_ | (refine GX.ofs ?_; intro ao cap _ _) | (refine GX.oA ?_; intro cs)) | (apply GX.k_move; refine GX.m ?_) | (apply GX.k_indexAddr; first | refine GX.io1 ?_ | refine GX.ioh ?_ | refine GX.i1 ?_ | refine GX.ih ?_ | (refine GX.ix ?_; intro bl o)) | (apply GX.k_binOp_neq; first | refine GX.b_neq ?_ | refine GX.b_pm ?_ | refine GX.b_nm ?_ | refine GX.b_neqs ?_ | refine GX.b_neqtf ?_ | refine GX.b_neqft ?_ | refine GX.b_neqb ?_)) | refine GX.pgt ?_ | refine GX.pgf ?_ | refine GX.pgbt ?_ | refine GX.pgbf ?_ | refine GX.gon ?_) | (apply GX.s_went; first | refine GX.wentF ?_ | refine GX.went ?_ | refine GX.wentE ?_) | apply GX.done)
        repeat (first | (apply GX.s_list; first | apply GX.nil | (refine GX.o ?_; first | (apply GX.k_load; first | refine GX.lr ?_ | refine GX.lrA ?_ | refine GX.ln ?_ | refine GX.lb ?_ | refine GX.lh ?_ | (refine GX.ls ?_; intro ao cap _ _) | (refine GX.lA ?_; intro cs) | (refine GX.l0 ?_; intro cs) | refine GX.o1n ?_ | refine GX.o1b ?_ | refine GX.o1h ?_ | (refine GX.o1s ?_; intro ao cap _ _) | refine GX.omn ?_ | refine GX.omb ?_ | refine GX.omh ?_ | (refine GX.oms ?_; intro ao cap _ _) | refine GX.ofn ?_ | refine GX.ofb ?_ | refine GX.ofh ?_ | (refine GX.ofs ?_; intro ao cap _ _) | (refine GX.oA ?_; intro cs)) | (apply GX.k_move; refine GX.m ?_) | (apply GX.k_indexAddr; first | refine GX.io1 ?_ | refine GX.ioh ?_ | refine GX.i1 ?_ | refine GX.ih ?_ | (refine GX.ix ?_; intro bl o)) | (apply GX.k_binOp_lss; refine GX.b_lss ?_) | (apply GX.k_binOp_add; first | refine GX.b_inc ?_ | refine GX.b_add ?_ | refine GX.b_addw ?_) | (apply GX.k_assign; refine GX.a ?_) | (apply GX.k_call; refine GX.c_len ?_) | (apply GX.k_binOp_neq; first | refine GX.b_neq ?_ | refine GX.b_pm ?_ | refine GX.b_nm ?_ | refine GX.b_neqs ?_ | refine GX.b_neqtf ?_ | refine GX.b_neqft ?_ | refine GX.b_neqb ?_)) | refine GX.gt ?_ | refine GX.gf ?_ | refine GX.gbt ?_ | refine GX.gbf ?_ | refine GX.un ?_ | refine GX.un0 ?_) | apply GX.then_normal | apply GX.seq | apply GX.region | (apply GX.s_cond; first | refine GX.ct ?_ | refine GX.cf ?_ | refine GX.cdf ?_ | refine GX.cdt ?_ | refine GX.cbt ?_ | refine GX.cbf ?_) | apply GX.skip | apply GX.block | apply GX.inBlock_normal | apply GX.exit | apply GX.then_exit | apply GX.inBlock_exit | refine GX.ibo ?_ | apply GX.ret | apply GX.then_ret | apply GX.inBlock_ret)
        have he : decide (xs = ys) = false := decide_eq_false fun e => hxy (by subst e; rw [hx] at hy; exact Option.some.inj hy)
        exact rt1 () (congrArg Value.bool he)
    · have hil : i = xs.length := by omega
      subst hil
      repeat (first | (apply GX.s_list; first | apply GX.nil | (refine GX.o ?_; first | (apply GX.k_load; first | refine GX.lr ?_ | refine GX.lrA ?_ | refine GX.ln ?_ | refine GX.lb ?_ | refine GX.lh ?_ | (refine GX.ls ?_; intro ao cap _ _) | (refine GX.lA ?_; intro cs) | (refine GX.l0 ?_; intro cs) | refine GX.o1n ?_ | refine GX.o1b ?_ | refine GX.o1h ?_ | (refine GX.o1s ?_; intro ao cap _ _) | refine GX.omn ?_ | refine GX.omb ?_ | refine GX.omh ?_ | (refine GX.oms ?_; intro ao cap _ _) | refine GX.ofn ?_ | refine GX.ofb ?_ | refine GX.ofh ?_ | (refine GX.ofs ?_; intro ao cap _ _) | (refine GX.oA ?_; intro cs)) | (apply GX.k_move; refine GX.m ?_) | (apply GX.k_indexAddr; first | refine GX.io1 ?_ | refine GX.ioh ?_ | refine GX.i1 ?_ | refine GX.ih ?_ | (refine GX.ix ?_; intro bl o)) | (apply GX.k_binOp_lss; refine GX.b_lss ?_) | (apply GX.k_binOp_add; first | refine GX.b_inc ?_ | refine GX.b_add ?_ | refine GX.b_addw ?_) | (apply GX.k_assign; refine GX.a ?_) | (apply GX.k_call; refine GX.c_len ?_) | (apply GX.k_binOp_neq; first | refine GX.b_neq ?_ | refine GX.b_pm ?_ | refine GX.b_nm ?_ | refine GX.b_neqs ?_ | refine GX.b_neqtf ?_ | refine GX.b_neqft ?_ | refine GX.b_neqb ?_)) | refine GX.gt ?_ | refine GX.gf ?_ | refine GX.gbt ?_ | refine GX.gbf ?_ | refine GX.un ?_ | refine GX.un0 ?_) | apply GX.then_normal | apply GX.seq | apply GX.region | (apply GX.s_cond; first | refine GX.ct ?_ | refine GX.cf ?_ | refine GX.cdf ?_ | refine GX.cdt ?_ | refine GX.cbt ?_ | refine GX.cbf ?_) | apply GX.skip | apply GX.block | apply GX.inBlock_normal | apply GX.exit | apply GX.then_exit | apply GX.inBlock_exit | refine GX.ibo ?_ | apply GX.ret | apply GX.then_ret | apply GX.inBlock_ret)
      have he : decide (xs = ys) = true := by
        rw [List.take_length, hl, List.take_length] at ht
        exact decide_eq_true ht
      exact rt1 () (congrArg Value.bool he)
  · repeat (first | (apply GX.s_list; first | apply GX.nil | (refine GX.o ?_; first | (apply GX.k_load; first | refine GX.lr ?_ | refine GX.lrA ?_ | refine GX.ln ?_ | refine GX.lb ?_ | refine GX.lh ?_ | (refine GX.ls ?_; intro ao cap _ _) | (refine GX.lA ?_; intro cs) | (refine GX.l0 ?_; intro cs) | refine GX.o1n ?_ | refine GX.o1b ?_ | refine GX.o1h ?_ | (refine GX.o1s ?_; intro ao cap _ _) | refine GX.omn ?_ | refine GX.omb ?_ | refine GX.omh ?_ | (refine GX.oms ?_; intro ao cap _ _) | refine GX.ofn ?_ | refine GX.ofb ?_ | refine GX.ofh ?_ | (refine GX.ofs ?_; intro ao cap _ _) | (refine GX.oA ?_; intro cs)) | (apply GX.k_move; refine GX.m ?_) | (apply GX.k_indexAddr; first | refine GX.io1 ?_ | refine GX.ioh ?_ | refine GX.i1 ?_ | refine GX.ih ?_ | (refine GX.ix ?_; intro bl o)) | (apply GX.k_binOp_lss; refine GX.b_lss ?_) | (apply GX.k_binOp_add; first | refine GX.b_inc ?_ | refine GX.b_add ?_ | refine GX.b_addw ?_) | (apply GX.k_assign; refine GX.a ?_) | (apply GX.k_call; refine GX.c_len ?_) | (apply GX.k_binOp_neq; first | refine GX.b_neq ?_ | refine GX.b_pm ?_ | refine GX.b_nm ?_ | refine GX.b_neqs ?_ | refine GX.b_neqtf ?_ | refine GX.b_neqft ?_ | refine GX.b_neqb ?_)) | refine GX.gt ?_ | refine GX.gf ?_ | refine GX.gbt ?_ | refine GX.gbf ?_ | refine GX.un ?_ | refine GX.un0 ?_) | apply GX.then_normal | apply GX.seq | apply GX.region | (apply GX.s_cond; first | refine GX.ct ?_ | refine GX.cf ?_ | refine GX.cdf ?_ | refine GX.cdt ?_ | refine GX.cbt ?_ | refine GX.cbf ?_) | apply GX.skip | apply GX.block | apply GX.inBlock_normal | apply GX.exit | apply GX.then_exit | apply GX.inBlock_exit | refine GX.ibo ?_ | apply GX.ret | apply GX.then_ret | apply GX.inBlock_ret)
    have he : decide (xs = ys) = false := decide_eq_false fun e => hl (by rw [e])
    exact rt1 () (congrArg Value.bool he)

end Go.Proofs.YtomfpmbapdhbgaaGreat

/- The walk over slices.Equal of ints. -/
namespace Go.Proofs.YtomfpmbapdhbgaaGreat
open Go Go.RR Go.RX Go.GX
attribute [local irreducible] wpList Code.wp wpPlan Exit.then Exit.inBlock bodyPost NoPanic Went GX.Post GX.Again GX.Meet GX.RowR GX.Own GX.Owns GX.Box GX.Sl GX.Pt GX.Ag GX.MapR GX.Kept GX.Pin wpT GoK AtEnd Both

theorem eqi_spec (ao1 ao2 : Option Addr) (cap1 cap2 : Nat) (xs ys : List Int) : Does Tryz.prog 82 [.slice ao1 xs.length cap1, .slice ao2 ys.length cap2] [Sl Ty.int ao1 cap1 xs, Sl Ty.int ao2 cap2 ys] []
    (fun _ : Unit => .bool (decide (xs = ys))) (fun _ => []) (fun _ => []) := by
  refine enter Tryz.func82 rfl Tryz.ntmps82 rfl fun b => ?_
  refine sln ao1 fun h1 h2 _ => ?_
  by_cases hl : xs.length = ys.length
  · refine GX.wR ?_; intros
    refine GX.loop (σ := Nat) (fun i => [(0, .slice ao1 xs.length cap1), (1, .slice ao2 ys.length cap2), (12, .int .i64 (xs.length : Int)), (13, .int .i64 (i : Int))]) (fun _ => []) (fun _ => [])
      (fun i => i ≤ xs.length ∧ xs.take i = ys.take i) (fun i => xs.length - i) 0 ⟨rfl, rfl, rfl, rfl, trivial⟩ ⟨by omega, by simp⟩ (fun i hi => ?_)
    obtain ⟨hi, ht⟩ := hi
    by_cases hlt : i < xs.length
    · obtain ⟨x, hx⟩ := get_lt hlt
      obtain ⟨y, hy⟩ := get_lt (show i < ys.length by omega)
      by_cases hxy : x = y
      · refine GX.wR ?_; intros
        refine GX.drawn0  (fun j => !(List.contains [] j)) [(0, true), (1, true), (2, true), (3, true), (4, true), (5, true), (6, true), (7, true), (8, true)] rfl (by kernel_rfl) (by kernel_rfl) (by first | ((repeat (first | apply Go.GX.SelR.nil | apply Go.GX.SelR.cons | (with_reducible apply Go.GX.TakeR.head) | apply Go.GX.TakeR.tail)); done) | (repeat (first | apply Go.GX.SelR.nil | apply Go.GX.SelR.cons | apply Go.GX.TakeR.head | apply Go.GX.TakeR.tail))) ?_; intro wd F hW hR
        refine GX.wT ?_; intros
        refine GX.wR ?_; intros
        subst hxy
        exact again (i + 1) ⟨rfl, rfl, rfl, rfl, trivial⟩ ⟨by omega, take_eq_succ ht hx hy⟩ (by omega)
      · refine GX.wR ?_; intros
        refine GX.drawn0  (fun j => !(List.contains [] j)) [(0, true), (1, true), (2, true), (3, true), (4, true), (5, true), (6, true), (7, true), (8, true)] rfl (by kernel_rfl) (by kernel_rfl) (by first | ((repeat (first | apply Go.GX.SelR.nil | apply Go.GX.SelR.cons | (with_reducible apply Go.GX.TakeR.head) | apply Go.GX.TakeR.tail)); done) | (repeat (first | apply Go.GX.SelR.nil | apply Go.GX.SelR.cons | apply Go.GX.TakeR.head | apply Go.GX.TakeR.tail))) ?_; intro wd F hW hR
        refine GX.wT ?_; intros
        refine GX.wR ?_; intros
        have he : decide (xs = ys) = false := decide_eq_false fun e => hxy (by subst e; rw [hx] at hy; exact Option.some.inj hy)
        exact rt1 () (congrArg Value.bool he)
    · have hil : i = xs.length := by omega
      subst hil
      refine GX.wR ?_; intros
      have he : decide (xs = ys) = true := by
        rw [List.take_length, hl, List.take_length] at ht
        exact decide_eq_true ht
      exact rt1 () (congrArg Value.bool he)
  · refine GX.wR ?_; intros
    have he : decide (xs = ys) = false := decide_eq_false fun e => hl (by rw [e])
    exact rt1 () (congrArg Value.bool he)
end Go.Proofs.YtomfpmbapdhbgaaGreat
