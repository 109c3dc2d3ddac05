import Derived.Test.YtomadjefdghliaaV21
import Derived.Test.YtomadjefdghliaaV23
/- The walks over play's returns. -/
namespace Go.Proofs.Ytomadjefdghliaa
open Go Go.RR Go.RX Go.GX Go.Api Go.RtM
attribute [local irreducible] wpList Code.wp wpPlan Exit.then Exit.inBlock bodyPost NoPanic Went GX.Post GX.Again GX.Meet GX.RowR GX.Own GX.Owns GX.Box GX.Sl GX.Pt GX.Ag GX.MapR GX.Star GX.Kept GX.Pin wpT GoK AtEnd Both
theorem ret_last (t : RTg) (p : Nat) (k : MK) (v : MV) (x : FrC) (f : Fr) (i : Ins) (cs : List Value) (j : Nat) (g : Unt) (hg : t.units[j]? = some g) (hj : f.u = j) (hn : v.nf = 0 + 1) (hl : f.vars.length = x.n) (hi : i.a = -1 ∨ Vok f i.a) (hbd : -1000000000 ≤ v.bound ∧ v.bound ≤ 1000000000) (hol : g.owns.length ≤ 1000000000) :
    Does Try.prog 42 [.pointer (some ⟨p, 0, none⟩), .agg cs.toArray] [Ag tyIns cs i, Sl tyUnt k.aU k.cU t.units] [RowR p 51 [.slice k.aC t.classes.length k.cC, .slice k.aG t.globals.length k.cG, .slice k.aU t.units.length k.cU, .int .i64 t.main, .slice k.aL (glob t).length k.cL, .pointer (some ⟨k.tp, 0, none⟩), .int .i64 1, .slice v.ai v.ni v.ci, .slice (some ⟨k.gb, 0, none⟩) t.globals.length t.globals.length, .slice v.af v.nf v.cf, .int .i64 v.bound, .map (some k.om), .int .i64 v.en, .int .i64 v.code, .slice v.ao v.no v.co, .int .i64 v.steps, .int .i64 0, .int .i64 0, .int .i64 0, .int .i64 0, .int .i64 v.slack, .int .i64 0], GX.Own 54 Ty.ptr v.af v.cf ([] ++ [some ⟨x.bl, 0, none⟩]), RowR x.bl 76 [.int .i64 f.u, .int .i64 f.pc, .slice (some ⟨x.vb, 0, none⟩) x.n x.n, .int .i64 f.into, .map (some x.mb)], GX.Own 3 Ty.int (some ⟨x.vb, 0, none⟩) x.n f.vars] (fun _ : Unit => .tuple #[]) (fun _ => []) (fun _ => [RowR p 51 [.slice k.aC t.classes.length k.cC, .slice k.aG t.globals.length k.cG, .slice k.aU t.units.length k.cU, .int .i64 t.main, .slice k.aL (glob t).length k.cL, .pointer (some ⟨k.tp, 0, none⟩), .int .i64 1, .slice ({ v with nf := 0, bound := v.bound - g.owns.length, en := 1, code := 0 } : MV).ai ({ v with nf := 0, bound := v.bound - g.owns.length, en := 1, code := 0 } : MV).ni ({ v with nf := 0, bound := v.bound - g.owns.length, en := 1, code := 0 } : MV).ci, .slice (some ⟨k.gb, 0, none⟩) t.globals.length t.globals.length, .slice ({ v with nf := 0, bound := v.bound - g.owns.length, en := 1, code := 0 } : MV).af ({ v with nf := 0, bound := v.bound - g.owns.length, en := 1, code := 0 } : MV).nf ({ v with nf := 0, bound := v.bound - g.owns.length, en := 1, code := 0 } : MV).cf, .int .i64 ({ v with nf := 0, bound := v.bound - g.owns.length, en := 1, code := 0 } : MV).bound, .map (some k.om), .int .i64 ({ v with nf := 0, bound := v.bound - g.owns.length, en := 1, code := 0 } : MV).en, .int .i64 ({ v with nf := 0, bound := v.bound - g.owns.length, en := 1, code := 0 } : MV).code, .slice ({ v with nf := 0, bound := v.bound - g.owns.length, en := 1, code := 0 } : MV).ao ({ v with nf := 0, bound := v.bound - g.owns.length, en := 1, code := 0 } : MV).no ({ v with nf := 0, bound := v.bound - g.owns.length, en := 1, code := 0 } : MV).co, .int .i64 ({ v with nf := 0, bound := v.bound - g.owns.length, en := 1, code := 0 } : MV).steps, .int .i64 0, .int .i64 0, .int .i64 0, .int .i64 0, .int .i64 ({ v with nf := 0, bound := v.bound - g.owns.length, en := 1, code := 0 } : MV).slack, .int .i64 0], GX.Own 54 Ty.ptr v.af v.cf []]) := by
  refine enter Try.func42 rfl Try.ntmps42 rfl fun _ => ?_
  obtain ⟨ai, ni, ci, af, nf, cf, bd, en, code, ao, no, co, st, sl⟩ := v
  dsimp only at *
  subst hn
  have hll : ([] : List (Option Addr)).length = 0 := by simp
  have htk : (([] : List (Option Addr)) ++ [some (⟨x.bl, 0, none⟩ : Addr)]).take 0 = [] := by rw [← hll]; exact List.take_left
  refine GX.opn af fun hc _ ha => ?_
  have hcc : 0 ≤ cf := by simp at hc; omega
  obtain ⟨h9, _⟩ | ⟨q, rfl⟩ := ha
  · simp at h9
  refine GX.wp_R ?_; intros
  refine GX.o (cl (top_spec t p k (⟨ai, ni, ci, some ⟨q, 0, none⟩, 0 + 1, cf, bd, en, code, ao, no, co, st, sl⟩ : MV) [] _ rfl (by simp)) fun _ => ?_)
  try dsimp only
  by_cases hz0 : 0 ≤ i.a
  · have va : Vok f i.a := by rcases hi with h5 | h5
                              · omega
                              · exact h5
    refine GX.wp_R ?_; intros
    refine GX.o (cl (vI_spec t p k (⟨ai, ni, ci, some ⟨q, 0, none⟩, 0 + 1, cf, bd, en, code, ao, no, co, st, sl⟩ : MV) [] x f i.a rfl (by simp) hl va) fun _ => ?_)
    try dsimp only
    refine GX.wp_R ?_; intros
    refine GX.drawn1 (RowR p 51 _) (fun j => !(List.contains [14] j)) [(0, true), (1, true), (2, true), (3, true), (4, true), (5, true), (6, true), (7, true), (8, true), (9, true), (10, true), (11, true), (12, true), (13, true), (14, false)] rfl (by kernel_rfl) (by kernel_rfl) (by first | ((repeat (first | apply Go.GX.SelR.nil | apply Go.GX.SelR.cons | (with_reducible apply Go.GX.TakeR.head) | apply Go.GX.TakeR.tail)); done) | (repeat (first | apply Go.GX.SelR.nil | apply Go.GX.SelR.cons | apply Go.GX.TakeR.head | apply Go.GX.TakeR.tail))) ?_; intro wd F hW hR
    refine GX.wp_T ?_; intros
    try dsimp only
    try rw [show ((0 + 1 : Nat) : Int) - 1 = ((0 : Nat) : Int) by omega]
    refine GX.tkr ?_
    refine GX.roh (j := 0) ?_
    refine GX.unpin (RowR p 51 _) ?_
    refine GX.wp_T ?_; intros
    refine GX.ownTake (some ⟨q, 0, none⟩) 0 ?_
    rw [htk]
    refine GX.wp_R ?_; intros
    refine GX.drawn2 (RowR p 51 _) (RowR x.bl 76 _) (fun j => !(List.contains [20] j)) [(0, true), (1, true), (2, true), (3, true), (4, true), (5, true), (6, true), (7, true), (8, true), (9, true), (10, true), (11, true), (12, true), (13, true), (14, true), (15, true), (16, true), (17, true), (18, true), (19, true), (20, false)] rfl (by kernel_rfl) (by kernel_rfl) (by first | ((repeat (first | apply Go.GX.SelR.nil | apply Go.GX.SelR.cons | (with_reducible apply Go.GX.TakeR.head) | apply Go.GX.TakeR.tail)); done) | (repeat (first | apply Go.GX.SelR.nil | apply Go.GX.SelR.cons | apply Go.GX.TakeR.head | apply Go.GX.TakeR.tail))) ?_; intro wd F hW hR
    refine GX.wp_T ?_; intros
    refine GX.unpin (RowR p 51 _) ?_
    refine GX.unpin (RowR x.bl 76 _) ?_
    refine GX.wp_T ?_; intros
    refine GX.wp_R ?_; intros
    refine GX.o (cl (ends_spec t p k (⟨ai, ni, ci, some ⟨q, 0, none⟩, 0, cf, bd - g.owns.length, en, code, ao, no, co, st, sl⟩ : MV) 1 0) fun _ => ?_)
    try dsimp only
    refine GX.wp_R ?_; intros
    exact en0 ()
  · skip
    refine GX.wp_R ?_; intros
    refine GX.drawn1 (RowR p 51 _) (fun j => !(List.contains [14] j)) [(0, true), (1, true), (2, true), (3, true), (4, true), (5, true), (6, true), (7, true), (8, true), (9, true), (10, true), (11, true), (12, true), (13, true), (14, false)] rfl (by kernel_rfl) (by kernel_rfl) (by first | ((repeat (first | apply Go.GX.SelR.nil | apply Go.GX.SelR.cons | (with_reducible apply Go.GX.TakeR.head) | apply Go.GX.TakeR.tail)); done) | (repeat (first | apply Go.GX.SelR.nil | apply Go.GX.SelR.cons | apply Go.GX.TakeR.head | apply Go.GX.TakeR.tail))) ?_; intro wd F hW hR
    refine GX.wp_T ?_; intros
    try dsimp only
    try rw [show ((0 + 1 : Nat) : Int) - 1 = ((0 : Nat) : Int) by omega]
    refine GX.tkr ?_
    refine GX.roh (j := 0) ?_
    refine GX.unpin (RowR p 51 _) ?_
    refine GX.wp_T ?_; intros
    refine GX.ownTake (some ⟨q, 0, none⟩) 0 ?_
    rw [htk]
    refine GX.wp_R ?_; intros
    refine GX.drawn2 (RowR p 51 _) (RowR x.bl 76 _) (fun j => !(List.contains [20] j)) [(0, true), (1, true), (2, true), (3, true), (4, true), (5, true), (6, true), (7, true), (8, true), (9, true), (10, true), (11, true), (12, true), (13, true), (14, true), (15, true), (16, true), (17, true), (18, true), (19, true), (20, false)] rfl (by kernel_rfl) (by kernel_rfl) (by first | ((repeat (first | apply Go.GX.SelR.nil | apply Go.GX.SelR.cons | (with_reducible apply Go.GX.TakeR.head) | apply Go.GX.TakeR.tail)); done) | (repeat (first | apply Go.GX.SelR.nil | apply Go.GX.SelR.cons | apply Go.GX.TakeR.head | apply Go.GX.TakeR.tail))) ?_; intro wd F hW hR
    refine GX.wp_T ?_; intros
    refine GX.unpin (RowR p 51 _) ?_
    refine GX.unpin (RowR x.bl 76 _) ?_
    refine GX.wp_T ?_; intros
    refine GX.wp_R ?_; intros
    refine GX.o (cl (ends_spec t p k (⟨ai, ni, ci, some ⟨q, 0, none⟩, 0, cf, bd - g.owns.length, en, code, ao, no, co, st, sl⟩ : MV) 1 0) fun _ => ?_)
    try dsimp only
    refine GX.wp_R ?_; intros
    exact en0 ()
theorem ret_more (t : RTg) (p : Nat) (k : MK) (v : MV) (l' : List (Option Addr)) (y : FrC) (h : Fr) (x : FrC) (f : Fr) (i : Ins) (cs : List Value) (j : Nat) (g : Unt) (hg : t.units[j]? = some g) (hj : f.u = j) (hn : v.nf = (l'.length + 1) + 1) (hb : l'.length ≤ 900) (hlh : h.vars.length = y.n) (hin : f.into = -1 ∨ Vok h f.into) (hl : f.vars.length = x.n) (hi : i.a = -1 ∨ Vok f i.a) (hbd : -1000000000 ≤ v.bound ∧ v.bound ≤ 1000000000) (hol : g.owns.length ≤ 1000000000) :
    Does Try.prog 42 [.pointer (some ⟨p, 0, none⟩), .agg cs.toArray] [Ag tyIns cs i, Sl tyUnt k.aU k.cU t.units] [RowR p 51 [.slice k.aC t.classes.length k.cC, .slice k.aG t.globals.length k.cG, .slice k.aU t.units.length k.cU, .int .i64 t.main, .slice k.aL (glob t).length k.cL, .pointer (some ⟨k.tp, 0, none⟩), .int .i64 1, .slice v.ai v.ni v.ci, .slice (some ⟨k.gb, 0, none⟩) t.globals.length t.globals.length, .slice v.af v.nf v.cf, .int .i64 v.bound, .map (some k.om), .int .i64 v.en, .int .i64 v.code, .slice v.ao v.no v.co, .int .i64 v.steps, .int .i64 0, .int .i64 0, .int .i64 0, .int .i64 0, .int .i64 v.slack, .int .i64 0], GX.Own 54 Ty.ptr v.af v.cf ((l' ++ [some ⟨y.bl, 0, none⟩]) ++ [some ⟨x.bl, 0, none⟩]), RowR x.bl 76 [.int .i64 f.u, .int .i64 f.pc, .slice (some ⟨x.vb, 0, none⟩) x.n x.n, .int .i64 f.into, .map (some x.mb)], GX.Own 3 Ty.int (some ⟨x.vb, 0, none⟩) x.n f.vars, RowR y.bl 76 [.int .i64 h.u, .int .i64 h.pc, .slice (some ⟨y.vb, 0, none⟩) y.n y.n, .int .i64 h.into, .map (some y.mb)], GX.Own 3 Ty.int (some ⟨y.vb, 0, none⟩) y.n h.vars] (fun _ : Unit => .tuple #[]) (fun _ => []) (fun _ => [RowR p 51 [.slice k.aC t.classes.length k.cC, .slice k.aG t.globals.length k.cG, .slice k.aU t.units.length k.cU, .int .i64 t.main, .slice k.aL (glob t).length k.cL, .pointer (some ⟨k.tp, 0, none⟩), .int .i64 1, .slice ({ v with nf := l'.length + 1, bound := v.bound - g.owns.length } : MV).ai ({ v with nf := l'.length + 1, bound := v.bound - g.owns.length } : MV).ni ({ v with nf := l'.length + 1, bound := v.bound - g.owns.length } : MV).ci, .slice (some ⟨k.gb, 0, none⟩) t.globals.length t.globals.length, .slice ({ v with nf := l'.length + 1, bound := v.bound - g.owns.length } : MV).af ({ v with nf := l'.length + 1, bound := v.bound - g.owns.length } : MV).nf ({ v with nf := l'.length + 1, bound := v.bound - g.owns.length } : MV).cf, .int .i64 ({ v with nf := l'.length + 1, bound := v.bound - g.owns.length } : MV).bound, .map (some k.om), .int .i64 ({ v with nf := l'.length + 1, bound := v.bound - g.owns.length } : MV).en, .int .i64 ({ v with nf := l'.length + 1, bound := v.bound - g.owns.length } : MV).code, .slice ({ v with nf := l'.length + 1, bound := v.bound - g.owns.length } : MV).ao ({ v with nf := l'.length + 1, bound := v.bound - g.owns.length } : MV).no ({ v with nf := l'.length + 1, bound := v.bound - g.owns.length } : MV).co, .int .i64 ({ v with nf := l'.length + 1, bound := v.bound - g.owns.length } : MV).steps, .int .i64 0, .int .i64 0, .int .i64 0, .int .i64 0, .int .i64 ({ v with nf := l'.length + 1, bound := v.bound - g.owns.length } : MV).slack, .int .i64 0], GX.Own 54 Ty.ptr v.af v.cf (l' ++ [some ⟨y.bl, 0, none⟩]), RowR y.bl 76 [.int .i64 h.u, .int .i64 h.pc, .slice (some ⟨y.vb, 0, none⟩) y.n y.n, .int .i64 h.into, .map (some y.mb)], GX.Own 3 Ty.int (some ⟨y.vb, 0, none⟩) y.n (if 0 ≤ f.into then setv h.vars f.into (if 0 ≤ i.a then lkv f.vars i.a else 0) else h.vars)]) := by
  refine enter Try.func42 rfl Try.ntmps42 rfl fun _ => ?_
  obtain ⟨ai, ni, ci, af, nf, cf, bd, en, code, ao, no, co, st, sl⟩ := v
  dsimp only at *
  subst hn
  have hll : ((l' ++ [some ⟨y.bl, 0, none⟩]) : List (Option Addr)).length = (l'.length + 1) := by simp
  have htk : (((l' ++ [some ⟨y.bl, 0, none⟩]) : List (Option Addr)) ++ [some (⟨x.bl, 0, none⟩ : Addr)]).take (l'.length + 1) = (l' ++ [some ⟨y.bl, 0, none⟩]) := by rw [← hll]; exact List.take_left
  have hvi : 0 ≤ f.into → Vok h f.into := fun hz => by
    rcases hin with h5 | h5
    · omega
    · exact h5
  refine GX.opn af fun hc _ ha => ?_
  have hcc : (l'.length + 1) ≤ cf := by simp at hc; omega
  obtain ⟨h9, _⟩ | ⟨q, rfl⟩ := ha
  · simp at h9
  refine GX.wp_R ?_; intros
  refine GX.o (cl (top_spec t p k (⟨ai, ni, ci, some ⟨q, 0, none⟩, (l'.length + 1) + 1, cf, bd, en, code, ao, no, co, st, sl⟩ : MV) (l' ++ [some ⟨y.bl, 0, none⟩]) _ (by simp) (by simp; omega)) fun _ => ?_)
  try dsimp only
  by_cases hz0 : 0 ≤ i.a
  · have va : Vok f i.a := by rcases hi with h5 | h5
                              · omega
                              · exact h5
    rw [if_pos hz0]
    refine GX.wp_R ?_; intros
    refine GX.o (cl (vI_spec t p k (⟨ai, ni, ci, some ⟨q, 0, none⟩, (l'.length + 1) + 1, cf, bd, en, code, ao, no, co, st, sl⟩ : MV) (l' ++ [some ⟨y.bl, 0, none⟩]) x f i.a (by simp) (by simp; omega) hl va) fun _ => ?_)
    try dsimp only
    refine GX.wp_R ?_; intros
    refine GX.drawn1 (RowR p 51 _) (fun j => !(List.contains [14] j)) [(0, true), (1, true), (2, true), (3, true), (4, true), (5, true), (6, true), (7, true), (8, true), (9, true), (10, true), (11, true), (12, true), (13, true), (14, false)] rfl (by kernel_rfl) (by kernel_rfl) (by first | ((repeat (first | apply Go.GX.SelR.nil | apply Go.GX.SelR.cons | (with_reducible apply Go.GX.TakeR.head) | apply Go.GX.TakeR.tail)); done) | (repeat (first | apply Go.GX.SelR.nil | apply Go.GX.SelR.cons | apply Go.GX.TakeR.head | apply Go.GX.TakeR.tail))) ?_; intro wd F hW hR
    refine GX.wp_T ?_; intros
    try dsimp only
    try rw [show (((l'.length + 1) + 1 : Nat) : Int) - 1 = (((l'.length + 1) : Nat) : Int) by omega]
    refine GX.tkr ?_
    refine GX.roh (j := (l'.length + 1)) ?_
    refine GX.unpin (RowR p 51 _) ?_
    refine GX.wp_T ?_; intros
    refine GX.ownTake (some ⟨q, 0, none⟩) (l'.length + 1) ?_
    rw [htk]
    refine GX.wp_R ?_; intros
    refine GX.drawn2 (RowR p 51 _) (RowR x.bl 76 _) (fun j => !(List.contains [20] j)) [(0, true), (1, true), (2, true), (3, true), (4, true), (5, true), (6, true), (7, true), (8, true), (9, true), (10, true), (11, true), (12, true), (13, true), (14, true), (15, true), (16, true), (17, true), (18, true), (19, true), (20, false)] rfl (by kernel_rfl) (by kernel_rfl) (by first | ((repeat (first | apply Go.GX.SelR.nil | apply Go.GX.SelR.cons | (with_reducible apply Go.GX.TakeR.head) | apply Go.GX.TakeR.tail)); done) | (repeat (first | apply Go.GX.SelR.nil | apply Go.GX.SelR.cons | apply Go.GX.TakeR.head | apply Go.GX.TakeR.tail))) ?_; intro wd F hW hR
    refine GX.wp_T ?_; intros
    refine GX.unpin (RowR p 51 _) ?_
    refine GX.unpin (RowR x.bl 76 _) ?_
    refine GX.wp_T ?_; intros
    refine GX.wp_R ?_; intros
    by_cases hz : 0 ≤ f.into
    · rw [if_pos hz]
      refine GX.wp_R ?_; intros
      refine GX.o (cl (setI_spec t p k (⟨ai, ni, ci, some ⟨q, 0, none⟩, (l'.length + 1), cf, bd - g.owns.length, en, code, ao, no, co, st, sl⟩ : MV) l' y h f.into (lkv f.vars i.a) rfl (by omega) hlh (hvi hz)) fun _ => ?_)
      refine GX.wp_R ?_; intros
      exact en0 ()
    · rw [if_neg hz]
      refine GX.wp_R ?_; intros
      exact en0 ()
  · rw [if_neg hz0]
    refine GX.wp_R ?_; intros
    refine GX.drawn1 (RowR p 51 _) (fun j => !(List.contains [14] j)) [(0, true), (1, true), (2, true), (3, true), (4, true), (5, true), (6, true), (7, true), (8, true), (9, true), (10, true), (11, true), (12, true), (13, true), (14, false)] rfl (by kernel_rfl) (by kernel_rfl) (by first | ((repeat (first | apply Go.GX.SelR.nil | apply Go.GX.SelR.cons | (with_reducible apply Go.GX.TakeR.head) | apply Go.GX.TakeR.tail)); done) | (repeat (first | apply Go.GX.SelR.nil | apply Go.GX.SelR.cons | apply Go.GX.TakeR.head | apply Go.GX.TakeR.tail))) ?_; intro wd F hW hR
    refine GX.wp_T ?_; intros
    try dsimp only
    try rw [show (((l'.length + 1) + 1 : Nat) : Int) - 1 = (((l'.length + 1) : Nat) : Int) by omega]
    refine GX.tkr ?_
    refine GX.roh (j := (l'.length + 1)) ?_
    refine GX.unpin (RowR p 51 _) ?_
    refine GX.wp_T ?_; intros
    refine GX.ownTake (some ⟨q, 0, none⟩) (l'.length + 1) ?_
    rw [htk]
    refine GX.wp_R ?_; intros
    refine GX.drawn2 (RowR p 51 _) (RowR x.bl 76 _) (fun j => !(List.contains [20] j)) [(0, true), (1, true), (2, true), (3, true), (4, true), (5, true), (6, true), (7, true), (8, true), (9, true), (10, true), (11, true), (12, true), (13, true), (14, true), (15, true), (16, true), (17, true), (18, true), (19, true), (20, false)] rfl (by kernel_rfl) (by kernel_rfl) (by first | ((repeat (first | apply Go.GX.SelR.nil | apply Go.GX.SelR.cons | (with_reducible apply Go.GX.TakeR.head) | apply Go.GX.TakeR.tail)); done) | (repeat (first | apply Go.GX.SelR.nil | apply Go.GX.SelR.cons | apply Go.GX.TakeR.head | apply Go.GX.TakeR.tail))) ?_; intro wd F hW hR
    refine GX.wp_T ?_; intros
    refine GX.unpin (RowR p 51 _) ?_
    refine GX.unpin (RowR x.bl 76 _) ?_
    refine GX.wp_T ?_; intros
    refine GX.wp_R ?_; intros
    by_cases hz : 0 ≤ f.into
    · rw [if_pos hz]
      refine GX.wp_R ?_; intros
      refine GX.o (cl (setI_spec t p k (⟨ai, ni, ci, some ⟨q, 0, none⟩, (l'.length + 1), cf, bd - g.owns.length, en, code, ao, no, co, st, sl⟩ : MV) l' y h f.into 0 rfl (by omega) hlh (hvi hz)) fun _ => ?_)
      refine GX.wp_R ?_; intros
      exact en0 ()
    · rw [if_neg hz]
      refine GX.wp_R ?_; intros
      exact en0 ()
end Go.Proofs.Ytomadjefdghliaa

/- A run stays right, plainly. No program in sight. -/
namespace Go.Proofs.Ytomadjefdghliaa
open Go.Api Go.RtM Go.RiseM
theorem go1 {M : Ms} {t : RTg} {G : List Int} {f : Fr} {i : Ins} (h : i.op = 1) : M.go t G f i = (M.var f i.a i.n) := by
  unfold Ms.go
  rw [if_pos h] <;> rfl
theorem go2 {M : Ms} {t : RTg} {G : List Int} {f : Fr} {i : Ins} (h : i.op = 2) : M.go t G f i = (M.var f i.a 0) := by
  unfold Ms.go
  rw [if_neg (by omega), if_pos h] <;> rfl
theorem go3 {M : Ms} {t : RTg} {G : List Int} {f : Fr} {i : Ins} (h : i.op = 3) : M.go t G f i = (M.var f i.a (lkv f.vars i.b)) := by
  unfold Ms.go
  rw [if_neg (by omega), if_neg (by omega), if_pos h] <;> rfl
theorem go4 {M : Ms} {t : RTg} {G : List Int} {f : Fr} {i : Ins} (h : i.op = 4) : M.go t G f i = (M.got f i.a (bin i.n (lkv f.vars i.b) (lkv f.vars i.c))) := by
  unfold Ms.go
  rw [if_neg (by omega), if_neg (by omega), if_neg (by omega), if_pos h] <;> rfl
theorem go5 {M : Ms} {t : RTg} {G : List Int} {f : Fr} {i : Ins} (h : i.op = 5) : M.go t G f i = (M.var f i.a (unN i.n (lkv f.vars i.b))) := by
  unfold Ms.go
  rw [if_neg (by omega), if_neg (by omega), if_neg (by omega), if_neg (by omega), if_pos h] <;> rfl
theorem go6 {M : Ms} {t : RTg} {G : List Int} {f : Fr} {i : Ins} (h : i.op = 6) : M.go t G f i = (M.got f i.a (loadP M.tb.B M.tb.L (lkv f.vars i.b) i.c)) := by
  unfold Ms.go
  rw [if_neg (by omega), if_neg (by omega), if_neg (by omega), if_neg (by omega), if_neg (by omega), if_pos h] <;> rfl
theorem go7 {M : Ms} {t : RTg} {G : List Int} {f : Fr} {i : Ins} (h : i.op = 7) : M.go t G f i = (({ M with tb := M.tb.put (lkv f.vars i.a) i.c (lkv f.vars i.b) } : Ms).trap (loadP M.tb.B M.tb.L (lkv f.vars i.a) i.c).2) := by
  unfold Ms.go
  rw [if_neg (by omega), if_neg (by omega), if_neg (by omega), if_neg (by omega), if_neg (by omega), if_neg (by omega), if_pos h] <;> rfl
theorem go8 {M : Ms} {t : RTg} {G : List Int} {f : Fr} {i : Ins} (h : i.op = 8) : M.go t G f i = (M.got f i.a (loadP M.tb.B M.tb.L (lkv f.vars i.b) (lkv f.vars i.c))) := by
  unfold Ms.go
  rw [if_neg (by omega), if_neg (by omega), if_neg (by omega), if_neg (by omega), if_neg (by omega), if_neg (by omega), if_neg (by omega), if_pos h] <;> rfl
theorem go9 {M : Ms} {t : RTg} {G : List Int} {f : Fr} {i : Ins} (h : i.op = 9) : M.go t G f i = (({ M with tb := M.tb.put (lkv f.vars i.a) (lkv f.vars i.b) (lkv f.vars i.c) } : Ms).trap (loadP M.tb.B M.tb.L (lkv f.vars i.a) (lkv f.vars i.b)).2) := by
  unfold Ms.go
  rw [if_neg (by omega), if_neg (by omega), if_neg (by omega), if_neg (by omega), if_neg (by omega), if_neg (by omega), if_neg (by omega), if_neg (by omega), if_pos h] <;> rfl
theorem go10 {M : Ms} {t : RTg} {G : List Int} {f : Fr} {i : Ins} (h : i.op = 10) : M.go t G f i = (M.got f i.a (lenP M.tb.B M.tb.L (lkv f.vars i.b))) := by
  unfold Ms.go
  rw [if_neg (by omega), if_neg (by omega), if_neg (by omega), if_neg (by omega), if_neg (by omega), if_neg (by omega), if_neg (by omega), if_neg (by omega), if_neg (by omega), if_pos h] <;> rfl
theorem go11 {M : Ms} {t : RTg} {G : List Int} {f : Fr} {i : Ins} (h : i.op = 11) : M.go t G f i = (M.lies G f i.a i.n (match gt t.classes i.n with | some L => (L.refs.length : Int) | none => 0)) := by
  unfold Ms.go
  rw [if_neg (by omega), if_neg (by omega), if_neg (by omega), if_neg (by omega), if_neg (by omega), if_neg (by omega), if_neg (by omega), if_neg (by omega), if_neg (by omega), if_neg (by omega), if_pos h] <;> rfl
theorem go12 {M : Ms} {t : RTg} {G : List Int} {f : Fr} {i : Ins} (h : i.op = 12) : M.go t G f i = ((if lkv f.vars i.b < 0 ∨ 50 < lkv f.vars i.b then M.trap 4 else M.lies G f i.a i.n (lkv f.vars i.b))) := by
  unfold Ms.go
  rw [if_neg (by omega), if_neg (by omega), if_neg (by omega), if_neg (by omega), if_neg (by omega), if_neg (by omega), if_neg (by omega), if_neg (by omega), if_neg (by omega), if_neg (by omega), if_neg (by omega), if_pos h] <;> rfl
theorem go13 {M : Ms} {t : RTg} {G : List Int} {f : Fr} {i : Ins} (h : i.op = 13) : M.go t G f i = (M.call t G f i) := by
  unfold Ms.go
  rw [if_neg (by omega), if_neg (by omega), if_neg (by omega), if_neg (by omega), if_neg (by omega), if_neg (by omega), if_neg (by omega), if_neg (by omega), if_neg (by omega), if_neg (by omega), if_neg (by omega), if_neg (by omega), if_pos h] <;> rfl
theorem go14 {M : Ms} {t : RTg} {G : List Int} {f : Fr} {i : Ins} (h : i.op = 14) : M.go t G f i = ((match M.inp with | [] => M.trap 5 | y :: l => { M.var f i.a y with inp := l })) := by
  unfold Ms.go
  rw [if_neg (by omega), if_neg (by omega), if_neg (by omega), if_neg (by omega), if_neg (by omega), if_neg (by omega), if_neg (by omega), if_neg (by omega), if_neg (by omega), if_neg (by omega), if_neg (by omega), if_neg (by omega), if_neg (by omega), if_pos h] <;> rfl
theorem go15 {M : Ms} {t : RTg} {G : List Int} {f : Fr} {i : Ins} (h : i.op = 15) : M.go t G f i = ({ M with out := M.out ++ [lkv f.vars i.a] }) := by
  unfold Ms.go
  rw [if_neg (by omega), if_neg (by omega), if_neg (by omega), if_neg (by omega), if_neg (by omega), if_neg (by omega), if_neg (by omega), if_neg (by omega), if_neg (by omega), if_neg (by omega), if_neg (by omega), if_neg (by omega), if_neg (by omega), if_neg (by omega), if_pos h] <;> rfl
theorem go16 {M : Ms} {t : RTg} {G : List Int} {f : Fr} {i : Ins} (h : i.op = 16) : M.go t G f i = (M.top { f with pc := i.n }) := by
  unfold Ms.go
  rw [if_neg (by omega), if_neg (by omega), if_neg (by omega), if_neg (by omega), if_neg (by omega), if_neg (by omega), if_neg (by omega), if_neg (by omega), if_neg (by omega), if_neg (by omega), if_neg (by omega), if_neg (by omega), if_neg (by omega), if_neg (by omega), if_neg (by omega), if_pos h] <;> rfl
theorem go17 {M : Ms} {t : RTg} {G : List Int} {f : Fr} {i : Ins} (h : i.op = 17) : M.go t G f i = (M.top { f with pc := if lkv f.vars i.a ≠ 0 then i.n else i.c }) := by
  unfold Ms.go
  rw [if_neg (by omega), if_neg (by omega), if_neg (by omega), if_neg (by omega), if_neg (by omega), if_neg (by omega), if_neg (by omega), if_neg (by omega), if_neg (by omega), if_neg (by omega), if_neg (by omega), if_neg (by omega), if_neg (by omega), if_neg (by omega), if_neg (by omega), if_neg (by omega), if_pos h] <;> rfl
theorem go18 {M : Ms} {t : RTg} {G : List Int} {f : Fr} {i : Ins} (h : i.op = 18) : M.go t G f i = (M.ret f i) := by
  unfold Ms.go
  rw [if_neg (by omega), if_neg (by omega), if_neg (by omega), if_neg (by omega), if_neg (by omega), if_neg (by omega), if_neg (by omega), if_neg (by omega), if_neg (by omega), if_neg (by omega), if_neg (by omega), if_neg (by omega), if_neg (by omega), if_neg (by omega), if_neg (by omega), if_neg (by omega), if_neg (by omega), if_pos h] <;> rfl
theorem go19 {M : Ms} {t : RTg} {G : List Int} {f : Fr} {i : Ins} (h : i.op = 19) : M.go t G f i = (M.var f i.a (lkv M.gl i.n)) := by
  unfold Ms.go
  rw [if_neg (by omega), if_neg (by omega), if_neg (by omega), if_neg (by omega), if_neg (by omega), if_neg (by omega), if_neg (by omega), if_neg (by omega), if_neg (by omega), if_neg (by omega), if_neg (by omega), if_neg (by omega), if_neg (by omega), if_neg (by omega), if_neg (by omega), if_neg (by omega), if_neg (by omega), if_neg (by omega), if_pos h] <;> rfl
theorem go20 {M : Ms} {t : RTg} {G : List Int} {f : Fr} {i : Ins} (h : i.op = 20) : M.go t G f i = ({ M with gl := setv M.gl i.n (lkv f.vars i.a) }) := by
  unfold Ms.go
  rw [if_neg (by omega), if_neg (by omega), if_neg (by omega), if_neg (by omega), if_neg (by omega), if_neg (by omega), if_neg (by omega), if_neg (by omega), if_neg (by omega), if_neg (by omega), if_neg (by omega), if_neg (by omega), if_neg (by omega), if_neg (by omega), if_neg (by omega), if_neg (by omega), if_neg (by omega), if_neg (by omega), if_neg (by omega), if_pos h] <;> rfl
theorem go21 {M : Ms} {t : RTg} {G : List Int} {f : Fr} {i : Ins} (h : i.op = 21) : M.go t G f i = (M.regs f (crT i.args M.tb f.regs)) := by
  unfold Ms.go
  rw [if_neg (by omega), if_neg (by omega), if_neg (by omega), if_neg (by omega), if_neg (by omega), if_neg (by omega), if_neg (by omega), if_neg (by omega), if_neg (by omega), if_neg (by omega), if_neg (by omega), if_neg (by omega), if_neg (by omega), if_neg (by omega), if_neg (by omega), if_neg (by omega), if_neg (by omega), if_neg (by omega), if_neg (by omega), if_neg (by omega), if_pos h] <;> rfl
theorem go22 {M : Ms} {t : RTg} {G : List Int} {f : Fr} {i : Ins} (h : i.op = 22) : M.go t G f i = (M.regs f (rmT i.args M.tb f.regs)) := by
  unfold Ms.go
  rw [if_neg (by omega), if_neg (by omega), if_neg (by omega), if_neg (by omega), if_neg (by omega), if_neg (by omega), if_neg (by omega), if_neg (by omega), if_neg (by omega), if_neg (by omega), if_neg (by omega), if_neg (by omega), if_neg (by omega), if_neg (by omega), if_neg (by omega), if_neg (by omega), if_neg (by omega), if_neg (by omega), if_neg (by omega), if_neg (by omega), if_neg (by omega)] <;> rfl
theorem Ms.trap_fs (M : Ms) (c : Int) : (M.trap c).fs = M.fs ∧ (M.trap c).gl = M.gl ∧ (M.trap c).inp = M.inp ∧ (M.trap c).out = M.out ∧ (M.trap c).tb = M.tb ∧ (M.trap c).steps = M.steps ∧ (M.trap c).slack = M.slack := by
  unfold Ms.trap
  split
  · exact ⟨rfl, rfl, rfl, rfl, rfl, rfl, rfl⟩
  · split <;> exact ⟨rfl, rfl, rfl, rfl, rfl, rfl, rfl⟩
/-- A frame otherwise, in its variables and its regions alone. -/
structure Like (f f' : Fr) : Prop where
  u : f'.u = f.u
  into : f'.into = f.into
  pc : f'.pc = f.pc
  vars : f'.vars.length = f.vars.length
theorem Like.refl (f : Fr) : Like f f := ⟨rfl, rfl, rfl, rfl⟩
theorem like_var (f : Fr) (n y : Int) : Like f { f with vars := setv f.vars n y } := ⟨rfl, rfl, rfl, setv_len _ _ _⟩
/-- What an operation leaves of the frames, if it goes neither elsewhere nor into a call nor out of one. -/
structure Stays (M M' : Ms) (f : Fr) (r : List Fr) : Prop where
  fs : ∃ f', M'.fs = f' :: r ∧ Like f f'
  gl : M'.gl.length = M.gl.length
theorem Stays.trap {M : Ms} {f : Fr} {r : List Fr} (h : M.fs = f :: r) (c : Int) : Stays M (M.trap c) f r := ⟨⟨f, (M.trap_fs c).1.trans h, Like.refl f⟩, by rw [(M.trap_fs c).2.1]⟩
theorem Stays.ends {M : Ms} {f : Fr} {r : List Fr} (h : M.fs = f :: r) (e c : Int) : Stays M (M.ends e c) f r := ⟨⟨f, h, Like.refl f⟩, rfl⟩
theorem Stays.var {M : Ms} {f : Fr} {r : List Fr} (h : M.fs = f :: r) (n y : Int) : Stays M (M.var f n y) f r := ⟨⟨_, by show _ :: M.fs.tail = _; rw [h]; rfl, like_var f n y⟩, rfl⟩
theorem Stays.got {M : Ms} {f : Fr} {r : List Fr} (h : M.fs = f :: r) (n : Int) (q : Int × Int) : Stays M (M.got f n q) f r := by
  unfold Ms.got
  split
  · exact .var h n _
  · exact .trap h _
theorem Stays.lies {M : Ms} {G : List Int} {f : Fr} {r : List Fr} (h : M.fs = f :: r) (a c n : Int) : Stays M (M.lies G f a c n) f r := by
  unfold Ms.lies
  split
  · exact ⟨(Stays.var h a _).fs, rfl⟩
  · exact .ends h _ _
theorem Stays.regs {M : Ms} {f : Fr} {r : List Fr} (h : M.fs = f :: r) (q : Tb × (Int → Int) × Bool) : Stays M (M.regs f q) f r := by
  unfold Ms.regs
  split
  · exact ⟨⟨{ f with regs := q.2.1 }, by show _ :: M.fs.tail = _; rw [h]; rfl, rfl, rfl, rfl, rfl⟩, rfl⟩
  · exact ⟨⟨{ f with regs := q.2.1 }, by show _ :: M.fs.tail = _; rw [h]; rfl, rfl, rfl, rfl, rfl⟩, rfl⟩
/-- Of all operations but a jump, a branch, a call and a return. -/
theorem go_stays {M : Ms} {t : RTg} {G : List Int} {f : Fr} {r : List Fr} {i : Ins} (h : M.fs = f :: r) (h1 : 1 ≤ i.op) (h2 : i.op ≤ 22) (hj : i.op ≠ 16) (hb : i.op ≠ 17) (hc : i.op ≠ 13) (hr : i.op ≠ 18) : Stays M (M.go t G f i) f r := by
  obtain h | h | h | h | h | h | h | h | h | h | h | h | h | h | h | h | h | h : i.op = 1 ∨ i.op = 2 ∨ i.op = 3 ∨ i.op = 4 ∨ i.op = 5 ∨ i.op = 6 ∨ i.op = 7 ∨ i.op = 8 ∨ i.op = 9 ∨ i.op = 10 ∨ i.op = 11 ∨ i.op = 12 ∨ i.op = 14 ∨ i.op = 15 ∨ i.op = 19 ∨ i.op = 20 ∨ i.op = 21 ∨ i.op = 22 := by omega
  · rw [go1 h]; exact .var ‹_› _ _
  · rw [go2 h]; exact .var ‹_› _ _
  · rw [go3 h]; exact .var ‹_› _ _
  · rw [go4 h]; exact .got ‹_› _ _
  · rw [go5 h]; exact .var ‹_› _ _
  · rw [go6 h]; exact .got ‹_› _ _
  · rw [go7 h]
    have := Stays.trap (M := { M with tb := M.tb.put (lkv f.vars i.a) i.c (lkv f.vars i.b) }) ‹_› (loadP M.tb.B M.tb.L (lkv f.vars i.a) i.c).2
    exact ⟨this.fs, this.gl⟩
  · rw [go8 h]; exact .got ‹_› _ _
  · rw [go9 h]
    have := Stays.trap (M := { M with tb := M.tb.put (lkv f.vars i.a) (lkv f.vars i.b) (lkv f.vars i.c) }) ‹_› (loadP M.tb.B M.tb.L (lkv f.vars i.a) (lkv f.vars i.b)).2
    exact ⟨this.fs, this.gl⟩
  · rw [go10 h]; exact .got ‹_› _ _
  · rw [go11 h]; exact .lies ‹_› _ _ _
  · rw [go12 h]
    split
    · exact .trap ‹_› _
    · exact .lies ‹_› _ _ _
  · rw [go14 h]
    split
    · exact .trap ‹_› _
    · exact ⟨(Stays.var ‹_› i.a _).fs, rfl⟩
  · rw [go15 h]; exact ⟨⟨f, ‹_›, Like.refl f⟩, rfl⟩
  · rw [go19 h]; exact .var ‹_› _ _
  · rw [go20 h]; exact ⟨⟨f, ‹_›, Like.refl f⟩, setv_len _ _ _⟩
  · rw [go21 h]; exact .regs ‹_› _
  · rw [go22 h]; exact .regs ‹_› _
theorem FrOk.like {t : RTg} {f f' : Fr} {u : Unt} (h : Like f f') (hu : gt t.units f.u = some u) (hv : f.vars.length = u.vars.length) (hp : RtM.Place u f.pc) : FrOk t f' u := ⟨by rw [h.u]; exact hu, h.vars.trans hv, by rw [h.pc]; exact hp⟩
theorem Goal.of {f : Fr} {h : Fr} {r : List Fr} {M : Ms} {t : RTg} (hM : MsOk t M) (hfs : M.fs = f :: h :: r) : f.into = -1 ∨ Vok h f.into := hM.into 0 f h (by rw [hfs]; rfl) (by rw [hfs]; rfl)
/-- Where a frame goes on, if its instruction is no jump, branch or return: behind it. -/
theorem next_place {t : RTg} (hR : RightP t) {u : Unt} (hu : u ∈ t.units) {k : Nat} {i : Ins} (hi : u.ins[k]? = some i) (h1 : i.op ≠ 16) (h2 : i.op ≠ 17) (h3 : i.op ≠ 18) : RtM.Place u ((k : Int) + 1) := by
  have hk := (List.getElem?_eq_some_iff.1 hi).1
  have hl := (right_unit hR hu).1.2.2.2.2.2.2
  refine ⟨by omega, ?_⟩
  by_cases hlast : k = u.ins.length - 1
  · subst hlast
    unfold lastOp at hl
    rw [hi] at hl
    dsimp only at hl
    exact absurd hl (by intro h; rcases h with h | h | h <;> omega)
  · omega
theorem MsOk.mk2 {t : RTg} {M M' : Ms} {f f' : Fr} {r : List Fr} (hM : MsOk t M) (hfs : M.fs = f :: r) (hfs' : M'.fs = f' :: r) (hin : f'.into = f.into) (hf : ∃ u, FrOk t f' u) (hg : M'.gl.length = M.gl.length) : MsOk t M' := by
  refine ⟨fun g hg' => ?_, fun k g h h1 h2 => ?_, ?_, hg.trans hM.gl, fun _ => by rw [hfs']; simp⟩
  · rw [hfs'] at hg'
    rcases List.mem_cons.1 hg' with rfl | hg'
    · exact hf
    · exact hM.fr g (by rw [hfs]; exact List.mem_cons_of_mem _ hg')
  · rw [hfs'] at h1 h2
    cases k with
    | zero =>
      simp only [List.getElem?_cons_zero, Option.some.injEq] at h1
      subst h1
      rw [hin]
      exact hM.into 0 f h (by rw [hfs]; rfl) (by rw [hfs]; simpa using h2)
    | succ k => exact hM.into (k + 1) g h (by rw [hfs]; simpa using h1) (by rw [hfs]; simpa using h2)
  · have := hM.deep
    rw [hfs] at this
    rw [hfs']; simpa using this
/-- What stands next: the frame on top, its unit, its instruction. -/
structure Next (t : RTg) (M : Ms) (f : Fr) (r : List Fr) (u : Unt) (i : Ins) : Prop where
  fs : M.fs = f :: r
  unit : gt t.units f.u = some u
  ins : gt u.ins f.pc = some i
theorem MsOk.nextOf {t : RTg} {M : Ms} (hM : MsOk t M) (he : M.en = 0) : ∃ f r u i, Next t M f r u i ∧ M.next t = some (f, i) := by
  cases hfs : M.fs with
  | nil => exact absurd hfs (hM.en he)
  | cons f r =>
    obtain ⟨u, h1, h2, h3⟩ := hM.fr f (by rw [hfs]; simp)
    obtain ⟨i, h4, _⟩ := gt_in h3
    exact ⟨f, r, u, i, ⟨hfs, h1, h4⟩, by unfold Ms.next; rw [hfs]; simp only; rw [h1]; simp only; rw [h4]⟩
/-- Before an instruction is done: the step is counted, the frame stands behind it. -/
def Ms.pre (M : Ms) (f : Fr) : Ms := { M with steps := M.steps + 1, fs := { f with pc := f.pc + 1 } :: M.fs.tail }
theorem step_next {t : RTg} {G : List Int} {M : Ms} {f : Fr} {i : Ins} (h : M.next t = some (f, i)) : M.step t G = ((M.pre f).go t G { f with pc := f.pc + 1 } i).less t := by unfold Ms.step; rw [h]; rfl
theorem less_fs (M : Ms) (t : RTg) : (M.less t).fs = M.fs ∧ (M.less t).gl = M.gl ∧ (M.less t).en = M.en ∧ (M.less t).tb = M.tb ∧ (M.less t).out = M.out ∧ (M.less t).steps = M.steps ∧ (M.less t).inp = M.inp ∧ (M.less t).code = M.code := by
  unfold Ms.less
  split <;> exact ⟨rfl, rfl, rfl, rfl, rfl, rfl, rfl, rfl⟩
theorem argsV_len (f : Fr) (i : Ins) (n : Nat) (h : i.args.length ≤ n) : (argsV f i n).length = n := by unfold argsV; rw [List.length_append, List.length_map, List.length_drop, List.length_replicate]; omega
theorem MsOk.less {t : RTg} {M : Ms} (h : MsOk t M) : MsOk t (M.less t) := by
  obtain ⟨h1, h2, h3, _⟩ := less_fs M t
  exact ⟨by rw [h1]; exact h.fr, by rw [h1]; exact h.into, by rw [h1]; exact h.deep, by rw [h2]; exact h.gl, by rw [h3, h1]; exact h.en⟩
theorem MsOk.go {t : RTg} {G : List Int} (hR : RightP t) {M : Ms} (hM : MsOk t M) {f : Fr} {r : List Fr} {u : Unt} {i : Ins} (hn : Next t M f r u i) : MsOk t ((M.pre f).go t G { f with pc := f.pc + 1 } i) := by
  obtain ⟨hfs, hu, hi⟩ := hn
  obtain ⟨u', h1, h2, h3⟩ := hM.fr f (by rw [hfs]; simp)
  obtain rfl : u' = u := by rw [hu] at h1; exact (Option.some.inj h1).symm
  have hvl := h2
  have hum : u' ∈ t.units := gt_mem hu
  have hv := right_ins hR hum (gt_mem hi)
  obtain ⟨pn, hpc, hpl, hpi⟩ := gt_some hi
  have hpre : (M.pre f).fs = { f with pc := f.pc + 1 } :: r := by show _ :: M.fs.tail = _; rw [hfs]; rfl
  have hnx : i.op ≠ 16 → i.op ≠ 17 → i.op ≠ 18 → RtM.Place u' (f.pc + 1) := fun a b c => by rw [hpc]; exact next_place hR hum hpi a b c
  have hgl : (M.pre f).gl.length = M.gl.length := rfl
  by_cases h16 : i.op = 16
  · rw [go16 h16]
    exact hM.mk2 (M' := (M.pre f).top _) (f' := { f with pc := i.n }) hfs (by show _ :: (M.pre f).fs.tail = _; rw [hpre]; rfl) rfl ⟨u', hu, h2, hv.go (.inl h16)⟩ rfl
  by_cases h17 : i.op = 17
  · rw [go17 h17]
    refine hM.mk2 (M' := (M.pre f).top _) (f' := { f with pc := if lkv f.vars i.a ≠ 0 then i.n else i.c }) hfs (by show _ :: (M.pre f).fs.tail = _; rw [hpre]; rfl) rfl ⟨u', hu, h2, ?_⟩ rfl
    show RtM.Place u' (if _ then _ else _)
    split
    · exact hv.go (.inr h17)
    · exact hv.els h17
  by_cases h18 : i.op = 18
  · rw [go18 h18]
    unfold Ms.ret
    rw [hpre]
    cases r with
    | nil =>
      show MsOk t (({ (M.pre f) with fs := [] } : Ms).ends 1 0)
      refine ⟨fun g hg => ?_, fun k g h h1 => ?_, Nat.zero_le _, hM.gl, fun h => ?_⟩
      · have hg : g ∈ ([] : List Fr) := hg
        cases hg
      · have h1 : ([] : List Fr)[k]? = some g := h1
        simp at h1
      · have h : (1 : Int) = 0 := h
        omega
    | cons h r =>
      have hh := hM.fr h (by rw [hfs]; simp)
      have hdeep := hM.deep
      rw [hfs] at hdeep
      have key : ∀ h', Like h h' → MsOk t { (M.pre f) with fs := h' :: r } := fun h' hl => by
        refine ⟨fun g hg => ?_, fun k g q h1 h2 => ?_, ?_, hM.gl, fun _ => by simp⟩
        · rcases List.mem_cons.1 hg with rfl | hg
          · obtain ⟨uh, a, b, c⟩ := hh; exact ⟨uh, FrOk.like hl a b c⟩
          · exact hM.fr g (by rw [hfs]; simp [hg])
        · cases k with
          | zero =>
            simp only [List.getElem?_cons_zero, Option.some.injEq] at h1
            subst h1
            rw [hl.into]
            exact hM.into 1 h q (by rw [hfs]; rfl) (by rw [hfs]; simpa using h2)
          | succ k => exact hM.into (k + 2) g q (by rw [hfs]; simpa using h1) (by rw [hfs]; simpa using h2)
        · simp at hdeep ⊢; omega
      show MsOk t { (M.pre f) with fs := _ :: r }
      refine key _ ?_
      split
      · exact like_var h _ _
      · exact Like.refl h
  by_cases h13 : i.op = 13
  · rw [go13 h13]
    unfold Ms.call
    have hst : MsOk t (M.pre f) := hM.mk2 hfs hpre rfl ⟨u', hu, h2, hnx h16 h17 h18⟩ rfl
    split
    · have := Stays.trap hpre 6
      obtain ⟨f', e1, e2⟩ := this.fs
      exact hst.mk2 hpre e1 e2.into ⟨u', FrOk.like e2 hu h2 (hnx h16 h17 h18)⟩ this.gl
    · rename_i hdp
      obtain ⟨g, hg, _, hal, _, hia, _⟩ := call_v (hv.call h13)
      rw [hg]
      dsimp only
      split
      · exact ⟨hst.fr, hst.into, hst.deep, hst.gl, fun h => by cases h⟩
      · refine ⟨fun q hq => ?_, fun k q h h1 h2 => ?_, ?_, hM.gl, fun _ => by simp⟩
        · rcases List.mem_cons.1 hq with rfl | hq
          · have hgm := (right_unit hR (gt_mem hg)).1.2.2.2.1
            refine ⟨g, hg, argsV_len _ _ _ hal, ?_⟩
            have : g.ins.length ≠ 0 := fun h => hgm (List.length_eq_zero_iff.1 h)
            exact ⟨by show (0 : Int) ≤ 0; omega, by show (0 : Int) < _; omega⟩
          · exact hst.fr q hq
        · cases k with
          | zero =>
            simp only [List.getElem?_cons_zero, Option.some.injEq] at h1
            subst h1
            rw [hpre] at h2
            simp only [List.getElem?_cons_succ, List.getElem?_cons_zero, Option.some.injEq] at h2
            subst h2
            rcases hia with h | h
            · exact .inl h
            · exact .inr (vok (u := u') (f := { f with pc := f.pc + 1 }) hvl h)
          | succ k => exact hst.into k q h (by simpa using h1) (by simpa using h2)
        · show (M.pre f).fs.length + 1 ≤ 40
          omega
  · have := go_stays (t := t) (G := G) hpre hv.op.1 hv.op.2 h16 h17 h13 h18
    obtain ⟨f', e1, e2⟩ := this.fs
    exact hM.mk2 hfs e1 e2.into ⟨u', FrOk.like e2 hu h2 (hnx h16 h17 h18)⟩ this.gl
theorem MsOk.step {t : RTg} {G : List Int} (hR : RightP t) {M : Ms} (hM : MsOk t M) (he : M.en = 0) : MsOk t (M.step t G) := by
  obtain ⟨f, r, u, i, hn, h⟩ := hM.nextOf he
  rw [step_next h]
  exact (hM.go hR hn).less
end Go.Proofs.Ytomadjefdghliaa
