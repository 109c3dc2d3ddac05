import Derived.Test.YtomfpmbapdhbgaaGreatP17
/- The walks over guard's seen, closed, call. -/
namespace Go.Proofs.YtomfpmbapdhbgaaGreat
open Go Go.RR Go.RX Go.GX Go.Api Go.RiseM Go.ReachM Go.RtM
attribute [local irreducible] wpList Code.wp wpPlan Exit.then Exit.inBlock bodyPost NoPanic Went GX.Post GX.Again GX.Meet GX.RowR GX.Own GX.Owns GX.Box GX.Sl GX.Pt GX.Ag GX.MapR GX.Kept GX.Pin wpT GoK AtEnd Both
/-- Where a guard's parts lie. -/
structure GV where
  aC : Option Addr
  cC : Nat
  aG : Option Addr
  cG : Nat
  aU : Option Addr
  cU : Nat
  aV : Option Addr
  cV : Nat
  aT : Option Addr
  cT : Nat
  aO : Option Addr
  cO : Nat
  aI : Option Addr
  cI : Nat
  aJ : Option Addr
  cJ : Nat
  aF : Option Addr
  cF : Nat
  aS : Option Addr
  cS : Nat
  aL : Option Addr
  cL : Nat
  aX : Option Addr
  cX : Nat
  st : Nat
  wt : Nat
noncomputable instance decSeen (t : RTg) (k : Int) (L : List Int) (c : Int) : Decidable (GuaM.Seen t k L c) := Classical.propDecidable _
noncomputable instance decClosed (t : RTg) (k : Int) (L : List Int) : Decidable (GuaM.Closed t k L) := Classical.propDecidable _
noncomputable instance decCallC (t : RTg) (k : Int) (u : Unt) (x : Ins) (L : List Int) : Decidable (GuaM.CallC t k u x L) := Classical.propDecidable _
noncomputable instance decCondL (t : RTg) (k : Int) (u : Unt) (x : Ins) (L : List Int) : Decidable (GuaM.CondL t k u x L) := Classical.propDecidable _
noncomputable instance decPasses (t : RTg) (k : Int) (u : Unt) (x : Ins) (s : Api.State) : Decidable (GuaM.Passes t k u x s) := Classical.propDecidable _
noncomputable def outs (t : RTg) : List (List Int) := (List.range t.units.length).map fun u : Nat => out t (u : Int)
theorem outs_get {t : RTg} {i : Nat} (h : i < t.units.length) : (outs t)[i]? = some (out t i) := by
  unfold outs
  rw [List.getElem?_map, List.getElem?_range h]; rfl
theorem seen_spec (bl : Nat) (v : GV) (t : RTg) (u : Unt) (k : Int) (w : Value) (a : Option Addr) (cp : Nat) (L : List Int) (c : Int) : Does Tryz.prog 121 [.pointer (some ⟨bl, 0, none⟩), .int .i64 c, .slice a L.length cp]
    [Sl Ty.int a cp L, Sl Ty.int v.aS v.cS (GuaM.both (glob t) (out t k))] [RowR bl 66 [.slice v.aC t.classes.length v.cC, .slice v.aG t.globals.length v.cG, .slice v.aU t.units.length v.cU, .int .i64 t.main, .int .i64 u.params, .slice v.aV u.vars.length v.cV, .int .i64 u.result, .slice v.aT u.takes.length v.cT, .slice v.aO u.owns.length v.cO, .slice v.aI u.ins.length v.cI, .slice v.aF (flds t).length v.cF, .slice v.aS (GuaM.both (glob t) (out t k)).length v.cS, .slice v.aL (glob t).length v.cL, .slice v.aX (outs t).length v.cX, .int .i64 0, .slice none 0 0, .bool false, .int .i64 0, .int .i64 0, .int .i64 0, .slice v.aJ u.ins.length v.cJ, .slice (some ⟨v.st, 0, none⟩) u.ins.length u.ins.length, w, .slice (some ⟨v.wt, 0, none⟩) u.ins.length u.ins.length]] (fun _ : Unit => .bool (decide (GuaM.Seen t k L c))) (fun _ => []) (fun _ => [RowR bl 66 [.slice v.aC t.classes.length v.cC, .slice v.aG t.globals.length v.cG, .slice v.aU t.units.length v.cU, .int .i64 t.main, .int .i64 u.params, .slice v.aV u.vars.length v.cV, .int .i64 u.result, .slice v.aT u.takes.length v.cT, .slice v.aO u.owns.length v.cO, .slice v.aI u.ins.length v.cI, .slice v.aF (flds t).length v.cF, .slice v.aS (GuaM.both (glob t) (out t k)).length v.cS, .slice v.aL (glob t).length v.cL, .slice v.aX (outs t).length v.cX, .int .i64 0, .slice none 0 0, .bool false, .int .i64 0, .int .i64 0, .int .i64 0, .slice v.aJ u.ins.length v.cJ, .slice (some ⟨v.st, 0, none⟩) u.ins.length u.ins.length, w, .slice (some ⟨v.wt, 0, none⟩) u.ins.length u.ins.length]]) := by
  refine enter Tryz.func121 rfl Tryz.ntmps121 rfl fun b => ?_
  refine GX.wR ?_; intros
  refine GX.o (cl (contains_spec v.aS v.cS (GuaM.both (glob t) (out t k)) c) fun _ => ?_)
  have e : GuaM.Seen t k L c ↔ c ∈ GuaM.both (glob t) (out t k) ∨ c ∈ L := by rw [GuaM.both_mem, or_assoc]; exact Iff.rfl
  by_cases h : c ∈ GuaM.both (glob t) (out t k)
  · refine GX.wR ?_; intros
    exact rt1 () (vY (e.2 (.inl h)))
  · refine GX.wR ?_; intros
    refine GX.o (cl (contains_spec a cp L c) fun _ => ?_)
    refine GX.wR ?_; intros
    exact rt1 () (vI ⟨fun h2 => (e.1 h2).elim (fun h3 => absurd h3 h) id, fun h2 => e.2 (.inr h2)⟩)
theorem closed1_spec (bl b2 b3 : Nat) (v : GV) (t : RTg) (u : Unt) (k : Int) (w : Value) (L : List Int) (c : Int) : Does Tryz.prog 120 [.int .i64 c, .pointer (some ⟨b2, 0, none⟩), .pointer (some ⟨b3, 0, none⟩)]
    [Pt (Ty.slice Ty.int) b3 0 L, Sl Ty.int v.aS v.cS (GuaM.both (glob t) (out t k))] [RowR b2 56 [.pointer (some ⟨bl, 0, none⟩)], RowR bl 66 [.slice v.aC t.classes.length v.cC, .slice v.aG t.globals.length v.cG, .slice v.aU t.units.length v.cU, .int .i64 t.main, .int .i64 u.params, .slice v.aV u.vars.length v.cV, .int .i64 u.result, .slice v.aT u.takes.length v.cT, .slice v.aO u.owns.length v.cO, .slice v.aI u.ins.length v.cI, .slice v.aF (flds t).length v.cF, .slice v.aS (GuaM.both (glob t) (out t k)).length v.cS, .slice v.aL (glob t).length v.cL, .slice v.aX (outs t).length v.cX, .int .i64 0, .slice none 0 0, .bool false, .int .i64 0, .int .i64 0, .int .i64 0, .slice v.aJ u.ins.length v.cJ, .slice (some ⟨v.st, 0, none⟩) u.ins.length u.ins.length, w, .slice (some ⟨v.wt, 0, none⟩) u.ins.length u.ins.length]] (fun _ : Unit => .bool (decide (¬ GuaM.Seen t k L c))) (fun _ => []) (fun _ => [RowR b2 56 [.pointer (some ⟨bl, 0, none⟩)], RowR bl 66 [.slice v.aC t.classes.length v.cC, .slice v.aG t.globals.length v.cG, .slice v.aU t.units.length v.cU, .int .i64 t.main, .int .i64 u.params, .slice v.aV u.vars.length v.cV, .int .i64 u.result, .slice v.aT u.takes.length v.cT, .slice v.aO u.owns.length v.cO, .slice v.aI u.ins.length v.cI, .slice v.aF (flds t).length v.cF, .slice v.aS (GuaM.both (glob t) (out t k)).length v.cS, .slice v.aL (glob t).length v.cL, .slice v.aX (outs t).length v.cX, .int .i64 0, .slice none 0 0, .bool false, .int .i64 0, .int .i64 0, .int .i64 0, .slice v.aJ u.ins.length v.cJ, .slice (some ⟨v.st, 0, none⟩) u.ins.length u.ins.length, w, .slice (some ⟨v.wt, 0, none⟩) u.ins.length u.ins.length]]) := by
  refine enter Tryz.func120 rfl Tryz.ntmps120 rfl fun b => ?_
  refine GX.wR ?_; intros
  refine GX.nmS 7 ?_; rintro a cp rfl rfl
  refine GX.o (cl (seen_spec bl v t u k w a cp L c) fun _ => ?_)
  refine GX.wR ?_; intros
  exact rt1 () rfl
theorem closed_spec (bl : Nat) (v : GV) (t : RTg) (u : Unt) (k : Int) (w : Value) (a : Option Addr) (cp : Nat) (L : List Int) (hs : Small t) (hL : L.length ≤ 1000000) : Does Tryz.prog 87 [.pointer (some ⟨bl, 0, none⟩), .slice a L.length cp]
    [Sl Ty.int a cp L, Sl Ty.int v.aS v.cS (GuaM.both (glob t) (out t k)), Sl (Ty.slice Ty.int) v.aF v.cF (flds t)] [RowR bl 66 [.slice v.aC t.classes.length v.cC, .slice v.aG t.globals.length v.cG, .slice v.aU t.units.length v.cU, .int .i64 t.main, .int .i64 u.params, .slice v.aV u.vars.length v.cV, .int .i64 u.result, .slice v.aT u.takes.length v.cT, .slice v.aO u.owns.length v.cO, .slice v.aI u.ins.length v.cI, .slice v.aF (flds t).length v.cF, .slice v.aS (GuaM.both (glob t) (out t k)).length v.cS, .slice v.aL (glob t).length v.cL, .slice v.aX (outs t).length v.cX, .int .i64 0, .slice none 0 0, .bool false, .int .i64 0, .int .i64 0, .int .i64 0, .slice v.aJ u.ins.length v.cJ, .slice (some ⟨v.st, 0, none⟩) u.ins.length u.ins.length, w, .slice (some ⟨v.wt, 0, none⟩) u.ins.length u.ins.length]] (fun _ : Unit => .bool (decide (GuaM.Closed t k L))) (fun _ => []) (fun _ => [RowR bl 66 [.slice v.aC t.classes.length v.cC, .slice v.aG t.globals.length v.cG, .slice v.aU t.units.length v.cU, .int .i64 t.main, .int .i64 u.params, .slice v.aV u.vars.length v.cV, .int .i64 u.result, .slice v.aT u.takes.length v.cT, .slice v.aO u.owns.length v.cO, .slice v.aI u.ins.length v.cI, .slice v.aF (flds t).length v.cF, .slice v.aS (GuaM.both (glob t) (out t k)).length v.cS, .slice v.aL (glob t).length v.cL, .slice v.aX (outs t).length v.cX, .int .i64 0, .slice none 0 0, .bool false, .int .i64 0, .int .i64 0, .int .i64 0, .slice v.aJ u.ins.length v.cJ, .slice (some ⟨v.st, 0, none⟩) u.ins.length u.ins.length, w, .slice (some ⟨v.wt, 0, none⟩) u.ins.length u.ins.length]]) := by
  refine enter Tryz.func87 rfl Tryz.ntmps87 rfl fun b => ?_
  refine GX.wR ?_; intros
  refine GX.nmP 2 ?_; rintro b2 rfl
  refine GX.nmP 3 ?_; rintro b3 rfl
  refine frzS b3 Ty.int L ?_
  refine GX.drawn2 (RowR b2 56 [.pointer (some ⟨bl, 0, none⟩)]) (RowR bl 66 [.slice v.aC t.classes.length v.cC, .slice v.aG t.globals.length v.cG, .slice v.aU t.units.length v.cU, .int .i64 t.main, .int .i64 u.params, .slice v.aV u.vars.length v.cV, .int .i64 u.result, .slice v.aT u.takes.length v.cT, .slice v.aO u.owns.length v.cO, .slice v.aI u.ins.length v.cI, .slice v.aF (flds t).length v.cF, .slice v.aS (GuaM.both (glob t) (out t k)).length v.cS, .slice v.aL (glob t).length v.cL, .slice v.aX (outs t).length v.cX, .int .i64 0, .slice none 0 0, .bool false, .int .i64 0, .int .i64 0, .int .i64 0, .slice v.aJ u.ins.length v.cJ, .slice (some ⟨v.st, 0, none⟩) u.ins.length u.ins.length, w, .slice (some ⟨v.wt, 0, none⟩) u.ins.length u.ins.length]) (fun j => !(List.contains [7] j)) [(0, true), (1, true), (2, true), (3, true), (4, true), (6, true), (5, false), (7, false), (8, true), (9, true)] rfl (by kernel_rfl) (by kernel_rfl) (by first | ((repeat (first | apply Go.GX.SelR.nil | apply Go.GX.SelR.cons | (with_reducible apply Go.GX.TakeR.head) | apply Go.GX.TakeR.tail)); done) | (repeat (first | apply Go.GX.SelR.nil | apply Go.GX.SelR.cons | apply Go.GX.TakeR.head | apply Go.GX.TakeR.tail))) ?_; intro wd F hW hR
  refine GX.wT ?_; intros
  refine GX.nmS 9 ?_; rintro a3 c3 rfl rfl
  have hc := hs.classes
  have hr := hs.refs
  have hfl := flds_len t
  refine GX.gow ?_
  refine (cl (from_spec v.aF a3 v.cF c3 (flds t) L (by omega) hr (by omega)) fun s => ?_)
  obtain ⟨a2, c2⟩ := s
  dsimp only
  refine frz a2 ?_
  refine GX.wT ?_; intros
  refine GX.unpin (RowR b2 56 [.pointer (some ⟨bl, 0, none⟩)]) ?_
  refine GX.unpin (RowR bl 66 [.slice v.aC t.classes.length v.cC, .slice v.aG t.globals.length v.cG, .slice v.aU t.units.length v.cU, .int .i64 t.main, .int .i64 u.params, .slice v.aV u.vars.length v.cV, .int .i64 u.result, .slice v.aT u.takes.length v.cT, .slice v.aO u.owns.length v.cO, .slice v.aI u.ins.length v.cI, .slice v.aF (flds t).length v.cF, .slice v.aS (GuaM.both (glob t) (out t k)).length v.cS, .slice v.aL (glob t).length v.cL, .slice v.aX (outs t).length v.cX, .int .i64 0, .slice none 0 0, .bool false, .int .i64 0, .int .i64 0, .int .i64 0, .slice v.aJ u.ins.length v.cJ, .slice (some ⟨v.st, 0, none⟩) u.ins.length u.ins.length, w, .slice (some ⟨v.wt, 0, none⟩) u.ins.length u.ins.length]) ?_
  refine GX.gow ?_
  refine (cl (containsFunc_spec a2 c2 (fromL (flds t) L) 120 [.pointer (some ⟨b2, 0, none⟩), .pointer (some ⟨b3, 0, none⟩)] [Pt (Ty.slice Ty.int) b3 0 L, Sl Ty.int v.aS v.cS (GuaM.both (glob t) (out t k))] [RowR b2 56 [.pointer (some ⟨bl, 0, none⟩)], RowR bl 66 [.slice v.aC t.classes.length v.cC, .slice v.aG t.globals.length v.cG, .slice v.aU t.units.length v.cU, .int .i64 t.main, .int .i64 u.params, .slice v.aV u.vars.length v.cV, .int .i64 u.result, .slice v.aT u.takes.length v.cT, .slice v.aO u.owns.length v.cO, .slice v.aI u.ins.length v.cI, .slice v.aF (flds t).length v.cF, .slice v.aS (GuaM.both (glob t) (out t k)).length v.cS, .slice v.aL (glob t).length v.cL, .slice v.aX (outs t).length v.cX, .int .i64 0, .slice none 0 0, .bool false, .int .i64 0, .int .i64 0, .int .i64 0, .slice v.aJ u.ins.length v.cJ, .slice (some ⟨v.st, 0, none⟩) u.ins.length u.ins.length, w, .slice (some ⟨v.wt, 0, none⟩) u.ins.length u.ins.length]] (fun n => decide (¬ GuaM.Seen t k L n)) (fun n _ => closed1_spec bl b2 b3 v t u k w L n)) fun _ => ?_)
  have e : ((fromL (flds t) L).any fun n => decide (¬ GuaM.Seen t k L n)) = decide (¬ GuaM.Closed t k L) := by
    rw [Bool.eq_iff_iff, List.any_eq_true]
    simp [GuaM.Closed]
  rw [e]
  refine GX.wT ?_; intros
  refine GX.wR ?_; intros
  exact rt1 () (vI Classical.not_not.symm)
set_option maxHeartbeats 1000000 in
theorem gcall_spec (bl : Nat) (v : GV) (t : RTg) (u : Unt) (k : Int) (w : Value) (a : Option Addr) (cp : Nat) (L : List Int) (cs : List Value) (x : Ins) (g : Unt) (j : Nat) (hj : x.c = (j : Int)) (hg : t.units[j]? = some g) (hL : L.length ≤ 400000) (hu : u.takes.length ≤ 400000) : Does Tryz.prog 90 [.pointer (some ⟨bl, 0, none⟩), .agg cs.toArray, .slice a L.length cp]
    [Ag tyIns cs x, Sl Ty.int a cp L, Sl tyUnt v.aU v.cU t.units, Sl Ty.int v.aV v.cV u.vars, Sl Ty.int v.aT v.cT u.takes, Sl tyIns v.aI v.cI u.ins, Sl tyIns v.aJ v.cJ u.ins, Sl (Ty.slice Ty.int) v.aF v.cF (flds t), Sl Ty.int v.aS v.cS (GuaM.both (glob t) (out t k)), Sl Ty.int v.aL v.cL (glob t), Sl (Ty.slice Ty.int) v.aX v.cX (outs t)] [RowR bl 66 [.slice v.aC t.classes.length v.cC, .slice v.aG t.globals.length v.cG, .slice v.aU t.units.length v.cU, .int .i64 t.main, .int .i64 u.params, .slice v.aV u.vars.length v.cV, .int .i64 u.result, .slice v.aT u.takes.length v.cT, .slice v.aO u.owns.length v.cO, .slice v.aI u.ins.length v.cI, .slice v.aF (flds t).length v.cF, .slice v.aS (GuaM.both (glob t) (out t k)).length v.cS, .slice v.aL (glob t).length v.cL, .slice v.aX (outs t).length v.cX, .int .i64 0, .slice none 0 0, .bool false, .int .i64 0, .int .i64 0, .int .i64 0, .slice v.aJ u.ins.length v.cJ, .slice (some ⟨v.st, 0, none⟩) u.ins.length u.ins.length, w, .slice (some ⟨v.wt, 0, none⟩) u.ins.length u.ins.length]] (fun _ : Unit => .bool (decide (GuaM.CallC t k u x L))) (fun _ => []) (fun _ => [RowR bl 66 [.slice v.aC t.classes.length v.cC, .slice v.aG t.globals.length v.cG, .slice v.aU t.units.length v.cU, .int .i64 t.main, .int .i64 u.params, .slice v.aV u.vars.length v.cV, .int .i64 u.result, .slice v.aT u.takes.length v.cT, .slice v.aO u.owns.length v.cO, .slice v.aI u.ins.length v.cI, .slice v.aF (flds t).length v.cF, .slice v.aS (GuaM.both (glob t) (out t k)).length v.cS, .slice v.aL (glob t).length v.cL, .slice v.aX (outs t).length v.cX, .int .i64 0, .slice none 0 0, .bool false, .int .i64 0, .int .i64 0, .int .i64 0, .slice v.aJ u.ins.length v.cJ, .slice (some ⟨v.st, 0, none⟩) u.ins.length u.ins.length, w, .slice (some ⟨v.wt, 0, none⟩) u.ins.length u.ins.length]]) := by
  refine enter Tryz.func90 rfl Tryz.ntmps90 rfl fun b => ?_
  have hjl := (List.getElem?_eq_some_iff.1 hg).1
  have ho := outs_get hjl
  refine GX.wR ?_; intros
  refine GX.drawn1 (RowR bl 66 [.slice v.aC t.classes.length v.cC, .slice v.aG t.globals.length v.cG, .slice v.aU t.units.length v.cU, .int .i64 t.main, .int .i64 u.params, .slice v.aV u.vars.length v.cV, .int .i64 u.result, .slice v.aT u.takes.length v.cT, .slice v.aO u.owns.length v.cO, .slice v.aI u.ins.length v.cI, .slice v.aF (flds t).length v.cF, .slice v.aS (GuaM.both (glob t) (out t k)).length v.cS, .slice v.aL (glob t).length v.cL, .slice v.aX (outs t).length v.cX, .int .i64 0, .slice none 0 0, .bool false, .int .i64 0, .int .i64 0, .int .i64 0, .slice v.aJ u.ins.length v.cJ, .slice (some ⟨v.st, 0, none⟩) u.ins.length u.ins.length, w, .slice (some ⟨v.wt, 0, none⟩) u.ins.length u.ins.length]) (fun j => !(List.contains [] j)) [(0, true), (1, true), (2, true), (3, true), (4, true), (5, true), (6, true), (7, true), (8, true), (9, true)] rfl (by kernel_rfl) (by kernel_rfl) (by first | ((repeat (first | apply Go.GX.SelR.nil | apply Go.GX.SelR.cons | (with_reducible apply Go.GX.TakeR.head) | apply Go.GX.TakeR.tail)); done) | (repeat (first | apply Go.GX.SelR.nil | apply Go.GX.SelR.cons | apply Go.GX.TakeR.head | apply Go.GX.TakeR.tail))) ?_; intro wd F hW hR
  refine GX.wT ?_; intros
  refine GX.nmP 4 ?_; rintro b4 rfl
  refine GX.nmS 16 ?_; rintro aQ cQ rfl rfl
  refine GX.unpin (RowR bl 66 [.slice v.aC t.classes.length v.cC, .slice v.aG t.globals.length v.cG, .slice v.aU t.units.length v.cU, .int .i64 t.main, .int .i64 u.params, .slice v.aV u.vars.length v.cV, .int .i64 u.result, .slice v.aT u.takes.length v.cT, .slice v.aO u.owns.length v.cO, .slice v.aI u.ins.length v.cI, .slice v.aF (flds t).length v.cF, .slice v.aS (GuaM.both (glob t) (out t k)).length v.cS, .slice v.aL (glob t).length v.cL, .slice v.aX (outs t).length v.cX, .int .i64 0, .slice none 0 0, .bool false, .int .i64 0, .int .i64 0, .int .i64 0, .slice v.aJ u.ins.length v.cJ, .slice (some ⟨v.st, 0, none⟩) u.ins.length u.ins.length, w, .slice (some ⟨v.wt, 0, none⟩) u.ins.length u.ins.length]) ?_
  refine GX.wR ?_; intros
  have hiff : GuaM.CallC t k u x L ↔ (∀ c ∈ out t (j : Int), GuaM.Seen t k L c) ∧ ∀ c ∈ g.takes, c ∈ L ∨ c ∈ u.takes := by
    unfold GuaM.CallC
    rw [hj]
    have hgt : gt t.units (j : Int) = some g := by rw [gt_nat]; exact hg
    constructor
    · rintro ⟨h1, h2⟩
      exact ⟨h1, h2 g hgt⟩
    · rintro ⟨h1, h2⟩
      refine ⟨h1, fun g' hg' => ?_⟩
      rw [hgt] at hg'
      cases hg'
      exact h2
  refine GX.loop (σ := Nat) (fun i => [(0, .pointer (some ⟨bl, 0, none⟩)), (2, .slice a L.length cp), (4, .pointer (some ⟨b4, 0, none⟩)), (16, .slice aQ (out t (j : Int)).length cQ), (17, .int .i64 ((out t (j : Int)).length : Int)), (18, .int .i64 (i : Int))]) (fun _ => []) (fun _ => [RowR bl 66 [.slice v.aC t.classes.length v.cC, .slice v.aG t.globals.length v.cG, .slice v.aU t.units.length v.cU, .int .i64 t.main, .int .i64 u.params, .slice v.aV u.vars.length v.cV, .int .i64 u.result, .slice v.aT u.takes.length v.cT, .slice v.aO u.owns.length v.cO, .slice v.aI u.ins.length v.cI, .slice v.aF (flds t).length v.cF, .slice v.aS (GuaM.both (glob t) (out t k)).length v.cS, .slice v.aL (glob t).length v.cL, .slice v.aX (outs t).length v.cX, .int .i64 0, .slice none 0 0, .bool false, .int .i64 0, .int .i64 0, .int .i64 0, .slice v.aJ u.ins.length v.cJ, .slice (some ⟨v.st, 0, none⟩) u.ins.length u.ins.length, w, .slice (some ⟨v.wt, 0, none⟩) u.ins.length u.ins.length]])
    (fun i => i ≤ (out t (j : Int)).length ∧ ∀ c ∈ (out t (j : Int)).take i, GuaM.Seen t k L c) (fun i => (out t (j : Int)).length - i) 0 ⟨rfl, rfl, rfl, rfl, rfl, rfl, trivial⟩ ⟨by omega, by simp⟩ (fun i hi => ?_)
  obtain ⟨hi, hn⟩ := hi
  by_cases hlt : i < (out t (j : Int)).length
  · obtain ⟨c, hc⟩ := get_lt hlt
    refine GX.wR ?_; intros
    refine GX.o (cl (seen_spec bl v t u k w a cp L c) fun _ => ?_)
    by_cases h : GuaM.Seen t k L c
    · have h' : ¬ ¬ GuaM.Seen t k L c := fun h2 => h2 h
      refine GX.wR ?_; intros
      refine again (i + 1) ⟨rfl, rfl, rfl, rfl, rfl, rfl, trivial⟩ ⟨by omega, fun y hy => ?_⟩ (by omega)
      rw [List.take_add_one, hc, List.mem_append] at hy
      rcases hy with hy | hy
      · exact hn y hy
      · simp at hy; rw [hy]; exact h
    · refine GX.wR ?_; intros
      exact rt1 () (vN fun h2 => h ((hiff.1 h2).1 c (List.mem_of_getElem? hc)))
  · have hil : i = (out t (j : Int)).length := by omega
    subst hil
    rw [List.take_length] at hn
    refine GX.wR ?_; intros
    refine GX.drawn1 (RowR bl 66 [.slice v.aC t.classes.length v.cC, .slice v.aG t.globals.length v.cG, .slice v.aU t.units.length v.cU, .int .i64 t.main, .int .i64 u.params, .slice v.aV u.vars.length v.cV, .int .i64 u.result, .slice v.aT u.takes.length v.cT, .slice v.aO u.owns.length v.cO, .slice v.aI u.ins.length v.cI, .slice v.aF (flds t).length v.cF, .slice v.aS (GuaM.both (glob t) (out t k)).length v.cS, .slice v.aL (glob t).length v.cL, .slice v.aX (outs t).length v.cX, .int .i64 0, .slice none 0 0, .bool false, .int .i64 0, .int .i64 0, .int .i64 0, .slice v.aJ u.ins.length v.cJ, .slice (some ⟨v.st, 0, none⟩) u.ins.length u.ins.length, w, .slice (some ⟨v.wt, 0, none⟩) u.ins.length u.ins.length]) (fun j => !(List.contains [17] j)) [(0, true), (1, true), (2, true), (3, true), (4, true), (5, true), (6, true), (7, true), (8, true), (9, true), (10, true), (11, true), (12, true), (13, true), (14, true), (15, true), (16, false), (17, false), (18, true)] rfl (by kernel_rfl) (by kernel_rfl) (by first | ((repeat (first | apply Go.GX.SelR.nil | apply Go.GX.SelR.cons | (with_reducible apply Go.GX.TakeR.head) | apply Go.GX.TakeR.tail)); done) | (repeat (first | apply Go.GX.SelR.nil | apply Go.GX.SelR.cons | apply Go.GX.TakeR.head | apply Go.GX.TakeR.tail))) ?_; intro wd F hW hR
    refine GX.wT ?_; intros
    refine GX.nmS 37 ?_; rintro aW cW rfl rfl
    refine GX.gow ?_
    refine (cl (both_spec a v.aT cp v.cT L u.takes hL hu) fun s => ?_)
    obtain ⟨a5, c5⟩ := s
    dsimp only
    refine GX.wT ?_; intros
    refine GX.gow ?_
    refine (cl (gall_spec aW a5 cW c5 g.takes (puts (L ++ u.takes))) fun _ => ?_)
    refine GX.wT ?_; intros
    refine GX.unpin (RowR bl 66 [.slice v.aC t.classes.length v.cC, .slice v.aG t.globals.length v.cG, .slice v.aU t.units.length v.cU, .int .i64 t.main, .int .i64 u.params, .slice v.aV u.vars.length v.cV, .int .i64 u.result, .slice v.aT u.takes.length v.cT, .slice v.aO u.owns.length v.cO, .slice v.aI u.ins.length v.cI, .slice v.aF (flds t).length v.cF, .slice v.aS (GuaM.both (glob t) (out t k)).length v.cS, .slice v.aL (glob t).length v.cL, .slice v.aX (outs t).length v.cX, .int .i64 0, .slice none 0 0, .bool false, .int .i64 0, .int .i64 0, .int .i64 0, .slice v.aJ u.ins.length v.cJ, .slice (some ⟨v.st, 0, none⟩) u.ins.length u.ins.length, w, .slice (some ⟨v.wt, 0, none⟩) u.ins.length u.ins.length]) ?_
    refine GX.wR ?_; intros
    refine rt1 () (vI ?_)
    rw [hiff]
    have e : ∀ c, c ∈ puts (L ++ u.takes) ↔ c ∈ L ∨ c ∈ u.takes := fun c => by rw [(puts_spec _).2, List.mem_append]
    exact ⟨fun h2 c hc => (e c).2 (h2.2 c hc), fun h2 => ⟨hn, fun c hc => (e c).1 (h2 c hc)⟩⟩
end Go.Proofs.YtomfpmbapdhbgaaGreat
