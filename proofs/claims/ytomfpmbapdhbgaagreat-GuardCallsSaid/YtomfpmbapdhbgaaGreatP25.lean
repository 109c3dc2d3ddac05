import Derived.Test.YtomfpmbapdhbgaaGreatP9
import Derived.Test.YtomfpmbapdhbgaaGreatP10
import Derived.Test.YtomfpmbapdhbgaaGreatP13
import Derived.Test.YtomfpmbapdhbgaaGreatP19
import Derived.Test.YtomfpmbapdhbgaaGreatP24
import Derived.ProofKit
import Derived.Deep.Slices
import Derived.OpenShut
/- The walk over guard's goes. -/
namespace Go.GuaM
open Go.RiseM Go.Api Go.FlowM Go.LivM Go.ReachM Go.RtM
theorem at_in {u : Unt} {N : Int} (h : ∀ x ∈ u.ins, x.op = 21 → ∀ c ∈ x.args, 0 ≤ c ∧ c < N) {i : Nat} {L : List Int} (hA : At u i L) : ∀ c ∈ L, 0 ≤ c ∧ c < N := by
  induction hA with
  | zero => simp
  | step _ hx _ ih =>
    intro c hc
    unfold alive at hc
    split at hc
    · rcases both_mem.1 hc with h1 | h1
      · exact ih c h1
      · exact h _ (List.mem_of_getElem? hx) (by assumption) c h1
    · split at hc
      · exact ih c (minus_mem.1 hc).1
      · exact ih c hc
theorem at_len {u : Unt} {N : Nat} (h : ∀ x ∈ u.ins, x.op = 21 → ∀ c ∈ x.args, 0 ≤ c ∧ c < (N : Int)) {i : Nat} {L : List Int} (hA : At u i L) : L.length ≤ N :=
  rise_len L 0 N hA.rise fun c hc => by have := at_in h hA c hc; omega
theorem snd_stale {u : Unt} {S : List Api.State} (h : Snd u S) {j : Nat} {o : Api.State} (ho : S[j]? = some o) : (∀ v ∈ o.stale, 0 ≤ v ∧ v < (u.vars.length : Int)) ∧ o.stale.length ≤ u.vars.length := by
  have key : ∀ v ∈ o.stale, 0 ≤ v ∧ v < (u.vars.length : Int) := fun v hv => by
    by_cases hm : o.met = true
    · have := ((h.met j o ho hm).2 v hv).var; exact ⟨this.1, this.2⟩
    · rw [(h.un j o ho (by simpa using hm)).2] at hv; simp at hv
  exact ⟨key, rise_len o.stale 0 u.vars.length (h.rl j o ho).2 fun v hv => by have := key v hv; omega⟩
theorem snd_live {u : Unt} {S : List Api.State} (h : Snd u S) {N : Nat} (hc : ∀ x ∈ u.ins, x.op = 21 → ∀ c ∈ x.args, 0 ≤ c ∧ c < (N : Int)) {j : Nat} {o : Api.State} (ho : S[j]? = some o) : o.live.length ≤ N := by
  by_cases hm : o.met = true
  · exact at_len hc (h.met j o ho hm).1
  · rw [(h.un j o ho (by simpa using hm)).1]; simp
theorem out_stale {u : Unt} {x : Ins} {st : List Int} (h : ∀ v ∈ st, 0 ≤ v ∧ v < (u.vars.length : Int)) : (staleOut u x st).length ≤ u.vars.length :=
  rise_len _ 0 u.vars.length (staleOut_rise u x st) fun v hv => by
    obtain ⟨h1 | h1, _⟩ := staleOut_mem.1 hv
    · have := h v h1; omega
    · obtain ⟨_, h0, c, hc, _⟩ := h1
      have := (List.getElem?_eq_some_iff.1 hc).1
      omega
end Go.GuaM
namespace Go.Proofs.YtomfpmbapdhbgaaGreat
open Go Go.RR Go.RX Go.GX Go.Api Go.RiseM Go.ReachM Go.RtM Go.LivM Go.FlowM
attribute [local irreducible] wpList Code.wp wpPlan Exit.then Exit.inBlock bodyPost NoPanic Went GX.Post GX.Again GX.Meet GX.RowR GX.Own GX.Owns GX.Box GX.Sl GX.Pt GX.Ag GX.MapR GX.Kept GX.Pin wpT GoK AtEnd Both
structure UnW (t : RTg) (u : Unt) : Prop where
  ne : u.ins ≠ []
  ins : u.ins.length ≤ 100000
  vars : u.vars.length ≤ 100000
  takes : u.takes.length ≤ 100000
  glob : (glob t).length ≤ 100000
  cls : t.classes.length ≤ 100000
  each : ∀ x ∈ u.ins, InsOk t x
  cr : ∀ x ∈ u.ins, x.op = 21 → ∀ c ∈ x.args, 0 ≤ c ∧ c < (t.classes.length : Int)
structure GoR (t : RTg) (k : Int) (u : Unt) where
  q : GQ
  r : Bool
  no : r = false → ¬ GuaM.AccU t k u
  yes : r = true → GuaM.Snd u q.S ∧ (∀ i, GuaM.Done t k u q.S i) ∧ GuaM.Cov q.S 0 [] []
def q0 (u : Unt) : GQ := ⟨none, 0, [], List.replicate u.ins.length ⟨false, [], []⟩, List.replicate u.ins.length false⟩
set_option maxHeartbeats 4000000 in
theorem ggoes_spec (bl : Nat) (v : GV) (t : RTg) (u : Unt) (k : Int) (hs : Small t) (hu : UnW t u) :
    Does Tryz.prog 28 [.pointer (some ⟨bl, 0, none⟩)] [Sl tyUnt v.aU v.cU t.units, Sl Ty.int v.aV v.cV u.vars, Sl Ty.int v.aT v.cT u.takes, Sl tyIns v.aI v.cI u.ins, Sl tyIns v.aJ v.cJ u.ins, Sl (Ty.slice Ty.int) v.aF v.cF (flds t), Sl Ty.int v.aS v.cS (GuaM.both (glob t) (out t k)), Sl Ty.int v.aL v.cL (glob t), Sl (Ty.slice Ty.int) v.aX v.cX (outs t)] [RowR bl 66 [.slice v.aC t.classes.length v.cC, .slice v.aG t.globals.length v.cG, .slice v.aU t.units.length v.cU, .int .i64 t.main, .int .i64 u.params, .slice v.aV u.vars.length v.cV, .int .i64 u.result, .slice v.aT u.takes.length v.cT, .slice v.aO u.owns.length v.cO, .slice v.aI u.ins.length v.cI, .slice v.aF (flds t).length v.cF, .slice v.aS (GuaM.both (glob t) (out t k)).length v.cS, .slice v.aL (glob t).length v.cL, .slice v.aX (outs t).length v.cX, .int .i64 0, .slice none 0 0, .bool false, .int .i64 0, .int .i64 0, .int .i64 0, .slice v.aJ u.ins.length v.cJ, .slice (some ⟨v.st, 0, none⟩) u.ins.length u.ins.length, .slice (q0 u).ao (q0 u).xs.length (q0 u).cap, .slice (some ⟨v.wt, 0, none⟩) u.ins.length u.ins.length], GX.Own 3 Ty.int (q0 u).ao (q0 u).cap (q0 u).xs, GX.Own 48 tyState (some ⟨v.st, 0, none⟩) u.ins.length (q0 u).S, GX.Own 4 Ty.bool (some ⟨v.wt, 0, none⟩) u.ins.length (q0 u).W]
      (fun s : GoR t k u => .bool s.r) (fun _ => []) (fun s => [RowR bl 66 [.slice v.aC t.classes.length v.cC, .slice v.aG t.globals.length v.cG, .slice v.aU t.units.length v.cU, .int .i64 t.main, .int .i64 u.params, .slice v.aV u.vars.length v.cV, .int .i64 u.result, .slice v.aT u.takes.length v.cT, .slice v.aO u.owns.length v.cO, .slice v.aI u.ins.length v.cI, .slice v.aF (flds t).length v.cF, .slice v.aS (GuaM.both (glob t) (out t k)).length v.cS, .slice v.aL (glob t).length v.cL, .slice v.aX (outs t).length v.cX, .int .i64 0, .slice none 0 0, .bool false, .int .i64 0, .int .i64 0, .int .i64 0, .slice v.aJ u.ins.length v.cJ, .slice (some ⟨v.st, 0, none⟩) u.ins.length u.ins.length, .slice s.q.ao s.q.xs.length s.q.cap, .slice (some ⟨v.wt, 0, none⟩) u.ins.length u.ins.length], GX.Own 3 Ty.int s.q.ao s.q.cap s.q.xs, GX.Own 48 tyState (some ⟨v.st, 0, none⟩) u.ins.length s.q.S, GX.Own 4 Ty.bool (some ⟨v.wt, 0, none⟩) u.ins.length s.q.W]) := by
  refine enter Tryz.func28 rfl Tryz.ntmps28 rfl fun b => ?_
  have hpos : 0 < u.ins.length := List.length_pos_iff.2 hu.ne
  have h0 : (q0 u).S[0]? = some ⟨false, [], []⟩ := by unfold q0; dsimp only; rw [List.getElem?_replicate, if_pos hpos]
  have w0 : (q0 u).W[0]? = some false := by unfold q0; dsimp only; rw [List.getElem?_replicate, if_pos hpos]
  refine slNil Ty.int ?_
  refine GX.wa_R ?_; intros
  refine GX.o (cl (comes_spec bl v t u k (q0 u) 0 none 0 [] none 0 [] ⟨false, [], []⟩ false h0 w0 (by simp [q0]) (by simp [q0]) (by simp) (by simp) (by simp [q0]) hu.ins) fun s => ?_)
  obtain ⟨q, r, no, yes⟩ := s
  dsimp only
  have hO : GuaM.Out t k u q.S q.W q.xs := by
    cases r with
    | false => have := (no rfl).1; cases this
    | true =>
      obtain ⟨_, h1 | ⟨_, h2, h3, h4 | ⟨_, h4⟩⟩⟩ := yes rfl
      · have := h1.1; cases this
      · have := h4.1; cases this
      · rw [h2, h3]
        exact GuaM.out_start hu.ne h4
  refine GX.wa_R ?_; intros
  refine GX.loop (σ := GQ) (fun q => [(0, .pointer (some ⟨bl, 0, none⟩))]) (fun _ => []) (fun q => [RowR bl 66 [.slice v.aC t.classes.length v.cC, .slice v.aG t.globals.length v.cG, .slice v.aU t.units.length v.cU, .int .i64 t.main, .int .i64 u.params, .slice v.aV u.vars.length v.cV, .int .i64 u.result, .slice v.aT u.takes.length v.cT, .slice v.aO u.owns.length v.cO, .slice v.aI u.ins.length v.cI, .slice v.aF (flds t).length v.cF, .slice v.aS (GuaM.both (glob t) (out t k)).length v.cS, .slice v.aL (glob t).length v.cL, .slice v.aX (outs t).length v.cX, .int .i64 0, .slice none 0 0, .bool false, .int .i64 0, .int .i64 0, .int .i64 0, .slice v.aJ u.ins.length v.cJ, .slice (some ⟨v.st, 0, none⟩) u.ins.length u.ins.length, .slice q.ao q.xs.length q.cap, .slice (some ⟨v.wt, 0, none⟩) u.ins.length u.ins.length], GX.Own 3 Ty.int q.ao q.cap q.xs, GX.Own 48 tyState (some ⟨v.st, 0, none⟩) u.ins.length q.S, GX.Own 4 Ty.bool (some ⟨v.wt, 0, none⟩) u.ins.length q.W]) (fun q => GuaM.Out t k u q.S q.W q.xs) (fun q => GuaM.left u q.S q.xs) q ⟨rfl, trivial⟩ hO (fun q hq => ?_)
  obtain ⟨ao, cap, xs, S, W⟩ := q
  dsimp only at hq ⊢
  have hxl := hq.inv.len
  have hul := hu.ins
  have hWl := hq.inv.wl
  have hSl := hq.inv.snd.len
  refine GX.wa_R ?_; intros
  refine GX.o (cl (qlen_spec ao xs.length cap) fun _ => ?_)
  by_cases hx0 : xs.length = 0
  · have hx1 : xs = [] := List.length_eq_zero_iff.1 hx0
    refine GX.wa_R ?_; intros
    exact rt1 ⟨⟨ao, cap, xs, S, W⟩, true, (fun h => by cases h), (fun _ => ⟨hq.inv.snd, (by subst hx1; exact hq.all), hq.cov⟩)⟩ rfl
  · obtain ⟨m, hm⟩ : ∃ m, xs.length = m + 1 := ⟨xs.length - 1, by omega⟩
    refine GX.opn ao fun _ _ h3 => ?_
    obtain ⟨h3, _⟩ | ⟨g, rfl⟩ := h3
    · subst h3; exact absurd rfl hx0
    refine GX.wa_R ?_; intros
    refine GX.o (mki ?_)
    refine GX.wa_R ?_; intros
    refine GX.o (cl (hpop_spec bl 22 g cap [.slice v.aC t.classes.length v.cC, .slice v.aG t.globals.length v.cG, .slice v.aU t.units.length v.cU, .int .i64 t.main, .int .i64 u.params, .slice v.aV u.vars.length v.cV, .int .i64 u.result, .slice v.aT u.takes.length v.cT, .slice v.aO u.owns.length v.cO, .slice v.aI u.ins.length v.cI, .slice v.aF (flds t).length v.cF, .slice v.aS (GuaM.both (glob t) (out t k)).length v.cS, .slice v.aL (glob t).length v.cL, .slice v.aX (outs t).length v.cX, .int .i64 0, .slice none 0 0, .bool false, .int .i64 0, .int .i64 0, .int .i64 0, .slice v.aJ u.ins.length v.cJ, .slice (some ⟨v.st, 0, none⟩) u.ins.length u.ins.length, .slice (some ⟨g, 0, none⟩) xs.length cap, .slice (some ⟨v.wt, 0, none⟩) u.ins.length u.ins.length] xs m rfl hm (by omega)) fun s => ?_)
    obtain ⟨⟨y, ys⟩, hp⟩ := s
    simp only [List.set_cons_zero, List.set_cons_succ]
    obtain ⟨i, rfl, hwi, ⟨s, hs2, hsm⟩, hI⟩ := hq.inv.pop hp
    have hil := (List.getElem?_eq_some_iff.1 hwi).1
    obtain ⟨x, hx⟩ := get_lt (show i < u.ins.length by omega)
    refine GX.wa_R ?_; intros
    refine GX.o (tas ?_)
    refine GX.wa_R ?_; intros
    refine GX.cut (σ := Nat × Nat) (fun p => [(0, .pointer (some ⟨bl, 0, none⟩)), (3, .int .i64 (i : Int)), (4, .pointer (some ⟨p.1, 0, none⟩)), (5, .pointer (some ⟨p.2, 0, none⟩))]) (fun _ => [])
      (fun p => [Box 30 tyIns p.1 x, Box 48 tyState p.2 s, RowR bl 66 [.slice v.aC t.classes.length v.cC, .slice v.aG t.globals.length v.cG, .slice v.aU t.units.length v.cU, .int .i64 t.main, .int .i64 u.params, .slice v.aV u.vars.length v.cV, .int .i64 u.result, .slice v.aT u.takes.length v.cT, .slice v.aO u.owns.length v.cO, .slice v.aI u.ins.length v.cI, .slice v.aF (flds t).length v.cF, .slice v.aS (GuaM.both (glob t) (out t k)).length v.cS, .slice v.aL (glob t).length v.cL, .slice v.aX (outs t).length v.cX, .int .i64 0, .slice none 0 0, .bool false, .int .i64 0, .int .i64 0, .int .i64 0, .slice v.aJ u.ins.length v.cJ, .slice (some ⟨v.st, 0, none⟩) u.ins.length u.ins.length, .slice (some ⟨g, 0, none⟩) ys.length cap, .slice (some ⟨v.wt, 0, none⟩) u.ins.length u.ins.length], GX.Own 3 Ty.int (some ⟨g, 0, none⟩) cap ys, GX.Own 48 tyState (some ⟨v.st, 0, none⟩) u.ins.length S, GX.Own 4 Ty.bool (some ⟨v.wt, 0, none⟩) u.ins.length (W.set i false)]) (fun _ => True) ?_ (fun p _ => ?_)
    · refine GX.drawnT2 (RowR bl 66 [.slice v.aC t.classes.length v.cC, .slice v.aG t.globals.length v.cG, .slice v.aU t.units.length v.cU, .int .i64 t.main, .int .i64 u.params, .slice v.aV u.vars.length v.cV, .int .i64 u.result, .slice v.aT u.takes.length v.cT, .slice v.aO u.owns.length v.cO, .slice v.aI u.ins.length v.cI, .slice v.aF (flds t).length v.cF, .slice v.aS (GuaM.both (glob t) (out t k)).length v.cS, .slice v.aL (glob t).length v.cL, .slice v.aX (outs t).length v.cX, .int .i64 0, .slice none 0 0, .bool false, .int .i64 0, .int .i64 0, .int .i64 0, .slice v.aJ u.ins.length v.cJ, .slice (some ⟨v.st, 0, none⟩) u.ins.length u.ins.length, .slice (some ⟨g, 0, none⟩) ys.length cap, .slice (some ⟨v.wt, 0, none⟩) u.ins.length u.ins.length]) (GX.Own 48 tyState (some ⟨v.st, 0, none⟩) u.ins.length S) (fun j => !(List.contains [18] j)) (.br [(0, true), (1, true), (2, true), (3, true), (4, true), (5, true), (6, true), (7, true), (8, true), (9, true), (10, true), (11, true), (12, true), (13, true), (14, true)] (.alt 15 (.lin [(16, false), (17, false), (18, false)]) (.alt 16 (.lin [(15, false), (17, false), (18, false)]) .nil))) (by kernel_rfl) (by kernel_rfl) (by first | ((repeat (first | apply Go.GX.SelR.nil | apply Go.GX.SelR.cons | (with_reducible apply Go.GX.TakeR.head) | apply Go.GX.TakeR.tail)); done) | (repeat (first | apply Go.GX.SelR.nil | apply Go.GX.SelR.cons | apply Go.GX.TakeR.head | apply Go.GX.TakeR.tail))) ?_; intro wd F hW hR
      refine GX.wa_T ?_; intros
      refine GX.treeA ?_ ?_
      · refine GX.wa_T ?_; intros
        refine GX.unpin (RowR bl 66 [.slice v.aC t.classes.length v.cC, .slice v.aG t.globals.length v.cG, .slice v.aU t.units.length v.cU, .int .i64 t.main, .int .i64 u.params, .slice v.aV u.vars.length v.cV, .int .i64 u.result, .slice v.aT u.takes.length v.cT, .slice v.aO u.owns.length v.cO, .slice v.aI u.ins.length v.cI, .slice v.aF (flds t).length v.cF, .slice v.aS (GuaM.both (glob t) (out t k)).length v.cS, .slice v.aL (glob t).length v.cL, .slice v.aX (outs t).length v.cX, .int .i64 0, .slice none 0 0, .bool false, .int .i64 0, .int .i64 0, .int .i64 0, .slice v.aJ u.ins.length v.cJ, .slice (some ⟨v.st, 0, none⟩) u.ins.length u.ins.length, .slice (some ⟨g, 0, none⟩) ys.length cap, .slice (some ⟨v.wt, 0, none⟩) u.ins.length u.ins.length]) ?_
        refine GX.unpin (GX.Own 48 tyState (some ⟨v.st, 0, none⟩) u.ins.length S) ?_
        refine GX.wa_R ?_; intros
        exact meet (_, _) ⟨rfl, rfl, rfl, rfl, trivial⟩ trivial
      · refine GX.wa_T ?_; intros
        refine GX.unpin (RowR bl 66 [.slice v.aC t.classes.length v.cC, .slice v.aG t.globals.length v.cG, .slice v.aU t.units.length v.cU, .int .i64 t.main, .int .i64 u.params, .slice v.aV u.vars.length v.cV, .int .i64 u.result, .slice v.aT u.takes.length v.cT, .slice v.aO u.owns.length v.cO, .slice v.aI u.ins.length v.cI, .slice v.aF (flds t).length v.cF, .slice v.aS (GuaM.both (glob t) (out t k)).length v.cS, .slice v.aL (glob t).length v.cL, .slice v.aX (outs t).length v.cX, .int .i64 0, .slice none 0 0, .bool false, .int .i64 0, .int .i64 0, .int .i64 0, .slice v.aJ u.ins.length v.cJ, .slice (some ⟨v.st, 0, none⟩) u.ins.length u.ins.length, .slice (some ⟨g, 0, none⟩) ys.length cap, .slice (some ⟨v.wt, 0, none⟩) u.ins.length u.ins.length]) ?_
        refine GX.unpin (GX.Own 48 tyState (some ⟨v.st, 0, none⟩) u.ins.length S) ?_
        refine GX.wa_R ?_; intros
        exact meet (_, _) ⟨rfl, rfl, rfl, rfl, trivial⟩ trivial
    obtain ⟨b4, b5⟩ := p
    dsimp only
    refine frzB b4 ?_
    refine frzB b5 ?_
    have hxm := List.mem_of_getElem? hx
    have hlv := GuaM.snd_live hq.inv.snd hu.cr hs2
    have hcl := hu.cls
    have hvl := hu.vars
    obtain ⟨hsv, hsl⟩ := GuaM.snd_stale hq.inv.snd hs2
    refine GX.wa_R ?_; intros
    refine GX.nmA 49 ?_; rintro c49 rfl
    refine GX.nmA 50 ?_; rintro c50 rfl
    refine GX.o (cl (passes_spec bl v t u k (.slice (some ⟨g, 0, none⟩) ys.length cap) c49 c50 x s hs (hu.each x hxm) hu.glob (by omega) hu.takes) fun p => ?_)
    obtain ⟨a6, c6, l, r, hr, hl⟩ := p
    dsimp only
    cases r with
    | false =>
      refine GX.wa_R ?_; intros
      exact rt1 ⟨⟨_, _, ys, S, W.set i false⟩, false, (fun _ => GuaM.not_passes hq.inv.snd hs2 hsm hx (of_decide_eq_false hr.symm)), (fun h => by cases h)⟩ rfl
    | true =>
      obtain rfl := hl rfl
      have hpass := of_decide_eq_true hr.symm
      refine GX.wa_R ?_; intros
      refine GX.nmA 58 ?_; rintro c58 rfl
      refine GX.nmS 60 ?_; rintro a60 c60 rfl rfl
      refine GX.o (cl (gstale_spec bl v t u k (.slice (some ⟨g, 0, none⟩) ys.length cap) c58 x a60 c60 s.stale (hq.inv.snd.rl i s hs2).2 (by omega) hu.vars) fun p => ?_)
      obtain ⟨a7, c7⟩ := p
      dsimp only
      refine GX.wa_RA ?_; intros
      refine GX.nmP 8 ?_; rintro b8 rfl
      refine slNil tyTyp ?_
      refine GX.o (GX.lrP ?_)
      have hnl := next_len u.ins (i : Int)
      refine GX.agI (e := tyCode) (cs := [.int .i64 0, .slice none 0 0, .bool false, .int .i64 0, .int .i64 0, .int .i64 0, .slice v.aJ u.ins.length v.cJ]) (y := ⟨0, [], false, ⟨0, 0, 0⟩, u.ins⟩) ?_
      refine GX.wa_R ?_; intros
      refine GX.o (cl (next_spec [.int .i64 0, .slice none 0 0, .bool false, .int .i64 0, .int .i64 0, .int .i64 0, .slice v.aJ u.ins.length v.cJ] ⟨0, [], false, ⟨0, 0, 0⟩, u.ins⟩ (i : Int)) fun p => ?_)
      obtain ⟨aN, cN⟩ := p
      dsimp only
      refine GX.wa_R ?_; intros
      have hM0 := hq.mid x hI hs2
      have hpl := hp.length_eq
      rw [List.length_cons] at hpl
      dsimp only at hpl
      have hsw := GuaM.out_stale (x := x) hsv
      refine GX.loop (σ := Nat × GQ) (fun p => [(0, .pointer (some ⟨bl, 0, none⟩)), (8, .pointer (some ⟨b8, 0, none⟩)), (68, .slice aN (next u.ins (i : Int)).length cN), (69, .int .i64 ((next u.ins (i : Int)).length : Int)), (70, .int .i64 (p.1 : Int))]) (fun _ => [])
        (fun p => [RowR b8 48 [.bool true, .slice a6 (GuaM.alive x s.live).length c6, .slice a7 (GuaM.staleOut u x s.stale).length c7], RowR bl 66 [.slice v.aC t.classes.length v.cC, .slice v.aG t.globals.length v.cG, .slice v.aU t.units.length v.cU, .int .i64 t.main, .int .i64 u.params, .slice v.aV u.vars.length v.cV, .int .i64 u.result, .slice v.aT u.takes.length v.cT, .slice v.aO u.owns.length v.cO, .slice v.aI u.ins.length v.cI, .slice v.aF (flds t).length v.cF, .slice v.aS (GuaM.both (glob t) (out t k)).length v.cS, .slice v.aL (glob t).length v.cL, .slice v.aX (outs t).length v.cX, .int .i64 0, .slice none 0 0, .bool false, .int .i64 0, .int .i64 0, .int .i64 0, .slice v.aJ u.ins.length v.cJ, .slice (some ⟨v.st, 0, none⟩) u.ins.length u.ins.length, .slice p.2.ao p.2.xs.length p.2.cap, .slice (some ⟨v.wt, 0, none⟩) u.ins.length u.ins.length], GX.Own 3 Ty.int p.2.ao p.2.cap p.2.xs, GX.Own 48 tyState (some ⟨v.st, 0, none⟩) u.ins.length p.2.S, GX.Own 4 Ty.bool (some ⟨v.wt, 0, none⟩) u.ins.length p.2.W])
        (fun p => p.1 ≤ (next u.ins (i : Int)).length ∧ GuaM.Mid t k u i s x p.1 p.2.S p.2.W p.2.xs ∧ GuaM.left u p.2.S p.2.xs < GuaM.left u S xs) (fun p => (next u.ins (i : Int)).length - p.1) (0, ⟨some ⟨g, 0, none⟩, cap, ys, S, W.set i false⟩) ⟨rfl, rfl, rfl, rfl, rfl, trivial⟩ ⟨by omega, hM0, by unfold GuaM.left; dsimp only; omega⟩ (fun p hp2 => ?_)
      obtain ⟨n, q⟩ := p
      obtain ⟨hn, hMid, hleft⟩ := hp2
      dsimp only at hn hMid hleft ⊢
      by_cases hlt : n < (next u.ins (i : Int)).length
      · obtain ⟨y, hy⟩ := get_lt hlt
        obtain ⟨hyi, _⟩ := next_in (List.mem_of_getElem? hy)
        obtain ⟨hy0, hy1⟩ := hyi
        obtain ⟨j, rfl⟩ := Int.eq_ofNat_of_zero_le hy0
        have hjl : j < u.ins.length := by omega
        have hSq := hMid.inv.snd.len
        have hWq := hMid.inv.wl
        have hxq := hMid.inv.len
        obtain ⟨o, ho⟩ := get_lt (show j < q.S.length by omega)
        obtain ⟨wj, hwj⟩ := get_lt (show j < q.W.length by omega)
        obtain ⟨_, hos⟩ := GuaM.snd_stale hMid.inv.snd ho
        obtain ⟨hA, hSt⟩ := GuaM.out_at hq.inv.snd hs2 hsm hx (List.mem_of_getElem? hy)
        refine GX.wa_R ?_; intros
        refine GX.o (cl (comes_spec bl v t u k q j a6 c6 (GuaM.alive x s.live) a7 c7 (GuaM.staleOut u x s.stale) o wj ho hwj hSq hWq (by omega) (by omega) (by omega) (by omega)) fun z => ?_)
        obtain ⟨q', r, no, yes⟩ := z
        dsimp only
        cases r with
        | false =>
          obtain ⟨hom, hne⟩ := no rfl
          refine GX.wa_R ?_; intros
          exact rt1 ⟨q', false, (fun _ => GuaM.not_live hMid.inv.snd ho hom hA hne), (fun h => by cases h)⟩ rfl
        | true =>
          obtain ⟨hL, h5⟩ := yes rfl
          refine GX.wa_R ?_; intros
          rcases h5 with ⟨h6, h7, h8, h9, h10⟩ | ⟨h6, h7, h8, h9⟩
          · refine again (n + 1, q') ⟨rfl, rfl, rfl, rfl, rfl, trivial⟩ ⟨by dsimp only; omega, ?_, ?_⟩ (by dsimp only; omega)
            · dsimp only
              rw [h8, h9, h10]
              exact hMid.same hy ho h6 (hL h6) h7
            · dsimp only
              rw [h8, h10]; exact hleft
          · have hMid2 := hMid.lay hy ho hwj hL hA hSt h9
            refine again (n + 1, q') ⟨rfl, rfl, rfl, rfl, rfl, trivial⟩ ⟨by dsimp only; omega, ?_, ?_⟩ (by dsimp only; omega)
            · dsimp only
              rw [h7, h8]; exact hMid2
            · dsimp only
              rw [h7]
              refine Nat.lt_trans (GuaM.left_lay hMid2.inv.snd (hMid.inv.snd.rl j o ho).2 ho h6 ?_) hleft
              rcases h9 with ⟨_, h9⟩ | ⟨_, h9⟩
              · rw [h9]; omega
              · rw [h9.length_eq]; simp
      · refine GX.wa_R ?_; intros
        exact again q ⟨rfl, trivial⟩ (hMid.out (by omega) hx hpass) hleft
end Go.Proofs.YtomfpmbapdhbgaaGreat

/- Structs' cells: how many, stored over a row, one part otherwise. No program in sight. -/
namespace Go.GX
open Go Go.RowKit Go.RR Go.RX
section
variable {P : Program} {n : Nat} {env : Env} {b : Base} {ps : List Pf} {hp : List Res} {Q : Exit → Act → World → Prop} {K : Act → World → Prop}
end
end Go.GX

/- From the form's own reading of what comes in to the readings of this walk. No program in sight. -/
namespace Go.GX
open Go Go.RowKit Go.RR Go.RX Go.Api

section
variable {P : Program}
/-- What the form reads at type t reads so, and is such. -/
def Conv (P : Program) (t : TypeId) {α : Type} (e : Ty α) (ok : α → Prop) : Prop :=
  ∀ {H : Type} (enc : TypeId × Value → H) (w : World) (spare : Nat → Bool) (held : Bool) (fuel : Nat) (cs : List Value) (x : DataW H × List MemPlace),
    DataW.trod enc P w 0 spare held fuel t cs = some x → ∃ y, e.rd (fun k => k < w.heap.size) w cs y ∧ ok y

theorem wf_i64 {a : Int} (h : (Lit.int .i64 a).wf = true) : -9223372036854775808 ≤ a ∧ a ≤ 9223372036854775807 := by
  simp only [Lit.wf, Bool.and_eq_true, decide_eq_true_eq] at h
  exact h
theorem conv_int {t : TypeId} (h : P.underlying t = some (.int .i64)) : Conv P t Ty.int I64 := by
  intro H enc w spare held fuel cs x hx
  obtain ⟨n, rfl, _, hw⟩ := DataW.trod_int h hx
  exact ⟨n, rfl, wf_i64 hw⟩
theorem conv_bool {t : TypeId} (h : P.underlying t = some .bool) : Conv P t Ty.bool (fun _ => True) := by
  intro H enc w spare held fuel cs x hx
  cases fuel with
  | zero => simp [DataW.trod] at hx
  | succ n =>
    unfold DataW.trod at hx
    rw [h] at hx
    split at hx <;> first | (rename_i b _; exact ⟨_, rfl, trivial⟩) | simp_all

theorem choose_list {α : Type} {p : Nat → α → Prop} : ∀ (n : Nat), (∀ i, i < n → ∃ x, p i x) → ∃ l : List α, l.length = n ∧ ∀ (i : Nat) x, l[i]? = some x → p i x
  | 0, _ => ⟨[], rfl, by simp⟩
  | n + 1, h => by
    obtain ⟨l, hl, hp⟩ := choose_list n (fun i hi => h i (by omega))
    obtain ⟨x, hx⟩ := h n (by omega)
    refine ⟨l ++ [x], by simp [hl], fun i y hy => ?_⟩
    rcases Nat.lt_or_ge i l.length with hi | hi
    · rw [List.getElem?_append_left hi] at hy; exact hp i y hy
    · rw [List.getElem?_append_right hi] at hy
      rcases hq : i - l.length with _ | q
      · rw [hq] at hy; simp at hy; subst hy
        rw [show i = n by omega]; exact hx
      · rw [hq] at hy; simp at hy

theorem conv_slice {t et : TypeId} {α : Type} {e : Ty α} {ok : α → Prop} (ht : P.underlying t = some (.slice et)) (hs : P.cellsOf et = e.size) (hp : 0 < e.size) (he : Conv P et e ok) : Conv P t (Ty.slice e) (fun l => ∀ x ∈ l, ok x) := by
  intro H enc w spare held fuel cs x hx
  rcases Go.Deep.open_slice ht hx with ⟨rfl, _⟩ | ⟨a, len, cap, m, n, D, Pl, rfl, _, hl, hm, hmm, _, hel⟩
  · exact ⟨[], ⟨none, 0, rfl, by simp, by omega, fun i x hx => by simp at hx⟩, by simp⟩
  · have hml : len ≤ m := by rw [hmm]; split <;> omega
    obtain ⟨l, hll, hlp⟩ := choose_list (α := α × List Value) (p := fun i q => w.cells? 0 (a.add (i * e.size)) e.size = some q.2 ∧ e.rd (fun k => k < w.heap.size) w q.2 q.1 ∧ ok q.1) len (fun i hi => by
      obtain ⟨cs', h1, h2⟩ := hel i (by omega)
      obtain ⟨y, hy⟩ := he enc w spare held n cs' _ h2
      rw [hs] at h1
      exact ⟨(y, cs'), h1, hy⟩)
    refine ⟨l.map (·.1), ⟨some a, cap, by simp [hll], by simp [hll, hl], by simp only [maxLen] at hm; omega, fun i x hx => ?_⟩, fun x hx => ?_⟩
    · rw [List.getElem?_map] at hx
      obtain ⟨⟨y, cs'⟩, hq, rfl⟩ := Option.map_eq_some_iff.1 hx
      obtain ⟨h1, h2, _⟩ := hlp i _ hq
      dsimp only at h1 h2 ⊢
      have hi : i < len := by have := (List.getElem?_eq_some_iff.1 hq).1; omega
      obtain ⟨_, hlen, hc⟩ := World.cells?_some h1
      have hspot : a.spot = none := by
        obtain ⟨cs0, g1, g2⟩ := hel 0 (by omega)
        rw [hs] at g1
        obtain ⟨_, g3, g4⟩ := World.cells?_some g1
        have := g4 0 (by omega)
        simp only [Nat.zero_mul, Addr.add_zero'] at this
        have g5 : cs0[0]? = some cs0[0] := List.getElem?_eq_getElem (by omega)
        cases hsp : a.spot with
        | none => rfl
        | some q =>
          exfalso
          have h6 : w.cell? a = some cs0[0] := by simpa [g5] using this
          unfold World.cell? at h6
          split at h6
          · simp [hsp] at h6
          · cases h6
      obtain ⟨b, o, sp⟩ := a
      dsimp only at hspot
      subst hspot
      have hcell : CellsAt w b (o + i * e.size) cs' := fun j c hj => by
        have hjl : j < e.size := by have := (List.getElem?_eq_some_iff.1 hj).1; omega
        have := hc j (by omega)
        rw [Addr.add_lit, Addr.add_lit] at this
        rw [this, hj]
      have h0 : cs'[0]? = some cs'[0] := List.getElem?_eq_getElem (by omega)
      have hb := cell_lt (hcell 0 _ h0)
      exact ⟨b, o, cs', rfl, hb, hb, hcell, h2⟩
    · obtain ⟨q, hq, rfl⟩ := List.mem_map.1 hx
      obtain ⟨i, hi⟩ := List.getElem?_of_mem hq
      exact (hlp i q hi).2.2

/-- The fields of a struct, one after the other. -/
def ConvF (P : Program) (fs : List Field) (off : Nat) {α : Type} (r : Ty α) (ok : α → Prop) : Prop :=
  ∀ {H : Type} (enc : TypeId × Value → H) (w : World) (spare : Nat → Bool) (held : Bool) (fuel : Nat) (cs : List Value) (xs : List (DataW H × List MemPlace)),
    off + r.size = cs.length → fs.mapM (fun f => DataW.trod enc P w 0 spare held fuel f.type ((cs.drop f.offset).take (P.cellsOf f.type))) = some xs → ∃ y, r.rd (fun k => k < w.heap.size) w (cs.drop off) y ∧ ok y
theorem convF_nil {off : Nat} : ConvF P [] off Ty.unit (fun _ => True) := by
  intro H enc w spare held fuel cs xs hl _
  exact ⟨(), by simp [Ty.unit] at hl ⊢; omega, trivial⟩
theorem convF_cons {f : Field} {fs : List Field} {off : Nat} {α β : Type} {r : Ty α} {s : Ty β} {ok1 : α → Prop} {ok2 : β → Prop} (ho : f.offset = off) (hs : P.cellsOf f.type = r.size) (h1 : Conv P f.type r ok1) (h2 : ConvF P fs (off + r.size) s ok2) : ConvF P (f :: fs) off (Ty.pair r s) (fun x => ok1 x.1 ∧ ok2 x.2) := by
  intro H enc w spare held fuel cs xs hl hx
  rw [List.mapM_cons] at hx
  cases hy : DataW.trod enc P w 0 spare held fuel f.type ((cs.drop f.offset).take (P.cellsOf f.type)) with
  | none => rw [hy] at hx; simp at hx
  | some y =>
    rw [hy] at hx
    cases hz : fs.mapM (fun f => DataW.trod enc P w 0 spare held fuel f.type ((cs.drop f.offset).take (P.cellsOf f.type))) with
    | none => rw [hz] at hx; simp at hx
    | some zs =>
      obtain ⟨u, hu, ou⟩ := h1 enc w spare held fuel _ _ hy
      obtain ⟨v, hv, ov⟩ := h2 enc w spare held fuel cs zs (by simp only [Ty.pair] at hl; omega) hz
      rw [ho, hs] at hu
      refine ⟨(u, v), ⟨_, _, ?_, hu, hv⟩, ou, ov⟩
      rw [← List.drop_drop, List.take_append_drop]
theorem conv_struct {t : TypeId} {fs : Array Field} {l : List Field} {α : Type} {r : Ty α} {ok : α → Prop} (ht : P.underlying t = some (.struct fs)) (hl : fs.toList = l) (hs : P.cellsOf t = r.size) (h : ConvF P l 0 r ok) : Conv P t r ok := by
  intro H enc w spare held fuel cs x hx
  subst hl
  cases fuel with
  | zero => simp [DataW.trod] at hx
  | succ n =>
    unfold DataW.trod at hx
    rw [ht] at hx
    simp only at hx
    split at hx
    · rename_i hl
      obtain ⟨xs, hxs, _⟩ := Option.map_eq_some_iff.1 hx
      have := h enc w spare held n cs xs (by omega) hxs
      simpa using this
    · cases hx
theorem conv_co {t : TypeId} {α β : Type} {r : Ty α} {ok : α → Prop} {g : β → α} {ok' : β → Prop} (inv : α → β) (h1 : ∀ x, g (inv x) = x) (h2 : ∀ x, ok x → ok' (inv x)) (h : Conv P t r ok) : Conv P t (Ty.co r g) ok' := by
  intro H enc w spare held fuel cs x hx
  obtain ⟨y, hy, ho⟩ := h enc w spare held fuel cs x hx
  exact ⟨inv y, by show r.rd _ _ _ (g (inv y)); rw [h1]; exact hy, h2 y ho⟩

/-! From a walk of a law to what its row asks. -/
theorem Does.calls {f : FuncId} {args : List Value} {ps : List Pf} (h : Does P f args ps [] (fun _ : Unit => .bool true) (fun _ => []) (fun _ => [])) (w : World) (hps : AllP (fun k => k < w.heap.size) w ps) :
    Calls P f args.toArray w fun e w' => e = .returned (.bool true) ∧ Upd (fun _ => False) w w' := by
  refine (h.run w (fun k => k < w.heap.size) ⟨w, fun _ => False, fun k => k < w.heap.size⟩ ⟨Upd.refl _ _, fun _ h => h, fun k h _ => .inl h, hps, no_r, by simp, by simp, by simp⟩).mono ?_
  rintro e w' ⟨_, he, F', s⟩
  exact ⟨he, s.upd.mono (fun k _ hk => absurd hk feet_nil)⟩
theorem all_nil {F : Nat → Prop} {w : World} : AllP F w [] := no_p
theorem all_cons {F : Nat → Prop} {w : World} {p : Pf} {l : List Pf} (h : p.says F w) (hl : AllP F w l) : AllP F w (p :: l) := fun q hq => by
  rcases List.mem_cons.1 hq with rfl | hq
  · exact h
  · exact hl q hq
theorem ag_in {F : Nat → Prop} {w : World} {α : Type} {e : Ty α} {cs : Array Value} {x : α} (z : e.rd F w (Value.agg cs).cells.toList x) : (Ag e cs.toList x).says F w := z
end
end Go.GX

/- How what comes in reads, for this seat's structs. Written by wip/api.py. -/
namespace Go.Proofs.YtomfpmbapdhbgaaGreat
open Go Go.RowKit Go.RR Go.RX Go.GX Go.Api
theorem cv_int : Conv Tryz.prog 3 Ty.int I64 := conv_int Tryz.underlying3
theorem cv_bool : Conv Tryz.prog 4 Ty.bool (fun _ => True) := conv_bool Tryz.underlying4
theorem cv_ints : Conv Tryz.prog 23 (Ty.slice Ty.int) (fun l => ∀ x ∈ l, I64 x) := conv_slice (et := 3) Tryz.underlying23 (by kernel_rfl) (by decide) cv_int
theorem conv_ins : Conv Tryz.prog 30 tyIns Go.Api.Ins.ok := by
  refine conv_co (ok := fun x => I64 x.1 ∧ I64 x.2.1 ∧ I64 x.2.2.1 ∧ I64 x.2.2.2.1 ∧ I64 x.2.2.2.2.1 ∧ (fun l => ∀ x ∈ l, I64 x) x.2.2.2.2.2.1 ∧ True) (fun x => ⟨x.1, x.2.1, x.2.2.1, x.2.2.2.1, x.2.2.2.2.1, x.2.2.2.2.2.1⟩) (fun x => rfl) (fun x h => ⟨h.1, h.2.1, h.2.2.1, h.2.2.2.1, h.2.2.2.2.1, h.2.2.2.2.2.1⟩) ?_
  apply conv_struct (l := [_, _, _, _, _, _]) Tryz.underlying30 rfl (by kernel_rfl)
  apply convF_cons (ok1 := I64) (ok2 := fun x : Int × Int × Int × Int × (List Int) × Unit => I64 x.1 ∧ I64 x.2.1 ∧ I64 x.2.2.1 ∧ I64 x.2.2.2.1 ∧ (fun l => ∀ x ∈ l, I64 x) x.2.2.2.2.1 ∧ True) rfl (by kernel_rfl) cv_int
  apply convF_cons (ok1 := I64) (ok2 := fun x : Int × Int × Int × (List Int) × Unit => I64 x.1 ∧ I64 x.2.1 ∧ I64 x.2.2.1 ∧ (fun l => ∀ x ∈ l, I64 x) x.2.2.2.1 ∧ True) rfl (by kernel_rfl) cv_int
  apply convF_cons (ok1 := I64) (ok2 := fun x : Int × Int × (List Int) × Unit => I64 x.1 ∧ I64 x.2.1 ∧ (fun l => ∀ x ∈ l, I64 x) x.2.2.1 ∧ True) rfl (by kernel_rfl) cv_int
  apply convF_cons (ok1 := I64) (ok2 := fun x : Int × (List Int) × Unit => I64 x.1 ∧ (fun l => ∀ x ∈ l, I64 x) x.2.1 ∧ True) rfl (by kernel_rfl) cv_int
  apply convF_cons (ok1 := I64) (ok2 := fun x : (List Int) × Unit => (fun l => ∀ x ∈ l, I64 x) x.1 ∧ True) rfl (by kernel_rfl) cv_int
  apply convF_cons (ok1 := (fun l => ∀ x ∈ l, I64 x)) (ok2 := fun x : Unit => True) rfl (by kernel_rfl) cv_ints
  apply convF_nil
theorem conv_inss : Conv Tryz.prog 32 (Ty.slice tyIns) (fun l => ∀ x ∈ l, Go.Api.Ins.ok x) := conv_slice (et := 30) Tryz.underlying32 (by kernel_rfl) (by decide) conv_ins
theorem conv_layout : Conv Tryz.prog 38 tyLayout Go.Api.Layout.ok := by
  refine conv_co (ok := fun x => (fun _ => True) x.1 ∧ (fun l => ∀ x ∈ l, I64 x) x.2.1 ∧ True) (fun x => ⟨x.1, x.2.1⟩) (fun x => rfl) (fun x h => h.2.1) ?_
  apply conv_struct (l := [_, _]) Tryz.underlying38 rfl (by kernel_rfl)
  apply convF_cons (ok1 := (fun _ => True)) (ok2 := fun x : (List Int) × Unit => (fun l => ∀ x ∈ l, I64 x) x.1 ∧ True) rfl (by kernel_rfl) cv_bool
  apply convF_cons (ok1 := (fun l => ∀ x ∈ l, I64 x)) (ok2 := fun x : Unit => True) rfl (by kernel_rfl) cv_ints
  apply convF_nil
theorem conv_layouts : Conv Tryz.prog 22 (Ty.slice tyLayout) (fun l => ∀ x ∈ l, Go.Api.Layout.ok x) := conv_slice (et := 38) Tryz.underlying22 (by kernel_rfl) (by decide) conv_layout
theorem conv_unt : Conv Tryz.prog 40 tyUnt Go.Api.Unt.ok := by
  refine conv_co (ok := fun x => I64 x.1 ∧ (fun l => ∀ x ∈ l, I64 x) x.2.1 ∧ I64 x.2.2.1 ∧ (fun l => ∀ x ∈ l, I64 x) x.2.2.2.1 ∧ (fun l => ∀ x ∈ l, I64 x) x.2.2.2.2.1 ∧ (fun l => ∀ x ∈ l, Go.Api.Ins.ok x) x.2.2.2.2.2.1 ∧ True) (fun x => ⟨x.1, x.2.1, x.2.2.1, x.2.2.2.1, x.2.2.2.2.1, x.2.2.2.2.2.1⟩) (fun x => rfl) (fun x h => ⟨h.1, h.2.1, h.2.2.1, h.2.2.2.1, h.2.2.2.2.1, h.2.2.2.2.2.1⟩) ?_
  apply conv_struct (l := [_, _, _, _, _, _]) Tryz.underlying40 rfl (by kernel_rfl)
  apply convF_cons (ok1 := I64) (ok2 := fun x : (List Int) × Int × (List Int) × (List Int) × (List Go.Api.Ins) × Unit => (fun l => ∀ x ∈ l, I64 x) x.1 ∧ I64 x.2.1 ∧ (fun l => ∀ x ∈ l, I64 x) x.2.2.1 ∧ (fun l => ∀ x ∈ l, I64 x) x.2.2.2.1 ∧ (fun l => ∀ x ∈ l, Go.Api.Ins.ok x) x.2.2.2.2.1 ∧ True) rfl (by kernel_rfl) cv_int
  apply convF_cons (ok1 := (fun l => ∀ x ∈ l, I64 x)) (ok2 := fun x : Int × (List Int) × (List Int) × (List Go.Api.Ins) × Unit => I64 x.1 ∧ (fun l => ∀ x ∈ l, I64 x) x.2.1 ∧ (fun l => ∀ x ∈ l, I64 x) x.2.2.1 ∧ (fun l => ∀ x ∈ l, Go.Api.Ins.ok x) x.2.2.2.1 ∧ True) rfl (by kernel_rfl) cv_ints
  apply convF_cons (ok1 := I64) (ok2 := fun x : (List Int) × (List Int) × (List Go.Api.Ins) × Unit => (fun l => ∀ x ∈ l, I64 x) x.1 ∧ (fun l => ∀ x ∈ l, I64 x) x.2.1 ∧ (fun l => ∀ x ∈ l, Go.Api.Ins.ok x) x.2.2.1 ∧ True) rfl (by kernel_rfl) cv_int
  apply convF_cons (ok1 := (fun l => ∀ x ∈ l, I64 x)) (ok2 := fun x : (List Int) × (List Go.Api.Ins) × Unit => (fun l => ∀ x ∈ l, I64 x) x.1 ∧ (fun l => ∀ x ∈ l, Go.Api.Ins.ok x) x.2.1 ∧ True) rfl (by kernel_rfl) cv_ints
  apply convF_cons (ok1 := (fun l => ∀ x ∈ l, I64 x)) (ok2 := fun x : (List Go.Api.Ins) × Unit => (fun l => ∀ x ∈ l, Go.Api.Ins.ok x) x.1 ∧ True) rfl (by kernel_rfl) cv_ints
  apply convF_cons (ok1 := (fun l => ∀ x ∈ l, Go.Api.Ins.ok x)) (ok2 := fun x : Unit => True) rfl (by kernel_rfl) conv_inss
  apply convF_nil
theorem conv_unts : Conv Tryz.prog 24 (Ty.slice tyUnt) (fun l => ∀ x ∈ l, Go.Api.Unt.ok x) := conv_slice (et := 40) Tryz.underlying24 (by kernel_rfl) (by decide) conv_unt
theorem conv_rtg : Conv Tryz.prog 26 tyRTg Go.Api.RTg.ok := by
  refine conv_co (ok := fun x => (fun l => ∀ x ∈ l, Go.Api.Layout.ok x) x.1 ∧ (fun l => ∀ x ∈ l, I64 x) x.2.1 ∧ (fun l => ∀ x ∈ l, Go.Api.Unt.ok x) x.2.2.1 ∧ I64 x.2.2.2.1 ∧ True) (fun x => ⟨x.1, x.2.1, x.2.2.1, x.2.2.2.1⟩) (fun x => rfl) (fun x h => ⟨h.1, h.2.1, h.2.2.1, h.2.2.2.1⟩) ?_
  apply conv_struct (l := [_, _, _, _]) Tryz.underlying26 rfl (by kernel_rfl)
  apply convF_cons (ok1 := (fun l => ∀ x ∈ l, Go.Api.Layout.ok x)) (ok2 := fun x : (List Int) × (List Go.Api.Unt) × Int × Unit => (fun l => ∀ x ∈ l, I64 x) x.1 ∧ (fun l => ∀ x ∈ l, Go.Api.Unt.ok x) x.2.1 ∧ I64 x.2.2.1 ∧ True) rfl (by kernel_rfl) conv_layouts
  apply convF_cons (ok1 := (fun l => ∀ x ∈ l, I64 x)) (ok2 := fun x : (List Go.Api.Unt) × Int × Unit => (fun l => ∀ x ∈ l, Go.Api.Unt.ok x) x.1 ∧ I64 x.2.1 ∧ True) rfl (by kernel_rfl) cv_ints
  apply convF_cons (ok1 := (fun l => ∀ x ∈ l, Go.Api.Unt.ok x)) (ok2 := fun x : Int × Unit => I64 x.1 ∧ True) rfl (by kernel_rfl) conv_unts
  apply convF_cons (ok1 := I64) (ok2 := fun x : Unit => True) rfl (by kernel_rfl) cv_int
  apply convF_nil
end Go.Proofs.YtomfpmbapdhbgaaGreat

/- Target programs and units as structs: their cells, brought up. No program in sight. -/
namespace Go.GX
open Go Go.RowKit Go.RR Go.RX Go.Api
section
variable {n : Nat} {env : Env} {b : Base} {ps : List Pf} {hp : List Res} {K : Act → World → Prop}
theorem addPs {qs : List Pf} (hq : ∀ F w, AllP F w ps → AllP F w qs) (h : G n env b (qs ++ ps) hp K) : G n env b ps hp K := by
  constructor
  rintro w ⟨F, s⟩
  refine h.run w ⟨F, s.upd, s.lt, s.old, fun p hp => ?_, s.rs, s.apF, s.apart, s.on⟩
  rcases List.mem_append.1 hp with hp | hp
  · exact hq F w s.fs p hp
  · exact s.fs p hp
theorem slice_rd {α : Type} {e : Ty α} {F : Nat → Prop} {w : World} {cs : List Value} {xs : List α} (h : (Ty.slice e).rd F w cs xs) : ∃ ao cap, cs = [.slice ao xs.length cap] ∧ (Sl e ao cap xs).says F w := by
  obtain ⟨ao, cap, h1, h2⟩ := h
  exact ⟨ao, cap, h1, h2⟩
theorem opRTg (cs : List Value) {t : RTg} [hf : FAg cs ps tyRTg t] (h : ∀ aC cC aG cG aU cU, cs = [.slice aC t.classes.length cC, .slice aG t.globals.length cG, .slice aU t.units.length cU, .int .i64 t.main] → G n env b (Sl tyLayout aC cC t.classes :: Sl Ty.int aG cG t.globals :: Sl tyUnt aU cU t.units :: ps) hp K) : G n env b ps hp K := by
  constructor
  rintro w ⟨F, s⟩
  obtain ⟨c1, r1, e1, h1, c2, r2, e2, h2, c3, r3, e3, h3, c4, r4, e4, h4, h5⟩ : tyRTg.rd F w cs t := s.fs _ hf.mem
  obtain ⟨aC, cC, rfl, k1⟩ := slice_rd h1
  obtain ⟨aG, cG, rfl, k2⟩ := slice_rd h2
  obtain ⟨aU, cU, rfl, k3⟩ := slice_rd h3
  have h4 : c4 = [.int .i64 t.main] := h4
  have h5 : r4 = [] := h5
  refine (h aC cC aG cG aU cU (by rw [e1, e2, e3, e4, h4, h5]; rfl)).run w ⟨F, s.upd, s.lt, s.old, fun p hp => ?_, s.rs, s.apF, s.apart, s.on⟩
  rcases List.mem_cons.1 hp with rfl | hp
  · exact k1
  rcases List.mem_cons.1 hp with rfl | hp
  · exact k2
  rcases List.mem_cons.1 hp with rfl | hp
  · exact k3
  · exact s.fs p hp
theorem opUnt (cs : List Value) {u : Unt} [hf : FAg cs ps tyUnt u] (h : ∀ aV cV aT cT aO cO aI cI, cs = [.int .i64 u.params, .slice aV u.vars.length cV, .int .i64 u.result, .slice aT u.takes.length cT, .slice aO u.owns.length cO, .slice aI u.ins.length cI] → G n env b (Sl Ty.int aV cV u.vars :: Sl Ty.int aT cT u.takes :: Sl tyIns aI cI u.ins :: ps) hp K) : G n env b ps hp K := by
  constructor
  rintro w ⟨F, s⟩
  obtain ⟨c1, r1, e1, h1, c2, r2, e2, h2, c3, r3, e3, h3, c4, r4, e4, h4, c5, r5, e5, h5, c6, r6, e6, h6, h7⟩ : tyUnt.rd F w cs u := s.fs _ hf.mem
  have h1 : c1 = [.int .i64 u.params] := h1
  obtain ⟨aV, cV, rfl, k2⟩ := slice_rd h2
  have h3 : c3 = [.int .i64 u.result] := h3
  obtain ⟨aT, cT, rfl, k4⟩ := slice_rd h4
  obtain ⟨aO, cO, rfl, k5⟩ := slice_rd h5
  obtain ⟨aI, cI, rfl, k6⟩ := slice_rd h6
  have h7 : r6 = [] := h7
  refine (h aV cV aT cT aO cO aI cI (by rw [e1, e2, e3, e4, e5, e6, h1, h3, h7]; rfl)).run w ⟨F, s.upd, s.lt, s.old, fun p hp => ?_, s.rs, s.apF, s.apart, s.on⟩
  rcases List.mem_cons.1 hp with rfl | hp
  · exact k2
  rcases List.mem_cons.1 hp with rfl | hp
  · exact k4
  rcases List.mem_cons.1 hp with rfl | hp
  · exact k6
  · exact s.fs p hp
end
end Go.GX

/- Slices of pointers; one cell of a row stays from now on. No program in sight. -/
namespace Go.GX
open Go Go.RowKit Go.RR Go.RX
/-- A pointer to a block. -/
def Ty.ref : Ty (Option Nat) := ⟨1, fun _ _ cs x => cs = [.pointer (x.map fun b => ⟨b, 0, none⟩)], fun h => by rw [h]; rfl, fun h c hc => by rw [h] at hc; simp at hc; subst hc; rfl, fun h _ _ => h⟩
instance {ps : List Pf} (x : Nat) : Rds ps (.pointer (some ⟨x, 0, none⟩)) Ty.ref (some x) := ⟨.of (fun F w _ => rfl)⟩
instance : Sub Ty.ref 0 Ty.ref (fun y => y) (fun z _ => z) := Sub.whole _
section
variable {P : Program} {n : Nat} {env : Env} {b : Base} {ps : List Pf} {hp : List Res} {Q : Exit → Act → World → Prop} {K : Act → World → Prop}
theorem lref {d : Nat} {ty : TypeId} {pos : String} {aft : Array Edge} {gd : Option (Nat × Bool)} {α : Type} {e : Ty α} {off : Nat} {y : α} {bl o' : Nat} {t : TypeId} {x : Operand} {get : α → Option Nat} {put : Option Nat → α → α} {q : Nat} [UOne P t] [hl : Look bl o' ps hp e off y] [hs : Sub e off Ty.ref get put] (h : G n ((d, .pointer (some ⟨q, 0, none⟩)) :: env) b ps hp K) (hg : get y = some q) (hx : ev env x = some (.pointer (some ⟨bl, o', none⟩)) := by exact rfl) (hd : Nat.blt d n = true := by exact rfl) :
    GO P n env b ps hp ⟨some d, .load t x, ty, pos, aft, gd⟩ K Q := rdv (fun F w h1 h2 => by
  obtain ⟨c, h3, h4, h5⟩ := look_sub (e := e) (f := Ty.ref) (bl := bl) (o' := o') (y := y) (get := get) (put := put) h1 h2
  have h4 : c = [.pointer ((get y).map fun b => ⟨b, 0, none⟩)] := h4
  rw [hg] at h4
  subst h4
  exact RX.load hx (fun w' ha => ha.cell h5 (h3 0 _ rfl))) hd h
/-- One cell of a row stays from now on. -/
theorem frzC (bl i : Nat) {α : Type} (e : Ty α) (y : α) {t : TypeId} {vs : List Value} {v : Value} {rest : List Res} [hf : FRow bl hp t vs rest] (h : G n env b (Pt e bl i y :: ps) rest K) (hv : vs[i]? = some v := by exact rfl) (hc : v.cells.toList = [v] := by exact rfl) (hr : Reads ps v e y := by first | exact Go.GX.Rds.r) : G n env b ps hp K :=
  frz_stA hf.p (fun F w h1 h2 => by
    have hrow : Row w bl t vs := h2
    have hd : e.rd F w v.cells.toList y := hr.as F w h1
    rw [hc] at hd
    refine ⟨.inr rfl, hrow.lt, [v], fun j c hj => ?_, e.move hd (fun _ _ h => .inl h) (Agree.refl _ _)⟩
    cases j with
    | zero => simp at hj; subst hj; exact hrow.cell_some hv
    | succ j => simp at hj) h
end
end Go.GX
