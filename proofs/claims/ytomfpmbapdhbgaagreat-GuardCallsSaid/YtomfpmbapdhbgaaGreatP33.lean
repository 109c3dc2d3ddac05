import Derived.Test.YtomfpmbapdhbgaaGreatP11
import Derived.Test.YtomfpmbapdhbgaaGreatP20
import Derived.Test.YtomfpmbapdhbgaaGreatP24
import Derived.Test.YtomfpmbapdhbgaaGreatP25
import Derived.Test.YtomfpmbapdhbgaaGreatP29
import Derived.Test.YtomfpmbapdhbgaaGreatP31
import Derived.Test.YtomfpmbapdhbgaaGreatP32
/- The walks over the reference's walk and Accepts of chapter 28. -/
namespace Go.GuaM
open Go.RiseM Go.Api Go.FlowM Go.LivM Go.ReachM Go.RtM
theorem St.rem {u : Unt} {i : Nat} {v : Int} (h : St u i v) : ∃ x ∈ u.ins, Gone u x v := by
  induction h with
  | gone _ hx hg _ _ => exact ⟨_, List.mem_of_getElem? hx, hg⟩
  | pass _ _ _ _ ih => exact ih
theorem puts_swap (a b : List Int) : puts (a ++ b) = both b a := Rise.eq (puts_spec _).1 (both_rise _ _) fun x => by rw [(puts_spec _).2, List.mem_append, both_mem, or_comm]
theorem both_nil {a : List Int} (h : Rise a) : both a [] = a := Rise.eq (both_rise _ _) h fun x => by rw [both_mem]; simp
end Go.GuaM
namespace Go.Proofs.YtomfpmbapdhbgaaGreat
open Go Go.RR Go.RX Go.GX Go.Api Go.RiseM Go.ReachM Go.RtM Go.LivM Go.FlowM
attribute [local irreducible] wpList Code.wp wpPlan Exit.then Exit.inBlock bodyPost NoPanic Went GX.Post GX.Again GX.Meet GX.RowR GX.Own GX.Owns GX.Box GX.Sl GX.Pt GX.Ag GX.MapR GX.Kept GX.Pin wpT GoK AtEnd Both
/-- What the reference's walk asks of a unit. -/
structure UnB (t : RTg) (k : Nat) (u : Unt) : Prop where
  unit : t.units[k]? = some u
  small : Small t
  w : UnW t u
  args : ∀ x ∈ u.ins, x.args.length ≤ 10000
  rargs : ∀ x ∈ u.ins, x.op = 21 ∨ x.op = 22 → Rise x.args
  uses : ∀ x ∈ u.ins, ∀ n ∈ uses x, ∃ (j : Nat) (c : Int), n = (j : Int) ∧ u.vars[j]? = some c
  rem : ∀ x ∈ u.ins, x.op = 22 → ∀ c ∈ x.args, c ≠ -2
  vars : u.vars.length ≤ 10000
  takes : u.takes.length ≤ 10000
  cls : t.classes.length ≤ 10000
  glob : (glob t).length ≤ 10000
  out : (out t k).length ≤ 10000
theorem UnB.beh {t : RTg} {k : Nat} {u : Unt} (h : UnB t k u) {S : List Api.State} (hS : GuaM.Snd u S) {i : Nat} {s : Api.State} {x : Ins} (hs : S[i]? = some s) (hx : u.ins[i]? = some x) : BehOk t k u x s := by
  have hm := List.mem_of_getElem? hx
  obtain ⟨h1, h2⟩ := GuaM.snd_stale hS hs
  have h3 := GuaM.snd_live hS h.w.cr hs
  have h4 := h.vars
  have h5 := h.cls
  refine ⟨h.unit, h.small, h.w.each x hm, h.args x hm, h.rargs x hm, h.uses x hm, fun n hn j c hj hc => ?_, (hS.rl i s hs).1, (hS.rl i s hs).2, by omega, by omega, h.vars, h.takes, h.glob, h.out⟩
  by_cases hmt : s.met = true
  · obtain ⟨y, hy, h6, _, c', hc', h7⟩ := ((hS.met i s hs hmt).2 n hn).rem
    subst hj
    rw [Int.toNat_natCast, hc] at hc'
    cases hc'
    exact h.rem y hy h6 c h7
  · rw [(hS.un i s hs (by simpa using hmt)).2] at hn; simp at hn
structure WkS where
  st : Nat
  S : List Api.State
structure WkO where
  t : Bool
  S : List Api.State
structure WkI where
  t : Bool
  S : List Api.State
  i : Nat
noncomputable instance decAccU (t : RTg) (k : Int) (u : Unt) : Decidable (GuaM.AccU t k u) := Classical.propDecidable _
set_option maxHeartbeats 4000000 in
theorem rwalk_spec (bl : Nat) (v : WV) (t : RTg) (u : Unt) (k : Nat) (h : UnB t k u) :
    Does Tryz.prog 31 [.pointer (some ⟨bl, 0, none⟩)] [Sl tyLayout v.aC v.cC t.classes, Sl Ty.int v.aG v.cG t.globals, Sl tyUnt v.aU v.cU t.units, Sl Ty.int v.aL v.cL (glob t), Sl Ty.int v.aO v.cO (out t k), Sl (Ty.slice Ty.int) v.aX v.cX (outs t)] [RowR bl 69 [.slice v.aC t.classes.length v.cC, .slice v.aG t.globals.length v.cG, .slice v.aU t.units.length v.cU, .int .i64 t.main, .int .i64 k, .slice v.aL (glob t).length v.cL, .slice v.aO (out t k).length v.cO, .slice v.aX (outs t).length v.cX, .slice none 0 0]]
      (fun _ : WkS => .bool (decide (GuaM.AccU t k u))) (fun _ => []) (fun s => [RowR bl 69 [.slice v.aC t.classes.length v.cC, .slice v.aG t.globals.length v.cG, .slice v.aU t.units.length v.cU, .int .i64 t.main, .int .i64 k, .slice v.aL (glob t).length v.cL, .slice v.aO (out t k).length v.cO, .slice v.aX (outs t).length v.cX, .slice (some ⟨s.st, 0, none⟩) u.ins.length u.ins.length], GX.Own 48 tyState (some ⟨s.st, 0, none⟩) u.ins.length s.S]) := by
  refine enter Tryz.func31 rfl Tryz.ntmps31 rfl fun b => ?_
  have hu := h.unit
  have hil := h.w.ins
  have hvl := h.vars
  have hcl := h.cls
  have hpos : 0 < u.ins.length := List.length_pos_iff.2 h.w.ne
  refine GX.wR ?_; intros
  refine GX.drawn1 (RowR bl 69 [.slice v.aC t.classes.length v.cC, .slice v.aG t.globals.length v.cG, .slice v.aU t.units.length v.cU, .int .i64 t.main, .int .i64 k, .slice v.aL (glob t).length v.cL, .slice v.aO (out t k).length v.cO, .slice v.aX (outs t).length v.cX, .slice none 0 0]) (fun j => !(List.contains [12] j)) [(0, true), (1, true), (2, true), (3, true), (4, true), (5, true), (6, true), (7, true), (8, true), (9, true), (10, true), (11, false), (12, false)] rfl (by kernel_rfl) (by kernel_rfl) (by first | ((repeat (first | apply Go.GX.SelR.nil | apply Go.GX.SelR.cons | (with_reducible apply Go.GX.TakeR.head) | apply Go.GX.TakeR.tail)); done) | (repeat (first | apply Go.GX.SelR.nil | apply Go.GX.SelR.cons | apply Go.GX.TakeR.head | apply Go.GX.TakeR.tail))) ?_; intro wd F hW hR
  refine GX.wT ?_; intros
  refine GX.unpin (RowR bl 69 [.slice v.aC t.classes.length v.cC, .slice v.aG t.globals.length v.cG, .slice v.aU t.units.length v.cU, .int .i64 t.main, .int .i64 k, .slice v.aL (glob t).length v.cL, .slice v.aO (out t k).length v.cO, .slice v.aX (outs t).length v.cX, .slice none 0 0]) ?_
  refine GX.nmP 3 ?_; rintro b3 rfl
  refine GX.wRN ?_; intros
  refine frzB b3 ?_
  have hrep : (List.replicate u.ins.length (⟨false, [], []⟩ : Api.State))[0]? = some ⟨false, [], []⟩ := by rw [List.getElem?_replicate, if_pos hpos]
  refine GX.wR ?_; intros
  refine GX.nmB 27 ?_; rintro g rfl
  have hcov0 := GuaM.cov_first h.w.ne
  have hsnd0 := GuaM.snd_first u
  refine GX.loop (σ := WkO) (fun q => [(0, .pointer (some ⟨bl, 0, none⟩)), (3, .pointer (some ⟨b3, 0, none⟩)), (4, .bool q.t)]) (fun _ => []) (fun q => [RowR bl 69 [.slice v.aC t.classes.length v.cC, .slice v.aG t.globals.length v.cG, .slice v.aU t.units.length v.cU, .int .i64 t.main, .int .i64 k, .slice v.aL (glob t).length v.cL, .slice v.aO (out t k).length v.cO, .slice v.aX (outs t).length v.cX, .slice (some ⟨g, 0, none⟩) u.ins.length u.ins.length], GX.Own 48 tyState (some ⟨g, 0, none⟩) u.ins.length q.S])
    (fun q => GuaM.Snd u q.S ∧ GuaM.Cov q.S 0 [] [] ∧ (q.t = false → GuaM.AccU t k u)) (fun q => if q.t = true then 1 + (u.ins.length * (1 + u.vars.length) - GuaM.wsum q.S) else 0) ⟨true, GuaM.first u⟩ ⟨rfl, rfl, rfl, trivial⟩ ⟨hsnd0, hcov0, fun e => by cases e⟩ (fun q hq => ?_)
  obtain ⟨tt, S⟩ := q
  obtain ⟨hS, hC, hF⟩ := hq
  dsimp only at *
  cases tt with
  | false =>
    refine GX.wR ?_; intros
    exact rt1 ⟨g, S⟩ (vY (hF rfl))
  | true =>
    clear hF
    refine GX.wR ?_; intros
    refine GX.loop (σ := WkI) (fun q => [(0, .pointer (some ⟨bl, 0, none⟩)), (3, .pointer (some ⟨b3, 0, none⟩)), (4, .bool q.t), (5, .int .i64 (q.i : Int))]) (fun _ => []) (fun q => [RowR bl 69 [.slice v.aC t.classes.length v.cC, .slice v.aG t.globals.length v.cG, .slice v.aU t.units.length v.cU, .int .i64 t.main, .int .i64 k, .slice v.aL (glob t).length v.cL, .slice v.aO (out t k).length v.cO, .slice v.aX (outs t).length v.cX, .slice (some ⟨g, 0, none⟩) u.ins.length u.ins.length], GX.Own 48 tyState (some ⟨g, 0, none⟩) u.ins.length q.S])
      (fun q => q.i ≤ u.ins.length ∧ GuaM.Rnd t k u (GuaM.wsum S) q.t q.S q.i) (fun q => u.ins.length - q.i) ⟨false, S, 0⟩ ⟨rfl, rfl, rfl, rfl, trivial⟩ ⟨by dsimp only; omega, GuaM.Rnd.begin hS hC⟩ (fun q hq => ?_)
    obtain ⟨more, T, i⟩ := q
    obtain ⟨hi, hRn⟩ := hq
    dsimp only at *
    have hTl := hRn.snd.len
    by_cases hlt : i < u.ins.length
    · obtain ⟨x, hx⟩ := get_lt hlt
      obtain ⟨s, hs⟩ := get_lt (show i < T.length by omega)
      cases hm : s.met with
      | false =>
        have hm' : (!s.met) = true := by rw [hm]; rfl
        refine GX.wR ?_; intros
        exact again ⟨more, T, i + 1⟩ ⟨rfl, rfl, rfl, rfl, trivial⟩ ⟨by dsimp only; omega, hRn.pass hs hm⟩ (by dsimp only; omega)
      | true =>
        have hB := h.beh hRn.snd hs hx
        have hm' : (!s.met) = false := by rw [hm]; rfl
        refine GX.wR ?_; intros
        refine GX.cut (σ := Nat × BehR t k u x s) (fun p => [(0, .pointer (some ⟨bl, 0, none⟩)), (3, .pointer (some ⟨b3, 0, none⟩)), (4, .bool more), (5, .int .i64 (i : Int)), (6, .pointer (some ⟨p.1, 0, none⟩)), (7, .bool p.2.r)]) (fun _ => []) (fun p => [RowR bl 69 [.slice v.aC t.classes.length v.cC, .slice v.aG t.globals.length v.cG, .slice v.aU t.units.length v.cU, .int .i64 t.main, .int .i64 k, .slice v.aL (glob t).length v.cL, .slice v.aO (out t k).length v.cO, .slice v.aX (outs t).length v.cX, .slice (some ⟨g, 0, none⟩) u.ins.length u.ins.length], GX.Own 48 tyState (some ⟨g, 0, none⟩) u.ins.length T, Box 48 tyState p.1 p.2.s']) (fun _ => True) ?_ (fun p _ => ?_)
        · refine GX.drawnT2 (RowR bl 69 [.slice v.aC t.classes.length v.cC, .slice v.aG t.globals.length v.cG, .slice v.aU t.units.length v.cU, .int .i64 t.main, .int .i64 k, .slice v.aL (glob t).length v.cL, .slice v.aO (out t k).length v.cO, .slice v.aX (outs t).length v.cX, .slice (some ⟨g, 0, none⟩) u.ins.length u.ins.length]) (GX.Own 48 tyState (some ⟨g, 0, none⟩) u.ins.length T) (fun j => !(List.contains [] j)) (.br [(0, true), (1, true), (2, true), (3, true), (4, true), (5, true), (6, true), (7, true), (8, true), (9, true), (10, true), (11, true), (12, true)] (.alt 13 (.lin [(14, true), (15, true), (16, true), (17, false), (18, false), (19, true)]) (.alt 17 (.lin [(13, false), (14, true), (15, true), (16, true), (18, false), (19, true)]) .nil))) (by kernel_rfl) (by kernel_rfl) (by first | ((repeat (first | apply Go.GX.SelR.nil | apply Go.GX.SelR.cons | (with_reducible apply Go.GX.TakeR.head) | apply Go.GX.TakeR.tail)); done) | (repeat (first | apply Go.GX.SelR.nil | apply Go.GX.SelR.cons | apply Go.GX.TakeR.head | apply Go.GX.TakeR.tail))) ?_; intro wd F hW hR
          refine GX.wT ?_; intros
          refine GX.nmA 59 ?_; rintro c59 rfl
          refine GX.nmA 66 ?_; rintro c66 rfl
          refine GX.treeA ?_ ?_
          · refine GX.unpin (RowR bl 69 [.slice v.aC t.classes.length v.cC, .slice v.aG t.globals.length v.cG, .slice v.aU t.units.length v.cU, .int .i64 t.main, .int .i64 k, .slice v.aL (glob t).length v.cL, .slice v.aO (out t k).length v.cO, .slice v.aX (outs t).length v.cX, .slice (some ⟨g, 0, none⟩) u.ins.length u.ins.length]) ?_
            refine GX.gok ?_
            refine (cl (behind_spec bl v t u k (.slice (some ⟨g, 0, none⟩) u.ins.length u.ins.length) c59 c66 x s hB) fun p => ?_)
            refine GX.repin (RowR bl 69 [.slice v.aC t.classes.length v.cC, .slice v.aG t.globals.length v.cG, .slice v.aU t.units.length v.cU, .int .i64 t.main, .int .i64 k, .slice v.aL (glob t).length v.cL, .slice v.aO (out t k).length v.cO, .slice v.aX (outs t).length v.cX, .slice (some ⟨g, 0, none⟩) u.ins.length u.ins.length]) ?_
            refine GX.wT ?_; intros
            refine GX.unpin (RowR bl 69 [.slice v.aC t.classes.length v.cC, .slice v.aG t.globals.length v.cG, .slice v.aU t.units.length v.cU, .int .i64 t.main, .int .i64 k, .slice v.aL (glob t).length v.cL, .slice v.aO (out t k).length v.cO, .slice v.aX (outs t).length v.cX, .slice (some ⟨g, 0, none⟩) u.ins.length u.ins.length]) ?_
            refine GX.unpin (GX.Own 48 tyState (some ⟨g, 0, none⟩) u.ins.length T) ?_
            refine GX.nmP 6 ?_; rintro b6 rfl
            refine GX.wR ?_; intros
            exact meet (b6, p) ⟨rfl, rfl, rfl, rfl, rfl, rfl, trivial⟩ trivial
          · refine GX.wT ?_; intros
            refine GX.unpin (RowR bl 69 [.slice v.aC t.classes.length v.cC, .slice v.aG t.globals.length v.cG, .slice v.aU t.units.length v.cU, .int .i64 t.main, .int .i64 k, .slice v.aL (glob t).length v.cL, .slice v.aO (out t k).length v.cO, .slice v.aX (outs t).length v.cX, .slice (some ⟨g, 0, none⟩) u.ins.length u.ins.length]) ?_
            refine GX.gow ?_
            refine (cl (behind_spec bl v t u k (.slice (some ⟨g, 0, none⟩) u.ins.length u.ins.length) c59 c66 x s hB) fun p => ?_)
            refine GX.repin (RowR bl 69 [.slice v.aC t.classes.length v.cC, .slice v.aG t.globals.length v.cG, .slice v.aU t.units.length v.cU, .int .i64 t.main, .int .i64 k, .slice v.aL (glob t).length v.cL, .slice v.aO (out t k).length v.cO, .slice v.aX (outs t).length v.cX, .slice (some ⟨g, 0, none⟩) u.ins.length u.ins.length]) ?_
            refine GX.wT ?_; intros
            refine GX.unpin (RowR bl 69 [.slice v.aC t.classes.length v.cC, .slice v.aG t.globals.length v.cG, .slice v.aU t.units.length v.cU, .int .i64 t.main, .int .i64 k, .slice v.aL (glob t).length v.cL, .slice v.aO (out t k).length v.cO, .slice v.aX (outs t).length v.cX, .slice (some ⟨g, 0, none⟩) u.ins.length u.ins.length]) ?_
            refine GX.unpin (GX.Own 48 tyState (some ⟨g, 0, none⟩) u.ins.length T) ?_
            refine GX.nmP 6 ?_; rintro b6 rfl
            refine GX.wR ?_; intros
            exact meet (b6, p) ⟨rfl, rfl, rfl, rfl, rfl, rfl, trivial⟩ trivial
        obtain ⟨b6, c6, s', r, hr, hs'⟩ := p
        dsimp only
        refine frzB b6 ?_
        cases r with
        | false =>
          refine GX.wR ?_; intros
          exact rt1 ⟨g, T⟩ (vN (GuaM.not_passes hRn.snd hs hm hx (of_decide_eq_false hr.symm)))
        | true =>
          obtain rfl := hs' rfl
          have hp := of_decide_eq_true hr.symm
          have hnl := next_len u.ins (i : Int)
          refine GX.wR ?_; intros
          refine GX.nmS 73 ?_; rintro a73 c73 rfl rfl
          refine GX.o (cl (nextOf_spec a73 c73 u.ins i x hx) fun p => ?_)
          obtain ⟨aN, cN⟩ := p
          rw [← next_some hx]
          dsimp only
          refine GX.wR ?_; intros
          refine GX.loop (σ := WkI) (fun q => [(0, .pointer (some ⟨bl, 0, none⟩)), (3, .pointer (some ⟨b3, 0, none⟩)), (4, .bool q.t), (5, .int .i64 (i : Int)), (6, .pointer (some ⟨b6, 0, none⟩)), (8, .slice aN (next u.ins (i : Int)).length cN), (9, .int .i64 (q.i : Int))]) (fun _ => []) (fun q => [RowR bl 69 [.slice v.aC t.classes.length v.cC, .slice v.aG t.globals.length v.cG, .slice v.aU t.units.length v.cU, .int .i64 t.main, .int .i64 k, .slice v.aL (glob t).length v.cL, .slice v.aO (out t k).length v.cO, .slice v.aX (outs t).length v.cX, .slice (some ⟨g, 0, none⟩) u.ins.length u.ins.length], GX.Own 48 tyState (some ⟨g, 0, none⟩) u.ins.length q.S])
            (fun q => q.i ≤ (next u.ins (i : Int)).length ∧ GuaM.RndN t k u (GuaM.wsum S) s x q.t q.S i q.i) (fun q => (next u.ins (i : Int)).length - q.i) ⟨more, T, 0⟩ ⟨rfl, rfl, rfl, rfl, rfl, rfl, rfl, trivial⟩ ⟨by dsimp only; omega, hRn.go x hs⟩ (fun q hq => ?_)
          obtain ⟨more2, T2, m⟩ := q
          obtain ⟨hm2, hN⟩ := hq
          dsimp only at *
          by_cases hml : m < (next u.ins (i : Int)).length
          · obtain ⟨y, hy⟩ := get_lt hml
            obtain ⟨hyi, _⟩ := next_in (List.mem_of_getElem? hy)
            obtain ⟨hy0, hy1⟩ := hyi
            obtain ⟨j, rfl⟩ := Int.eq_ofNat_of_zero_le hy0
            have hT2 := hN.rnd.snd.len
            have hjl : j < T2.length := by omega
            obtain ⟨o, ho⟩ := get_lt hjl
            obtain ⟨hA, hSt⟩ := GuaM.out_at hRn.snd hs hm hx (List.mem_of_getElem? hy)
            have hst := GuaM.staleOut_rise u x s.stale
            have hol := GuaM.snd_stale hN.rnd.snd ho
            have hsl := GuaM.out_stale (x := x) (GuaM.snd_stale hRn.snd hs).1
            refine GX.wR ?_; intros
            refine GX.drawn2 (RowR bl 69 [.slice v.aC t.classes.length v.cC, .slice v.aG t.globals.length v.cG, .slice v.aU t.units.length v.cU, .int .i64 t.main, .int .i64 k, .slice v.aL (glob t).length v.cL, .slice v.aO (out t k).length v.cO, .slice v.aX (outs t).length v.cX, .slice (some ⟨g, 0, none⟩) u.ins.length u.ins.length]) (GX.Own 48 tyState (some ⟨g, 0, none⟩) u.ins.length T2) (fun j => !(List.contains [11] j)) [(0, true), (1, true), (2, true), (3, true), (4, true), (5, true), (6, true), (7, true), (8, true), (9, true), (10, false), (11, false)] rfl (by kernel_rfl) (by kernel_rfl) (by first | ((repeat (first | apply Go.GX.SelR.nil | apply Go.GX.SelR.cons | (with_reducible apply Go.GX.TakeR.head) | apply Go.GX.TakeR.tail)); done) | (repeat (first | apply Go.GX.SelR.nil | apply Go.GX.SelR.cons | apply Go.GX.TakeR.head | apply Go.GX.TakeR.tail))) ?_; intro wd F hW hR
            refine GX.wT ?_; intros
            refine GX.unpin (RowR bl 69 [.slice v.aC t.classes.length v.cC, .slice v.aG t.globals.length v.cG, .slice v.aU t.units.length v.cU, .int .i64 t.main, .int .i64 k, .slice v.aL (glob t).length v.cL, .slice v.aO (out t k).length v.cO, .slice v.aX (outs t).length v.cX, .slice (some ⟨g, 0, none⟩) u.ins.length u.ins.length]) ?_
            refine GX.unpin (GX.Own 48 tyState (some ⟨g, 0, none⟩) u.ins.length T2) ?_
            refine GX.nmP 10 ?_; rintro b10 rfl
            refine GX.wRN ?_; intros
            refine frzB b10 ?_
            cases hom : o.met with
            | false =>
              have hom' : (!o.met) = true := by rw [hom]; rfl
              refine GX.wR ?_; intros
              refine GX.drawn2 (RowR bl 69 [.slice v.aC t.classes.length v.cC, .slice v.aG t.globals.length v.cG, .slice v.aU t.units.length v.cU, .int .i64 t.main, .int .i64 k, .slice v.aL (glob t).length v.cL, .slice v.aO (out t k).length v.cO, .slice v.aX (outs t).length v.cX, .slice (some ⟨g, 0, none⟩) u.ins.length u.ins.length]) (GX.Own 48 tyState (some ⟨g, 0, none⟩) u.ins.length T2) (fun j => !(List.contains [10] j)) [(0, true), (1, true), (2, true), (3, true), (4, true), (5, true), (6, true), (7, true), (8, true), (9, true), (10, false)] rfl (by kernel_rfl) (by kernel_rfl) (by first | ((repeat (first | apply Go.GX.SelR.nil | apply Go.GX.SelR.cons | (with_reducible apply Go.GX.TakeR.head) | apply Go.GX.TakeR.tail)); done) | (repeat (first | apply Go.GX.SelR.nil | apply Go.GX.SelR.cons | apply Go.GX.TakeR.head | apply Go.GX.TakeR.tail))) ?_; intro wd F hW hR
              refine GX.wT ?_; intros
              refine GX.unpin (GX.Own 48 tyState (some ⟨g, 0, none⟩) u.ins.length T2) ?_
              refine GX.wT ?_; intros
              refine GX.unpin (RowR bl 69 [.slice v.aC t.classes.length v.cC, .slice v.aG t.globals.length v.cG, .slice v.aU t.units.length v.cU, .int .i64 t.main, .int .i64 k, .slice v.aL (glob t).length v.cL, .slice v.aO (out t k).length v.cO, .slice v.aX (outs t).length v.cX, .slice (some ⟨g, 0, none⟩) u.ins.length u.ins.length]) ?_
              have e : (⟨true, GuaM.alive x s.live, GuaM.staleOut u x s.stale⟩ : Api.State) = GuaM.lay (GuaM.alive x s.live) (GuaM.staleOut u x s.stale) o := by
                unfold GuaM.lay
                rw [(hN.rnd.snd.un j o ho hom).2, GuaM.both_nil hst]
              rw [e]
              refine GX.wR ?_; intros
              exact again ⟨true, _, m + 1⟩ ⟨rfl, rfl, rfl, rfl, rfl, rfl, rfl, trivial⟩ ⟨by dsimp only; omega, hN.lay ho (fun h2 => by rw [hom] at h2; cases h2) hA hSt (fun h2 => by have := h2.1; rw [hom] at this; cases this)⟩ (by dsimp only; omega)
            | true =>
              have hom' : (!o.met) = false := by rw [hom]; rfl
              refine GX.wR ?_; intros
              refine GX.nmS 106 ?_; rintro a106 c106 rfl rfl
              refine GX.nmS 108 ?_; rintro a108 c108 rfl rfl
              refine GX.o (cl (ints_same a106 a108 c106 c108 o.live (GuaM.alive x s.live)) fun _ => ?_)
              by_cases hL : o.live = GuaM.alive x s.live
              · have hL' : ¬ ¬ o.live = GuaM.alive x s.live := fun h => h hL
                refine GX.wR ?_; intros
                refine GX.nmS 112 ?_; rintro a112 c112 rfl rfl
                refine GX.nmS 114 ?_; rintro a114 c114 rfl rfl
                refine GX.o (cl (rboth_spec a112 a114 c112 c114 o.stale (GuaM.staleOut u x s.stale) (by omega) (by omega)) fun p => ?_)
                obtain ⟨a115, c115⟩ := p
                dsimp only
                have ep := GuaM.puts_swap o.stale (GuaM.staleOut u x s.stale)
                by_cases hE : ((puts (o.stale ++ GuaM.staleOut u x s.stale)).length : Int) = (o.stale.length : Int)
                · have hE' : ¬ (((puts (o.stale ++ GuaM.staleOut u x s.stale)).length : Int) ≠ (o.stale.length : Int)) := fun h => h hE
                  refine GX.wR ?_; intros
                  exact again ⟨more2, T2, m + 1⟩ ⟨rfl, rfl, rfl, rfl, rfl, rfl, rfl, trivial⟩ ⟨by dsimp only; omega, hN.same hy ho hom hL (by rw [← ep]; omega)⟩ (by dsimp only; omega)
                · refine GX.wR ?_; intros
                  refine GX.drawn2 (RowR bl 69 [.slice v.aC t.classes.length v.cC, .slice v.aG t.globals.length v.cG, .slice v.aU t.units.length v.cU, .int .i64 t.main, .int .i64 k, .slice v.aL (glob t).length v.cL, .slice v.aO (out t k).length v.cO, .slice v.aX (outs t).length v.cX, .slice (some ⟨g, 0, none⟩) u.ins.length u.ins.length]) (GX.Own 48 tyState (some ⟨g, 0, none⟩) u.ins.length T2) (fun j => !(List.contains [11] j)) [(0, true), (1, true), (2, true), (3, true), (4, true), (5, true), (6, true), (7, true), (8, true), (9, true), (10, true), (11, false)] rfl (by kernel_rfl) (by kernel_rfl) (by first | ((repeat (first | apply Go.GX.SelR.nil | apply Go.GX.SelR.cons | (with_reducible apply Go.GX.TakeR.head) | apply Go.GX.TakeR.tail)); done) | (repeat (first | apply Go.GX.SelR.nil | apply Go.GX.SelR.cons | apply Go.GX.TakeR.head | apply Go.GX.TakeR.tail))) ?_; intro wd F hW hR
                  refine GX.wT ?_; intros
                  refine GX.unpin (GX.Own 48 tyState (some ⟨g, 0, none⟩) u.ins.length T2) ?_
                  refine GX.wT ?_; intros
                  refine GX.unpin (RowR bl 69 [.slice v.aC t.classes.length v.cC, .slice v.aG t.globals.length v.cG, .slice v.aU t.units.length v.cU, .int .i64 t.main, .int .i64 k, .slice v.aL (glob t).length v.cL, .slice v.aO (out t k).length v.cO, .slice v.aX (outs t).length v.cX, .slice (some ⟨g, 0, none⟩) u.ins.length u.ins.length]) ?_
                  have e : (⟨o.met, o.live, puts (o.stale ++ GuaM.staleOut u x s.stale)⟩ : Api.State) = GuaM.lay (GuaM.alive x s.live) (GuaM.staleOut u x s.stale) o := by
                    unfold GuaM.lay
                    rw [ep, hom, hL]
                  rw [e]
                  refine GX.wR ?_; intros
                  exact again ⟨true, _, m + 1⟩ ⟨rfl, rfl, rfl, rfl, rfl, rfl, rfl, trivial⟩ ⟨by dsimp only; omega, hN.lay ho (fun _ => hL) hA hSt (fun h2 => hE (by have := h2.2; rw [← ep] at this; omega))⟩ (by dsimp only; omega)
              · refine GX.wR ?_; intros
                exact rt1 ⟨g, T2⟩ (vN (GuaM.not_live hN.rnd.snd ho hom hA hL))
          · refine GX.wR ?_; intros
            exact again ⟨more2, T2, i + 1⟩ ⟨rfl, rfl, rfl, rfl, trivial⟩ ⟨by dsimp only; omega, hN.fin (by omega) hx hp⟩ (by dsimp only; omega)
    · have hie : i = u.ins.length := by omega
      subst hie
      have hw := GuaM.wsum_le hRn.snd
      have hw0 := GuaM.wsum_le hS
      have hl := hRn.less
      refine GX.wR ?_; intros
      refine again ⟨more, T⟩ ⟨rfl, rfl, rfl, trivial⟩ ⟨hRn.snd, hRn.cov, fun e => ?_⟩ ?_
      · dsimp only at e; subst e; exact hRn.acc
      · dsimp only
        rw [if_pos rfl]
        split at hl
        · rename_i e; subst e; rw [if_pos rfl]; omega
        · rename_i e; rw [if_neg e]; omega
end Go.Proofs.YtomfpmbapdhbgaaGreat

/- The plain mathematics of chapter 26: the program's and the reference's tests of an instruction agree. No program in sight. -/
namespace Go.RtM
open Go.RiseM Go.ReachM Go.Api

/-- What is right of a program ahead of its instructions. -/
structure Hds (t : RTg) (u : Unt) : Prop where
  lay : ∀ L ∈ t.classes, LayoutOk t L
  vars : Entries t u.vars
  res : u.result = -3 ∨ IsEntry t u.result
  glob : Entries t t.globals
  units : ∀ g ∈ t.units, Entries t g.vars ∧ (g.result = -3 ∨ IsEntry t g.result) ∧ 0 ≤ g.params
section
variable {t : RTg} {u : Unt}
theorem ent {e : Int} (h : IsEntry t e) : -2 ≤ e ∧ e < (t.classes.length : Int) := (rentry_iff t e).2 h
/-- A variable: it is there, and both find it; or neither does. -/
theorem var (h : Hds t u) (n : Int) : (∃ e, -2 ≤ e ∧ e < (t.classes.length : Int) ∧ of u n = e ∧ rof u n = e) ∨ (of u n = -3 ∧ rof u n = -4) := by
  unfold of rof
  cases hg : gt u.vars n with
  | none => exact .inr ⟨rfl, rfl⟩
  | some e => have := ent (h.vars e (gt_mem hg)); exact .inl ⟨e, this.1, this.2, rfl, rfl⟩
theorem e_num (h : Hds t u) (n : Int) : of u n = -2 ↔ rof u n = -2 := by
  rcases var h n with ⟨e, _, _, h1, h2⟩ | ⟨h1, h2⟩ <;> rw [h1, h2] <;> omega
theorem e_there (h : Hds t u) (n : Int) : of u n ≠ -3 ↔ rof u n ≠ -4 := by
  rcases var h n with ⟨e, _, _, h1, h2⟩ | ⟨h1, h2⟩ <;> rw [h1, h2] <;> omega
theorem e_ref (h : Hds t u) (n : Int) : IsRef (of u n) ↔ -1 ≤ rof u n := by
  unfold IsRef
  rcases var h n with ⟨e, _, _, h1, h2⟩ | ⟨h1, h2⟩ <;> rw [h1, h2] <;> omega
theorem e_same (h : Hds t u) (n m : Int) (hm : 0 ≤ m) : of u n = m ↔ rof u n = m := by
  rcases var h n with ⟨e, _, _, h1, h2⟩ | ⟨h1, h2⟩ <;> rw [h1, h2] <;> omega
theorem e_intoL (h : Hds t u) (n : Int) {x : Int} (hx : -2 ≤ x) : Into (of u n) x ↔ rof u n ≠ -4 ∧ RInto (rof u n) x := by
  rcases var h n with ⟨e, h0, _, h1, h2⟩ | ⟨h1, h2⟩
  · rw [h1, h2, into_iff h0 hx]
    exact ⟨fun h => ⟨by omega, h⟩, fun h => h.2⟩
  · rw [h1, h2]
    exact ⟨fun h => absurd h none_into, fun h => absurd rfl h.1⟩
theorem e_intoR (h : Hds t u) (n : Int) {x : Int} (hx : -2 ≤ x) : Into x (of u n) ↔ rof u n ≠ -4 ∧ RInto x (rof u n) := by
  rcases var h n with ⟨e, h0, _, h1, h2⟩ | ⟨h1, h2⟩
  · rw [h1, h2, into_iff hx h0]
    exact ⟨fun h => ⟨by omega, h⟩, fun h => h.2⟩
  · rw [h1, h2]
    exact ⟨fun h => absurd h into_none, fun h => absurd rfl h.1⟩
theorem e_into (h : Hds t u) (n m : Int) : Into (of u n) (of u m) ↔ rof u n ≠ -4 ∧ rof u m ≠ -4 ∧ RInto (rof u n) (rof u m) := by
  rcases var h m with ⟨e, h0, _, h1, h2⟩ | ⟨h1, h2⟩
  · rw [h1, h2, e_intoL h n h0]
    exact ⟨fun h => ⟨h.1, by omega, h.2⟩, fun h => ⟨h.1, h.2.2⟩⟩
  · rw [h1, h2]
    exact ⟨fun h => absurd h into_none, fun h => absurd rfl h.2.1⟩
/-- What both say of a cell. -/
theorem e_rec (h : Hds t u) (f c : Int) : (∃ x, -2 ≤ x ∧ cell t u f false c = (x, false, true) ∧ record t (rof u f) c = (x, false)) ∨ (cell t u f false c = (0, true, true) ∧ record t (rof u f) c = (-4, true)) ∨ ((cell t u f false c).2.2 = false ∧ record t (rof u f) c = (-4, false)) := by
  have none : ∀ {e : Int}, (¬ (e = -1 ∧ 0 ≤ c ∧ c < 8)) → gt t.classes e = Option.none → record t e c = (-4, false) := fun h1 h2 => by unfold record; rw [if_neg h1, h2]
  rcases var h f with ⟨e, h0, h3, h1, h2⟩ | ⟨h1, h2⟩
  · rw [h2]
    by_cases g1 : e = -1
    · rw [cell_null (h1.trans g1)]
      by_cases g2 : 0 ≤ c ∧ c < 8
      · refine .inr (.inl ⟨by rw [decide_eq_true g2], ?_⟩)
        unfold record; rw [if_pos ⟨g1, g2⟩]
      · exact .inr (.inr ⟨decide_eq_false g2, none (fun h => g2 h.2) (gt_out (.inl (by omega)))⟩)
    · have hn : ¬ (e = -1 ∧ 0 ≤ c ∧ c < 8) := fun h => g1 h.1
      by_cases g2 : e < 0
      · have hg := gt_out (l := t.classes) (.inl g2)
        exact .inr (.inr ⟨by rw [cell_none (by omega) (by rw [h1]; exact hg)], none hn hg⟩)
      · obtain ⟨L, hL, k, hk, hkl, hL2⟩ := gt_in (l := t.classes) (n := e) ⟨by omega, h3⟩
        have hLm := List.mem_of_getElem? hL2
        have hL' : gt t.classes (of u f) = some L := by rw [h1]; exact hL
        by_cases g3 : L.arr = true
        · exact .inr (.inr ⟨by rw [cell_arr (by omega) hL' (by rw [g3]; simp)], record_arr hn hL g3⟩)
        · have g3' : L.arr = false := by simpa using g3
          cases hx : gt L.refs c with
          | none => exact .inr (.inr ⟨by rw [cell_out (by omega) hL' g3' hx], record_out hn hL g3 hx⟩)
          | some x => exact .inl ⟨x, (ent ((h.lay L hLm).2.2 x (gt_mem hx))).1, cell_some (by omega) hL' g3' hx, record_some hn hL g3 hx⟩
  · rw [h2]
    exact .inr (.inr ⟨by rw [cell_none (by omega) (gt_out (.inl (by omega)))], none (by omega) (gt_out (.inl (by omega)))⟩)
theorem e_arr (h : Hds t u) (f : Int) : (∃ x, -2 ≤ x ∧ cell t u f true 0 = (x, false, true) ∧ array t (rof u f) = (x, false)) ∨ (cell t u f true 0 = (0, true, true) ∧ array t (rof u f) = (-4, true)) ∨ ((cell t u f true 0).2.2 = false ∧ array t (rof u f) = (-4, false)) := by
  have none : ∀ {e : Int}, e ≠ -1 → gt t.classes e = Option.none → array t e = (-4, false) := fun h1 h2 => by unfold array; rw [if_neg h1, h2]
  rcases var h f with ⟨e, h0, h3, h1, h2⟩ | ⟨h1, h2⟩
  · rw [h2]
    by_cases g1 : e = -1
    · rw [cell_null (h1.trans g1)]
      refine .inr (.inl ⟨rfl, ?_⟩)
      unfold array; rw [if_pos g1]
    · by_cases g2 : e < 0
      · have hg := gt_out (l := t.classes) (.inl g2)
        exact .inr (.inr ⟨by rw [cell_none (by omega) (by rw [h1]; exact hg)], none g1 hg⟩)
      · obtain ⟨L, hL, k, hk, hkl, hL2⟩ := gt_in (l := t.classes) (n := e) ⟨by omega, h3⟩
        have hLm := List.mem_of_getElem? hL2
        have hL' : gt t.classes (of u f) = some L := by rw [h1]; exact hL
        by_cases g3 : L.arr = true
        · have hlen := (h.lay L hLm).2.1 g3
          obtain ⟨x, hx, _⟩ := gt_in (l := L.refs) (n := 0) ⟨by omega, by omega⟩
          exact .inl ⟨x, (ent ((h.lay L hLm).2.2 x (gt_mem hx))).1, cell_some (by omega) hL' g3 hx, array_some g1 hL g3 hx⟩
        · exact .inr (.inr ⟨by rw [cell_arr (by omega) hL' g3], array_rec g1 hL g3⟩)
  · rw [h2]
    exact .inr (.inr ⟨by rw [cell_none (by omega) (gt_out (.inl (by omega)))], none (by omega) (gt_out (.inl (by omega)))⟩)
theorem e_loads (h : Hds t u) (a : Int) {f c : Int} {arr : Bool} {r : Int × Bool} (hc : (∃ x, -2 ≤ x ∧ cell t u f arr c = (x, false, true) ∧ r = (x, false)) ∨ (cell t u f arr c = (0, true, true) ∧ r = (-4, true)) ∨ ((cell t u f arr c).2.2 = false ∧ r = (-4, false))) :
    Loads t u a f arr c ↔ rof u a ≠ -4 ∧ Has r (RInto (rof u a)) := by
  unfold Loads Has
  rcases hc with ⟨x, hx, h1, rfl⟩ | ⟨h1, rfl⟩ | ⟨h1, rfl⟩
  · rw [h1]
    simp only [if_neg (show ¬ (false = true) by simp), e_intoL h a hx]
    exact ⟨fun h => ⟨h.2.1, .inr ⟨by omega, h.2.2⟩⟩, fun h => ⟨trivial, h.1, h.2.elim (fun h => by simp at h) (fun h => h.2)⟩⟩
  · rw [h1]
    simp only [if_pos rfl, e_there h a]
    exact ⟨fun h => ⟨h.2, .inl trivial⟩, fun h => ⟨trivial, h.1⟩⟩
  · rw [h1]
    exact ⟨fun h => by simp at h, fun h => by simp at h⟩
theorem e_lays (h : Hds t u) (d : Int) {f c : Int} {arr : Bool} {r : Int × Bool} (hc : (∃ x, -2 ≤ x ∧ cell t u f arr c = (x, false, true) ∧ r = (x, false)) ∨ (cell t u f arr c = (0, true, true) ∧ r = (-4, true)) ∨ ((cell t u f arr c).2.2 = false ∧ r = (-4, false))) :
    Lays t u f arr c d ↔ rof u d ≠ -4 ∧ Has r (fun e => RInto e (rof u d)) := by
  unfold Lays Has
  rcases hc with ⟨x, hx, h1, rfl⟩ | ⟨h1, rfl⟩ | ⟨h1, rfl⟩
  · rw [h1]
    simp only [if_neg (show ¬ (false = true) by simp), e_intoR h d hx]
    exact ⟨fun h => ⟨h.2.1, .inr ⟨by omega, h.2.2⟩⟩, fun h => ⟨trivial, h.1, h.2.elim (fun h => by simp at h) (fun h => h.2)⟩⟩
  · rw [h1]
    simp only [if_pos rfl, e_there h d]
    exact ⟨fun h => ⟨h.2, .inl trivial⟩, fun h => ⟨trivial, h.1⟩⟩
  · rw [h1]
    exact ⟨fun h => by simp at h, fun h => by simp at h⟩
theorem e_len (h : Hds t u) (f : Int) : (cell t u f true 0).2.2 = true ↔ Has (array t (rof u f)) (fun _ => True) := by
  unfold Has
  rcases e_arr h f with ⟨x, hx, h1, h2⟩ | ⟨h1, h2⟩ | ⟨h1, h2⟩
  · rw [h1, h2]; exact ⟨fun _ => .inr ⟨by omega, trivial⟩, fun _ => rfl⟩
  · rw [h1, h2]; exact ⟨fun _ => .inl rfl, fun _ => rfl⟩
  · rw [h1, h2]; exact ⟨fun h => by simp at h, fun h => by simp at h⟩
theorem e_fresh (h : Hds t u) (i : Ins) (arr : Bool) : Fresh t u i arr ↔ RClass t i.n arr ∧ rof u i.a = i.n := by
  unfold Fresh RClass
  cases hg : gt t.classes i.n with
  | none => simp
  | some L =>
    obtain ⟨k, hk, _⟩ := gt_some hg
    simp only [e_same h i.a i.n (by omega)]
theorem e_call (h : Hds t u) (i : Ins) : CallOk t u i ↔ RCall t u i := by
  unfold CallOk RCall
  cases hg : gt t.units i.c with
  | none => exact Iff.rfl
  | some g =>
    obtain ⟨hv, hr, hp⟩ := h.units g (gt_mem hg)
    simp only
    have z : (∀ p ∈ i.args.zip g.vars, Into p.2 (of u p.1)) ↔ ∀ p ∈ i.args.zip g.vars, rof u p.1 ≠ -4 ∧ RInto p.2 (rof u p.1) := by
      have key : ∀ p ∈ i.args.zip g.vars, (Into p.2 (of u p.1) ↔ rof u p.1 ≠ -4 ∧ RInto p.2 (rof u p.1)) := fun p hp => e_intoR h p.1 (ent (hv p.2 (List.of_mem_zip hp).2)).1
      exact ⟨fun h2 p hp => (key p hp).1 (h2 p hp), fun h2 p hp => (key p hp).2 (h2 p hp)⟩
    have r : Into (of u i.a) g.result ↔ rof u i.a ≠ -4 ∧ g.result ≠ -3 ∧ RInto (rof u i.a) g.result := by
      rcases hr with hr | hr
      · rw [hr]; exact ⟨fun h => absurd h into_none, fun h => absurd rfl h.2.1⟩
      · have := ent hr
        rw [e_intoL h i.a this.1]
        exact ⟨fun h => ⟨h.1, by omega, h.2⟩, fun h => ⟨h.1, h.2.2⟩⟩
    rw [z, r]
    exact ⟨fun h => ⟨⟨hp, h.1.2.1, h.1.1, h.1.2.2⟩, h.2⟩, fun h => ⟨⟨h.1.2.2.1, h.1.2.1, h.1.2.2.2⟩, h.2⟩⟩
theorem e_glob (h : Hds t u) (n : Int) {A B : Int → Prop} (hab : ∀ g, -2 ≤ g → (A g ↔ rof u n ≠ -4 ∧ B g)) (k : Int) : InG t k A ↔ rof u n ≠ -4 ∧ InG t k B := by
  unfold InG
  cases hg : gt t.globals k with
  | none => simp
  | some g => exact hab g (ent (h.glob g (gt_mem hg))).1
theorem e_two (h : Hds t u) (i : Ins) : Two u i ↔ (rof u i.a = -2 ∧ 14 ≤ i.n ∧ i.n ≤ 24) ∧ (if i.n = 21 ∨ i.n = 22 then rof u i.b ≠ -4 ∧ rof u i.c ≠ -4 ∧ (rof u i.b = -2 ↔ rof u i.c = -2) else rof u i.b = -2 ∧ rof u i.c = -2) := by
  unfold Two
  rw [e_num h i.a, e_num h i.b, e_num h i.c, e_ref h i.b, e_ref h i.c]
  have hb : rof u i.b = -4 ∨ -2 ≤ rof u i.b := by rcases var h i.b with ⟨e, h0, _, _, h2⟩ | ⟨_, h2⟩ <;> omega
  have hc : rof u i.c = -4 ∨ -2 ≤ rof u i.c := by rcases var h i.c with ⟨e, h0, _, _, h2⟩ | ⟨_, h2⟩ <;> omega
  split <;> rename_i hn <;> omega
/-- The two tests of an instruction agree. -/
theorem fits_step (h : Hds t u) (i : Ins) : (Bare i ∧ Fits t u i) ↔ Step t u i := by
  by_cases hop : i.op ∈ ([1, 2, 3, 4, 5, 6, 7, 8, 9, 10, 11, 12, 13, 14, 15, 16, 17, 18, 19, 20, 21, 22] : List Int)
  · unfold Step
    rw [named_iff hop]
    refine and_congr_right fun _ => ?_
    simp only [List.mem_cons, List.not_mem_nil, or_false] at hop
    have L1 := e_loads h i.a (e_rec h i.b i.c)
    have L2 := e_lays h i.b (e_rec h i.a i.c)
    have L3 := e_loads h i.a (e_arr h i.b)
    have L4 := e_lays h i.c (e_arr h i.a)
    have L5 := e_len h i.b
    have L6 := e_fresh h i
    have L7 := e_call h i
    have L8 := e_two h i
    have L9 := e_into h i.a i.b
    have La := e_num h i.a
    have Lb := e_num h i.b
    have Lc := e_num h i.c
    have Lr := e_ref h i.a
    have G1 := e_glob h i.a (A := fun g => Into (of u i.a) g) (B := fun g => RInto (rof u i.a) g) (fun g hg => e_intoL h i.a hg) i.n
    have G2 := e_glob h i.a (A := fun g => Into g (of u i.a)) (B := fun g => RInto g (rof u i.a)) (fun g hg => e_intoR h i.a hg) i.n
    have R : (u.result = -3 ∧ i.a = -1 ∨ u.result ≠ -3 ∧ Into u.result (of u i.a)) ↔ (if u.result = -3 then i.a = -1 else rof u i.a ≠ -4 ∧ RInto u.result (rof u i.a)) := by
      rcases h.res with hr | hr
      · rw [if_pos hr]; exact ⟨fun h => h.elim (fun h => h.2) (fun h => absurd hr h.1), fun h => .inl ⟨hr, h⟩⟩
      · have := ent hr
        rw [if_neg (by omega), ← e_intoR h i.a this.1]
        exact ⟨fun h => h.elim (fun h => by omega) (fun h => h.2), fun h => .inr ⟨by omega, h⟩⟩
    unfold Fits Goes
    rcases hop with e | e | e | e | e | e | e | e | e | e | e | e | e | e | e | e | e | e | e | e | e | e <;> simp only [e, reduceCtorEq, Int.reduceEq, or_false, or_true, false_or, true_or, if_true, if_false, or_self, ↓reduceIte] <;> first
      | exact La | exact Lr | exact L9 | exact L8 | exact L1 | exact L2 | exact L7 | exact R | exact G1 | exact G2 | exact Iff.rfl
      | (rw [La, Lb]; exact ⟨fun h => ⟨h.2.1, h.2.2, h.1⟩, fun h => ⟨h.2.2, h.1, h.2.1⟩⟩)
      | (rw [Lc, L3]; exact ⟨fun h => ⟨h.2.1, h.1, h.2.2⟩, fun h => ⟨h.2.1, h.1, h.2.2⟩⟩)
      | (rw [Lb, L4]; exact ⟨fun h => ⟨h.2.1, h.1, h.2.2⟩, fun h => ⟨h.2.1, h.1, h.2.2⟩⟩)
      | (rw [L5, La]; exact ⟨fun h => ⟨h.2, h.1⟩, fun h => ⟨h.2, h.1⟩⟩)
      | exact L6 false
      | (rw [L6 true, Lb]; exact ⟨fun h => ⟨h.1.1, h.1.2, h.2⟩, fun h => ⟨⟨h.1, h.2.1⟩, h.2.2⟩⟩)
      | (rw [La])
  · exact ⟨fun h => absurd (bare_op h.1) hop, fun h => absurd (step_op h) hop⟩
end
end Go.RtM
