import Derived.Test.YtomfpmbapdhbgaaGreatP7
import Derived.Test.YtomfpmbapdhbgaaGreatP20
import Derived.Test.YtomfpmbapdhbgaaGreatP30
import Derived.Test.YtomfpmbapdhbgaaGreatP31
/- The walk over the reference's behind of chapter 28. -/
namespace Go.Proofs.YtomfpmbapdhbgaaGreat
open Go Go.RR Go.RX Go.GX Go.Api Go.RiseM Go.ReachM Go.RtM Go.LivM
attribute [local irreducible] wpList Code.wp wpPlan Exit.then Exit.inBlock bodyPost NoPanic Went GX.Post GX.Again GX.Meet GX.RowR GX.Own GX.Owns GX.Box GX.Sl GX.Pt GX.Ag GX.MapR GX.Kept GX.Pin wpT GoK AtEnd Both
theorem rise_nodup {l : List Int} (h : Rise l) : l.Nodup := List.Pairwise.imp (fun h => by omega) h
theorem rise_subs : ∀ (m l : List Int), Rise l → (∀ x ∈ l, x ∈ m) → l.length ≤ m.length := by
  intro m l hl h
  have h1 : l.Nodup := rise_nodup hl
  have h2 : ∀ {a b : List Int}, a.Nodup → (∀ x ∈ a, x ∈ b) → a.length ≤ b.length := by
    intro a
    induction a with
    | nil => intro b _ _; simp
    | cons y a ih =>
      intro b hn hs
      rw [List.nodup_cons] at hn
      have hy := hs y (by simp)
      have := ih (b := b.erase y) hn.2 fun x hx => (List.mem_erase_of_ne (by rintro rfl; exact hn.1 hx)).2 (hs x (by simp [hx]))
      rw [List.length_erase_of_mem hy] at this
      have := List.length_pos_of_mem hy
      rw [List.length_cons]; omega
  exact h2 h1 h
/-- As many as both have: none is of both. -/
theorem both_len {a b : List Int} (ha : Rise a) (hb : Rise b) : (puts (a ++ b)).length = a.length + b.length ↔ ∀ c ∈ b, c ∉ a := by
  constructor
  · intro h c hcb hca
    have h1 : (puts (a ++ b)).length ≤ (a ++ b.erase c).length := rise_subs _ _ (puts_spec _).1 fun x hx => by
      rw [(puts_spec _).2, List.mem_append] at hx
      rw [List.mem_append]
      rcases hx with hx | hx
      · exact .inl hx
      · by_cases e : x = c
        · subst e; exact .inl hca
        · exact .inr ((List.mem_erase_of_ne e).2 hx)
    rw [List.length_append, List.length_erase_of_mem hcb] at h1
    have := List.length_pos_of_mem hcb
    omega
  · intro h
    have hn : (a ++ b).Nodup := List.nodup_append.2 ⟨rise_nodup ha, rise_nodup hb, fun x hx y hy e => h y hy (e ▸ hx)⟩
    have h1 := puts_le' (a ++ b)
    have h2 : (a ++ b).length ≤ (puts (a ++ b)).length := by
      have key : ∀ {a b : List Int}, a.Nodup → (∀ x ∈ a, x ∈ b) → a.length ≤ b.length := by
        intro a
        induction a with
        | nil => intro b _ _; simp
        | cons y a ih =>
          intro b hn hs
          rw [List.nodup_cons] at hn
          have hy := hs y (by simp)
          have := ih (b := b.erase y) hn.2 fun x hx => (List.mem_erase_of_ne (by rintro rfl; exact hn.1 hx)).2 (hs x (by simp [hx]))
          rw [List.length_erase_of_mem hy] at this
          have := List.length_pos_of_mem hy
          rw [List.length_cons]; omega
      exact key hn fun x hx => ((puts_spec _).2 x).2 hx
    rw [List.length_append] at h1 h2; omega
/-- As many less as there are: all of them are there. -/
theorem minus_len' {a b : List Int} (ha : Rise a) (hb : Rise b) : ((GuaM.minus a b).length : Int) = (a.length : Int) - (b.length : Int) ↔ ∀ c ∈ b, c ∈ a := by
  have h0 : (GuaM.minus a b).length + (a.filter fun x => decide (x ∈ b)).length = a.length := by
    unfold GuaM.minus
    induction a with
    | nil => rfl
    | cons x a ih =>
      have := ih (List.pairwise_cons.1 ha).2
      by_cases h : x ∈ b
      · rw [List.filter_cons_of_neg (by simpa using h), List.filter_cons_of_pos (by simpa using h), List.length_cons, List.length_cons]; omega
      · rw [List.filter_cons_of_pos (by simpa using h), List.filter_cons_of_neg (by simpa using h), List.length_cons, List.length_cons]; omega
  have hr : Rise (a.filter fun x => decide (x ∈ b)) := ha.filter _
  have hs : ∀ x ∈ a.filter (fun x => decide (x ∈ b)), x ∈ b := fun x hx => by simpa using (List.mem_filter.1 hx).2
  obtain ⟨h1, h2⟩ := GuaM.rise_subset b _ hr hb hs
  constructor
  · intro h c hc
    have e := h2 (by omega)
    rw [← e] at hc
    exact (List.mem_filter.1 hc).1
  · intro h
    have := rise_subs (a.filter fun x => decide (x ∈ b)) b hb fun x hx => List.mem_filter.2 ⟨h x hx, by simpa using hx⟩
    omega
/-- What a walk over an instruction asks of it and of the state. -/
structure BehOk (t : RTg) (k : Nat) (u : Unt) (x : Ins) (s : Api.State) : Prop where
  unit : t.units[k]? = some u
  small : Small t
  ok : InsOk t x
  args : x.args.length ≤ 10000
  rargs : x.op = 21 ∨ x.op = 22 → Rise x.args
  uses : ∀ n ∈ uses x, ∃ (j : Nat) (c : Int), n = (j : Int) ∧ u.vars[j]? = some c
  stale : ∀ n ∈ s.stale, ∀ (j : Nat) c, n = (j : Int) → u.vars[j]? = some c → c ≠ -2
  rl : Rise s.live
  rs : Rise s.stale
  ll : s.live.length ≤ 10000
  ls : s.stale.length ≤ 10000
  vars : u.vars.length ≤ 10000
  takes : u.takes.length ≤ 10000
  glob : (glob t).length ≤ 10000
  out : (out t k).length ≤ 10000
structure BehR (t : RTg) (k : Nat) (u : Unt) (x : Ins) (s : Api.State) where
  cs : List Value
  s' : Api.State
  r : Bool
  hr : r = decide (GuaM.Passes t k u x s)
  hs : r = true → s' = ⟨true, GuaM.alive x s.live, GuaM.staleOut u x s.stale⟩
def goS (u : Unt) (x : Ins) (s : Api.State) (i : Nat) : List Int := puts (s.stale ++ gonT u x i)
theorem goS_len (u : Unt) (x : Ins) (s : Api.State) (i : Nat) : (goS u x s i).length ≤ s.stale.length + i := by
  have h1 := puts_le' (s.stale ++ gonT u x i)
  have h2 := gonT_len u x i
  rw [List.length_append] at h1
  unfold goS; omega
theorem goS_succ {u : Unt} {x : Ins} {s : Api.State} {i : Nat} {c : Int} (hc : u.vars[i]? = some c) : goS u x s (i + 1) = if c ∈ x.args then put (goS u x s i) (i : Int) else goS u x s i := by
  unfold goS
  rw [gonT_succ hc]
  split
  · rw [← List.append_assoc, puts_snoc]
  · rw [List.append_nil]
theorem goS_zero {u : Unt} {x : Ins} {s : Api.State} (h : Rise s.stale) : goS u x s 0 = s.stale := by
  unfold goS gonT
  simp only [List.range_zero, List.filter_nil, List.map_nil, List.append_nil]
  exact rise_puts h
set_option maxHeartbeats 4000000 in
theorem behind_spec (bl : Nat) (v : WV) (t : RTg) (u : Unt) (k : Nat) (w : Value) (cx ss : List Value) (x : Ins) (s : Api.State) (h : BehOk t k u x s) :
    Does Tryz.prog 65 [.pointer (some ⟨bl, 0, none⟩), .agg cx.toArray, .agg ss.toArray] [Ag tyIns cx x, Ag tyState ss s, Sl tyLayout v.aC v.cC t.classes, Sl Ty.int v.aG v.cG t.globals, Sl tyUnt v.aU v.cU t.units, Sl Ty.int v.aL v.cL (glob t), Sl Ty.int v.aO v.cO (out t k), Sl (Ty.slice Ty.int) v.aX v.cX (outs t)] [RowR bl 69 [.slice v.aC t.classes.length v.cC, .slice v.aG t.globals.length v.cG, .slice v.aU t.units.length v.cU, .int .i64 t.main, .int .i64 k, .slice v.aL (glob t).length v.cL, .slice v.aO (out t k).length v.cO, .slice v.aX (outs t).length v.cX, w]]
      (fun q : BehR t k u x s => .tuple #[.agg q.cs.toArray, .bool q.r]) (fun q => [Ag tyState q.cs q.s']) (fun _ => [RowR bl 69 [.slice v.aC t.classes.length v.cC, .slice v.aG t.globals.length v.cG, .slice v.aU t.units.length v.cU, .int .i64 t.main, .int .i64 k, .slice v.aL (glob t).length v.cL, .slice v.aO (out t k).length v.cO, .slice v.aX (outs t).length v.cX, w]]) := by
  refine enter Tryz.func65 rfl Tryz.ntmps65 rfl fun b => ?_
  have hu := h.unit
  have hxa := h.args
  have hll := h.ll
  have hls := h.ls
  have hvl := h.vars
  have htl := h.takes
  have hgl := h.glob
  have hol := h.out
  have hul := uses_len x
  refine GX.wR ?_; intros
  refine GX.nmP 4 ?_; rintro b4 rfl
  refine GX.nmP 5 ?_; rintro b5 rfl
  refine GX.nmP 6 ?_; rintro b6 rfl
  refine GX.drawn1 (RowR bl 69 [.slice v.aC t.classes.length v.cC, .slice v.aG t.globals.length v.cG, .slice v.aU t.units.length v.cU, .int .i64 t.main, .int .i64 k, .slice v.aL (glob t).length v.cL, .slice v.aO (out t k).length v.cO, .slice v.aX (outs t).length v.cX, w]) (fun j => !(List.contains [12] j)) [(0, true), (1, true), (2, true), (3, true), (4, true), (5, true), (6, true), (7, true), (8, true), (9, true), (10, true), (11, false), (12, false)] rfl (by kernel_rfl) (by kernel_rfl) (by first | ((repeat (first | apply Go.GX.SelR.nil | apply Go.GX.SelR.cons | (with_reducible apply Go.GX.TakeR.head) | apply Go.GX.TakeR.tail)); done) | (repeat (first | apply Go.GX.SelR.nil | apply Go.GX.SelR.cons | apply Go.GX.TakeR.head | apply Go.GX.TakeR.tail))) ?_; intro wd F hW hR
  refine GX.wT ?_; intros
  refine GX.unpin (RowR bl 69 [.slice v.aC t.classes.length v.cC, .slice v.aG t.globals.length v.cG, .slice v.aU t.units.length v.cU, .int .i64 t.main, .int .i64 k, .slice v.aL (glob t).length v.cL, .slice v.aO (out t k).length v.cO, .slice v.aX (outs t).length v.cX, w]) ?_
  refine GX.nmP 8 ?_; rintro b8 rfl
  refine GX.wR ?_; intros
  refine frzB b8 ?_
  refine GX.nmA 25 ?_; rintro c25 rfl
  refine GX.o (cl (ruses_spec c25 x) fun q => ?_)
  obtain ⟨aQ, cQ⟩ := q
  dsimp only
  refine GX.wR ?_; intros
  refine GX.loop (σ := Nat) (fun i => [(0, .pointer (some ⟨bl, 0, none⟩)), (4, .pointer (some ⟨b4, 0, none⟩)), (5, .pointer (some ⟨b5, 0, none⟩)), (6, .pointer (some ⟨b6, 0, none⟩)), (8, .pointer (some ⟨b8, 0, none⟩)), (9, .slice aQ (uses x).length cQ), (10, .int .i64 (i : Int))]) (fun _ => []) (fun _ => [RowR bl 69 [.slice v.aC t.classes.length v.cC, .slice v.aG t.globals.length v.cG, .slice v.aU t.units.length v.cU, .int .i64 t.main, .int .i64 k, .slice v.aL (glob t).length v.cL, .slice v.aO (out t k).length v.cO, .slice v.aX (outs t).length v.cX, w], Box 48 tyState b6 ⟨false, [], []⟩])
    (fun i => i ≤ (uses x).length ∧ ∀ n ∈ (uses x).take i, n ∉ s.stale) (fun i => (uses x).length - i) 0 ⟨rfl, rfl, rfl, rfl, rfl, rfl, rfl, trivial⟩ ⟨by omega, by simp⟩ (fun i hi => ?_)
  obtain ⟨hi, hn⟩ := hi
  by_cases hlt : i < (uses x).length
  · obtain ⟨y, hy⟩ := get_lt hlt
    obtain ⟨j, c, rfl, hc⟩ := h.uses y (List.mem_of_getElem? hy)
    have hjl := (List.getElem?_eq_some_iff.1 hc).1
    have step : ((j : Nat) : Int) ∉ s.stale → ∀ n ∈ (uses x).take (i + 1), n ∉ s.stale := fun h2 n hn2 => by
      rw [List.take_add_one, hy, List.mem_append] at hn2
      rcases hn2 with hn2 | hn2
      · exact hn n hn2
      · simp at hn2; rw [hn2]; exact h2
    refine GX.wR ?_; intros
    refine GX.drawn0  (fun j => !(List.contains [16] j)) [(0, true), (1, true), (2, true), (3, true), (4, true), (5, true), (6, true), (7, true), (8, true), (9, true), (10, true), (11, true), (12, true), (13, true), (14, true), (15, true), (16, false), (17, true)] rfl (by kernel_rfl) (by kernel_rfl) (by first | ((repeat (first | apply Go.GX.SelR.nil | apply Go.GX.SelR.cons | (with_reducible apply Go.GX.TakeR.head) | apply Go.GX.TakeR.tail)); done) | (repeat (first | apply Go.GX.SelR.nil | apply Go.GX.SelR.cons | apply Go.GX.TakeR.head | apply Go.GX.TakeR.tail))) ?_; intro wd F hW hR
    by_cases hc2 : c = -2
    · subst hc2
      have hc3 : ¬ (((-2 : Int)) ≠ -2) := fun h => h rfl
      refine GX.wT ?_; intros
      refine GX.wR ?_; intros
      exact again (i + 1) ⟨rfl, rfl, rfl, rfl, rfl, rfl, rfl, trivial⟩ ⟨by omega, step fun h2 => h.stale _ h2 j _ rfl hc rfl⟩ (by omega)
    · refine GX.wT ?_; intros
      refine GX.nmS 44 ?_; rintro aS cS rfl rfl
      refine GX.gow ?_
      refine (cl (in_spec aS cS s.stale (j : Int)) fun _ => ?_)
      by_cases hin : (j : Int) ∈ s.stale
      · refine GX.wT ?_; intros
        refine GX.wR ?_; intros
        exact rt2B (fun cs => (⟨cs, s, false, (decide_eq_false fun h2 => h2.2 _ (List.mem_of_getElem? hy) hin).symm, fun h => by cases h⟩ : BehR t k u x s)) (fun _ => rfl)
      · refine GX.wT ?_; intros
        refine GX.wR ?_; intros
        exact again (i + 1) ⟨rfl, rfl, rfl, rfl, rfl, rfl, rfl, trivial⟩ ⟨by omega, step hin⟩ (by omega)
  have hU : ∀ n ∈ uses x, n ∉ s.stale := by rw [List.take_of_length_le (by omega)] at hn; exact hn
  have hP : GuaM.Passes t k u x s ↔ GuaM.CondL t k u x s.live := ⟨fun h => h.1, fun h => ⟨h, hU⟩⟩
  refine GX.wRB ?_; intros
  refine GX.nmP 11 ?_; rintro b11 rfl
  refine GX.cut (σ := Unit) (fun _ => [(0, .pointer (some ⟨bl, 0, none⟩)), (4, .pointer (some ⟨b4, 0, none⟩)), (6, .pointer (some ⟨b6, 0, none⟩)), (11, .pointer (some ⟨b11, 0, none⟩))]) (fun _ => [])
    (fun _ => [RowR bl 69 [.slice v.aC t.classes.length v.cC, .slice v.aG t.globals.length v.cG, .slice v.aU t.units.length v.cU, .int .i64 t.main, .int .i64 k, .slice v.aL (glob t).length v.cL, .slice v.aO (out t k).length v.cO, .slice v.aX (outs t).length v.cX, w], Box 48 tyState b6 ⟨false, [], []⟩, Box 48 tyState b11 ⟨true, GuaM.alive x s.live, puts (s.stale ++ GuaM.goneL u x)⟩]) (fun _ => GuaM.Passes t k u x s) ?_ (fun _ hpass => ?_)
  · by_cases e21 : x.op = 21
    · have hA : GuaM.alive x s.live = puts (s.live ++ x.args) := by unfold GuaM.alive; rw [if_pos e21]; rfl
      have hG : puts (s.stale ++ GuaM.goneL u x) = s.stale := by unfold GuaM.goneL; rw [if_neg (by omega), List.append_nil]; exact rise_puts h.rs
      have hC : GuaM.CondL t k u x s.live ↔ (∀ c ∈ x.args, c ∉ s.live) ∧ GuaM.Closed t k (puts (s.live ++ x.args)) := by unfold GuaM.CondL; rw [if_pos e21]; rfl
      have hpl := puts_le' (s.live ++ x.args)
      rw [List.length_append] at hpl
      have hbl := both_len h.rl (h.rargs (.inl e21))
      rw [hA, hG]
      refine GX.wR ?_; intros
      refine GX.nmS 62 ?_; rintro aL cL rfl rfl
      refine GX.nmS 64 ?_; rintro aR cR rfl rfl
      refine GX.o (cl (rboth_spec aL aR cL cR s.live x.args (by omega) (by omega)) fun q => ?_)
      obtain ⟨a6, c6⟩ := q
      dsimp only
      by_cases q : ((puts (s.live ++ x.args)).length : Int) = (s.live.length : Int) + (x.args.length : Int)
      · have q1 := hbl.1 (by omega)
        have q2 : ¬ (((puts (s.live ++ x.args)).length : Int) ≠ (s.live.length : Int) + (x.args.length : Int)) := fun h => h q
        refine GX.wRN ?_; intros
        dsimp only
        apply GX.region
        refine GX.wR ?_; intros
        refine GX.nmS 81 ?_; rintro a7 c7 rfl rfl
        refine GX.o (cl (rclosed_spec bl v t k w a7 c7 (puts (s.live ++ x.args)) h.small (by omega) (by omega) (by omega)) fun _ => ?_)
        by_cases hcl : GuaM.Closed t k (puts (s.live ++ x.args))
        · have hcl' : ¬ ¬ GuaM.Closed t k (puts (s.live ++ x.args)) := fun h => h hcl
          refine GX.wR ?_; intros
          exact meet () ⟨rfl, rfl, rfl, rfl, trivial⟩ (hP.2 (hC.2 ⟨q1, hcl⟩))
        · refine GX.wR ?_; intros
          exact rt2B (fun cs => (⟨cs, s, false, (decide_eq_false fun h2 => hcl (hC.1 (hP.1 h2)).2).symm, fun h => by cases h⟩ : BehR t k u x s)) (fun _ => rfl)
      · refine GX.wRN ?_; intros
        dsimp only
        apply GX.region
        refine GX.wR ?_; intros
        exact rt2B (fun cs => (⟨cs, s, false, (decide_eq_false fun h2 => q (by have := hbl.2 (hC.1 (hP.1 h2)).1; omega)).symm, fun h => by cases h⟩ : BehR t k u x s)) (fun _ => rfl)
    by_cases e22 : x.op = 22
    · have hA : GuaM.alive x s.live = GuaM.minus s.live x.args := by unfold GuaM.alive; rw [if_neg e21, if_pos e22]
      have hG : puts (s.stale ++ GuaM.goneL u x) = goS u x s u.vars.length := by unfold GuaM.goneL; rw [if_pos e22]; rfl
      have hC : GuaM.CondL t k u x s.live ↔ (∀ c ∈ x.args, c ∈ s.live) ∧ GuaM.Closed t k (GuaM.minus s.live x.args) := by unfold GuaM.CondL; rw [if_neg e21, if_pos e22]
      have hml : (GuaM.minus s.live x.args).length ≤ s.live.length := List.length_filter_le _ _
      have hbl := minus_len' h.rl (h.rargs (.inr e22))
      rw [hA, hG]
      refine GX.wR ?_; intros
      refine GX.nmS 89 ?_; rintro aL cL rfl rfl
      refine GX.nmS 91 ?_; rintro aR cR rfl rfl
      refine GX.o (cl (minus_spec aL aR cL cR s.live x.args (by omega)) fun q => ?_)
      obtain ⟨a6, c6⟩ := q
      rw [show minus s.live x.args = GuaM.minus s.live x.args from rfl]
      dsimp only
      refine frz a6 ?_
      by_cases q : ((GuaM.minus s.live x.args).length : Int) = (s.live.length : Int) - (x.args.length : Int)
      · have q1 := hbl.1 q
        have q2 : ¬ (((GuaM.minus s.live x.args).length : Int) ≠ (s.live.length : Int) - (x.args.length : Int)) := fun h => h q
        refine GX.wRN ?_; intros
        dsimp only
        apply GX.region
        refine GX.wR ?_; intros
        refine GX.nmS 108 ?_; rintro a7 c7 rfl rfl
        refine GX.o (cl (rclosed_spec bl v t k w a7 c7 (GuaM.minus s.live x.args) h.small (by omega) (by omega) (by omega)) fun _ => ?_)
        by_cases hcl : GuaM.Closed t k (GuaM.minus s.live x.args)
        · have hcl' : ¬ ¬ GuaM.Closed t k (GuaM.minus s.live x.args) := fun h => h hcl
          refine GX.wR ?_; intros
          rw [show (⟨true, GuaM.minus s.live x.args, s.stale⟩ : Api.State) = ⟨true, GuaM.minus s.live x.args, goS u x s 0⟩ by rw [goS_zero h.rs]]
          refine GX.loop (σ := Nat) (fun i => [(0, .pointer (some ⟨bl, 0, none⟩)), (4, .pointer (some ⟨b4, 0, none⟩)), (6, .pointer (some ⟨b6, 0, none⟩)), (8, .pointer (some ⟨b8, 0, none⟩)), (11, .pointer (some ⟨b11, 0, none⟩)), (12, .int .i64 (i : Int))]) (fun _ => [])
            (fun i => [RowR bl 69 [.slice v.aC t.classes.length v.cC, .slice v.aG t.globals.length v.cG, .slice v.aU t.units.length v.cU, .int .i64 t.main, .int .i64 k, .slice v.aL (glob t).length v.cL, .slice v.aO (out t k).length v.cO, .slice v.aX (outs t).length v.cX, w], Box 48 tyState b6 ⟨false, [], []⟩, Box 48 tyState b11 ⟨true, GuaM.minus s.live x.args, goS u x s i⟩])
            (fun i => i ≤ u.vars.length) (fun i => u.vars.length - i) 0 ⟨rfl, rfl, rfl, rfl, rfl, rfl, trivial⟩ (by omega) (fun i hi => ?_)
          by_cases hlt : i < u.vars.length
          · obtain ⟨c, hc⟩ := get_lt hlt
            have hsc := goS_succ (x := x) (s := s) hc
            have hgl := goS_len u x s i
            refine GX.wR ?_; intros
            refine GX.drawn0  (fun j => !(List.contains [7] j)) [(0, true), (1, true), (2, true), (3, true), (4, true), (5, true), (6, true), (7, false)] rfl (by kernel_rfl) (by kernel_rfl) (by first | ((repeat (first | apply Go.GX.SelR.nil | apply Go.GX.SelR.cons | (with_reducible apply Go.GX.TakeR.head) | apply Go.GX.TakeR.tail)); done) | (repeat (first | apply Go.GX.SelR.nil | apply Go.GX.SelR.cons | apply Go.GX.TakeR.head | apply Go.GX.TakeR.tail))) ?_; intro wd F hW hR
            refine GX.wT ?_; intros
            refine GX.nmS 121 ?_; rintro aA cA rfl rfl
            refine GX.gow ?_
            refine (cl (in_spec aA cA x.args c) fun _ => ?_)
            by_cases hca : c ∈ x.args
            · rw [if_pos hca] at hsc
              refine GX.wT ?_; intros
              refine GX.wR ?_; intros
              refine GX.nmS 129 ?_; rintro a9 c9 rfl rfl
              refine GX.o (cl (putw_spec a9 c9 (goS u x s i) (i : Int) (puts_spec _).1 (by omega)) fun q => ?_)
              obtain ⟨a10, c10⟩ := q
              dsimp only
              rw [← hsc]
              refine GX.wR ?_; intros
              exact again (i + 1) ⟨rfl, rfl, rfl, rfl, rfl, rfl, trivial⟩ (by omega) (by omega)
            · rw [if_neg hca] at hsc
              rw [← hsc]
              refine GX.wT ?_; intros
              refine GX.wR ?_; intros
              exact again (i + 1) ⟨rfl, rfl, rfl, rfl, rfl, rfl, trivial⟩ (by omega) (by omega)
          · have hil : i = u.vars.length := by omega
            subst hil
            refine GX.wR ?_; intros
            exact meet () ⟨rfl, rfl, rfl, rfl, trivial⟩ (hP.2 (hC.2 ⟨q1, hcl⟩))
        · refine GX.wR ?_; intros
          exact rt2B (fun cs => (⟨cs, s, false, (decide_eq_false fun h2 => hcl (hC.1 (hP.1 h2)).2).symm, fun h => by cases h⟩ : BehR t k u x s)) (fun _ => rfl)
      · refine GX.wRN ?_; intros
        dsimp only
        apply GX.region
        refine GX.wR ?_; intros
        exact rt2B (fun cs => (⟨cs, s, false, (decide_eq_false fun h2 => q (hbl.2 (hC.1 (hP.1 h2)).1)).symm, fun h => by cases h⟩ : BehR t k u x s)) (fun _ => rfl)
    have hA : GuaM.alive x s.live = s.live := by unfold GuaM.alive; rw [if_neg e21, if_neg e22]
    have hG : puts (s.stale ++ GuaM.goneL u x) = s.stale := by unfold GuaM.goneL; rw [if_neg e22, List.append_nil]; exact rise_puts h.rs
    rw [hA, hG]
    by_cases e11 : x.op = 11 ∨ x.op = 12
    · have hC : GuaM.CondL t k u x s.live ↔ x.n ∈ glob t ∨ x.n ∈ s.live ∨ x.n ∈ u.takes := by unfold GuaM.CondL; rw [if_neg e21, if_neg e22, if_pos e11]
      by_cases o11 : x.op = 11
      · refine GX.wR ?_; intros
        refine GX.drawn1 (RowR bl 69 [.slice v.aC t.classes.length v.cC, .slice v.aG t.globals.length v.cG, .slice v.aU t.units.length v.cU, .int .i64 t.main, .int .i64 k, .slice v.aL (glob t).length v.cL, .slice v.aO (out t k).length v.cO, .slice v.aX (outs t).length v.cX, w]) (fun j => !(List.contains [6, 13, 21] j)) [(0, true), (1, true), (2, true), (3, true), (4, true), (5, true), (6, false), (7, true), (8, true), (9, true), (10, true), (11, true), (12, true), (13, false), (14, true), (15, true), (16, true), (17, true), (18, true), (19, true), (20, true), (21, false), (22, true), (23, true)] rfl (by kernel_rfl) (by kernel_rfl) (by first | ((repeat (first | apply Go.GX.SelR.nil | apply Go.GX.SelR.cons | (with_reducible apply Go.GX.TakeR.head) | apply Go.GX.TakeR.tail)); done) | (repeat (first | apply Go.GX.SelR.nil | apply Go.GX.SelR.cons | apply Go.GX.TakeR.head | apply Go.GX.TakeR.tail))) ?_; intro wd F hW hR
        refine GX.wT ?_; intros
        refine GX.gow ?_
        refine (cl (in_spec v.aL v.cL (glob t) x.n) fun _ => ?_)
        by_cases m1 : x.n ∈ glob t
        · have m1' : ¬ ¬ x.n ∈ glob t := fun h => h m1
          refine GX.wT ?_; intros
          refine GX.unpin (RowR bl 69 [.slice v.aC t.classes.length v.cC, .slice v.aG t.globals.length v.cG, .slice v.aU t.units.length v.cU, .int .i64 t.main, .int .i64 k, .slice v.aL (glob t).length v.cL, .slice v.aO (out t k).length v.cO, .slice v.aX (outs t).length v.cX, w]) ?_
          refine GX.wR ?_; intros
          exact meet () ⟨rfl, rfl, rfl, rfl, trivial⟩ (hP.2 (hC.2 (.inl m1)))
        · refine GX.wT ?_; intros
          refine GX.nmS 146 ?_; rintro a146 c146 rfl rfl
          refine GX.gow ?_
          refine (cl (in_spec a146 c146 s.live x.n) fun _ => ?_)
          by_cases m2 : x.n ∈ s.live
          · have m2' : ¬ ¬ x.n ∈ s.live := fun h => h m2
            refine GX.wT ?_; intros
            refine GX.unpin (RowR bl 69 [.slice v.aC t.classes.length v.cC, .slice v.aG t.globals.length v.cG, .slice v.aU t.units.length v.cU, .int .i64 t.main, .int .i64 k, .slice v.aL (glob t).length v.cL, .slice v.aO (out t k).length v.cO, .slice v.aX (outs t).length v.cX, w]) ?_
            refine GX.wR ?_; intros
            exact meet () ⟨rfl, rfl, rfl, rfl, trivial⟩ (hP.2 (hC.2 (.inr (.inl m2))))
          · refine GX.wT ?_; intros
            refine GX.nmS 154 ?_; rintro a154 c154 rfl rfl
            refine GX.gow ?_
            refine (cl (in_spec a154 c154 u.takes x.n) fun _ => ?_)
            by_cases m3 : x.n ∈ u.takes
            · have m3' : ¬ ¬ x.n ∈ u.takes := fun h => h m3
              refine GX.wT ?_; intros
              refine GX.unpin (RowR bl 69 [.slice v.aC t.classes.length v.cC, .slice v.aG t.globals.length v.cG, .slice v.aU t.units.length v.cU, .int .i64 t.main, .int .i64 k, .slice v.aL (glob t).length v.cL, .slice v.aO (out t k).length v.cO, .slice v.aX (outs t).length v.cX, w]) ?_
              refine GX.wR ?_; intros
              exact meet () ⟨rfl, rfl, rfl, rfl, trivial⟩ (hP.2 (hC.2 (.inr (.inr m3))))
            · refine GX.wT ?_; intros
              refine GX.unpin (RowR bl 69 [.slice v.aC t.classes.length v.cC, .slice v.aG t.globals.length v.cG, .slice v.aU t.units.length v.cU, .int .i64 t.main, .int .i64 k, .slice v.aL (glob t).length v.cL, .slice v.aO (out t k).length v.cO, .slice v.aX (outs t).length v.cX, w]) ?_
              refine GX.wR ?_; intros
              exact rt2B (fun cs => (⟨cs, s, false, (decide_eq_false fun h2 => (hC.1 (hP.1 h2)).elim m1 (fun h => h.elim m2 m3)).symm, fun h => by cases h⟩ : BehR t k u x s)) (fun _ => rfl)
      · have o12 : x.op = 12 := e11.resolve_left o11
        refine GX.wR ?_; intros
        refine GX.drawn1 (RowR bl 69 [.slice v.aC t.classes.length v.cC, .slice v.aG t.globals.length v.cG, .slice v.aU t.units.length v.cU, .int .i64 t.main, .int .i64 k, .slice v.aL (glob t).length v.cL, .slice v.aO (out t k).length v.cO, .slice v.aX (outs t).length v.cX, w]) (fun j => !(List.contains [6, 13, 21] j)) [(0, true), (1, true), (2, true), (3, true), (4, true), (5, true), (6, false), (7, true), (8, true), (9, true), (10, true), (11, true), (12, true), (13, false), (14, true), (15, true), (16, true), (17, true), (18, true), (19, true), (20, true), (21, false), (22, true), (23, true)] rfl (by kernel_rfl) (by kernel_rfl) (by first | ((repeat (first | apply Go.GX.SelR.nil | apply Go.GX.SelR.cons | (with_reducible apply Go.GX.TakeR.head) | apply Go.GX.TakeR.tail)); done) | (repeat (first | apply Go.GX.SelR.nil | apply Go.GX.SelR.cons | apply Go.GX.TakeR.head | apply Go.GX.TakeR.tail))) ?_; intro wd F hW hR
        refine GX.wT ?_; intros
        refine GX.gow ?_
        refine (cl (in_spec v.aL v.cL (glob t) x.n) fun _ => ?_)
        by_cases m1 : x.n ∈ glob t
        · have m1' : ¬ ¬ x.n ∈ glob t := fun h => h m1
          refine GX.wT ?_; intros
          refine GX.unpin (RowR bl 69 [.slice v.aC t.classes.length v.cC, .slice v.aG t.globals.length v.cG, .slice v.aU t.units.length v.cU, .int .i64 t.main, .int .i64 k, .slice v.aL (glob t).length v.cL, .slice v.aO (out t k).length v.cO, .slice v.aX (outs t).length v.cX, w]) ?_
          refine GX.wR ?_; intros
          exact meet () ⟨rfl, rfl, rfl, rfl, trivial⟩ (hP.2 (hC.2 (.inl m1)))
        · refine GX.wT ?_; intros
          refine GX.nmS 146 ?_; rintro a146 c146 rfl rfl
          refine GX.gow ?_
          refine (cl (in_spec a146 c146 s.live x.n) fun _ => ?_)
          by_cases m2 : x.n ∈ s.live
          · have m2' : ¬ ¬ x.n ∈ s.live := fun h => h m2
            refine GX.wT ?_; intros
            refine GX.unpin (RowR bl 69 [.slice v.aC t.classes.length v.cC, .slice v.aG t.globals.length v.cG, .slice v.aU t.units.length v.cU, .int .i64 t.main, .int .i64 k, .slice v.aL (glob t).length v.cL, .slice v.aO (out t k).length v.cO, .slice v.aX (outs t).length v.cX, w]) ?_
            refine GX.wR ?_; intros
            exact meet () ⟨rfl, rfl, rfl, rfl, trivial⟩ (hP.2 (hC.2 (.inr (.inl m2))))
          · refine GX.wT ?_; intros
            refine GX.nmS 154 ?_; rintro a154 c154 rfl rfl
            refine GX.gow ?_
            refine (cl (in_spec a154 c154 u.takes x.n) fun _ => ?_)
            by_cases m3 : x.n ∈ u.takes
            · have m3' : ¬ ¬ x.n ∈ u.takes := fun h => h m3
              refine GX.wT ?_; intros
              refine GX.unpin (RowR bl 69 [.slice v.aC t.classes.length v.cC, .slice v.aG t.globals.length v.cG, .slice v.aU t.units.length v.cU, .int .i64 t.main, .int .i64 k, .slice v.aL (glob t).length v.cL, .slice v.aO (out t k).length v.cO, .slice v.aX (outs t).length v.cX, w]) ?_
              refine GX.wR ?_; intros
              exact meet () ⟨rfl, rfl, rfl, rfl, trivial⟩ (hP.2 (hC.2 (.inr (.inr m3))))
            · refine GX.wT ?_; intros
              refine GX.unpin (RowR bl 69 [.slice v.aC t.classes.length v.cC, .slice v.aG t.globals.length v.cG, .slice v.aU t.units.length v.cU, .int .i64 t.main, .int .i64 k, .slice v.aL (glob t).length v.cL, .slice v.aO (out t k).length v.cO, .slice v.aX (outs t).length v.cX, w]) ?_
              refine GX.wR ?_; intros
              exact rt2B (fun cs => (⟨cs, s, false, (decide_eq_false fun h2 => (hC.1 (hP.1 h2)).elim m1 (fun h => h.elim m2 m3)).symm, fun h => by cases h⟩ : BehR t k u x s)) (fun _ => rfl)
    by_cases e13 : x.op = 13
    · have hC : GuaM.CondL t k u x s.live ↔ GuaM.CallC t k u x s.live := by unfold GuaM.CondL; rw [if_neg e21, if_neg e22, if_neg (by omega), if_pos e13]
      obtain ⟨j, g, hj, hg2⟩ := h.ok.call e13
      have hjl := (List.getElem?_eq_some_iff.1 hg2).1
      have hoj := outs_get hjl
      have hgt : gt t.units x.c = some g := by rw [hj, gt_nat]; exact hg2
      have hC2 : GuaM.CallC t k u x s.live ↔ (∀ c ∈ out t (j : Int), c ∈ sightL t k s.live) ∧ ∀ c ∈ g.takes, c ∈ puts (s.live ++ u.takes) := by
        unfold GuaM.CallC
        rw [hj] at hgt ⊢
        constructor
        · rintro ⟨h1, h2⟩
          exact ⟨fun c hc => sight_mem.2 (h1 c hc), fun c hc => ((puts_spec _).2 c).2 (List.mem_append.2 (h2 g hgt c hc))⟩
        · rintro ⟨h1, h2⟩
          refine ⟨fun c hc => sight_mem.1 (h1 c hc), fun g' hg' c hc => ?_⟩
          rw [hgt] at hg'
          cases hg'
          exact List.mem_append.1 (((puts_spec _).2 c).1 (h2 c hc))
      refine GX.wR ?_; intros
      refine GX.drawn1 (RowR bl 69 [.slice v.aC t.classes.length v.cC, .slice v.aG t.globals.length v.cG, .slice v.aU t.units.length v.cU, .int .i64 t.main, .int .i64 k, .slice v.aL (glob t).length v.cL, .slice v.aO (out t k).length v.cO, .slice v.aX (outs t).length v.cX, w]) (fun j => !(List.contains [10] j)) [(0, true), (1, true), (2, true), (3, true), (4, true), (5, true), (6, true), (7, true), (8, true), (9, false), (10, false)] rfl (by kernel_rfl) (by kernel_rfl) (by first | ((repeat (first | apply Go.GX.SelR.nil | apply Go.GX.SelR.cons | (with_reducible apply Go.GX.TakeR.head) | apply Go.GX.TakeR.tail)); done) | (repeat (first | apply Go.GX.SelR.nil | apply Go.GX.SelR.cons | apply Go.GX.TakeR.head | apply Go.GX.TakeR.tail))) ?_; intro wd F hW hR
      refine GX.wT ?_; intros
      refine GX.unpin (RowR bl 69 [.slice v.aC t.classes.length v.cC, .slice v.aG t.globals.length v.cG, .slice v.aU t.units.length v.cU, .int .i64 t.main, .int .i64 k, .slice v.aL (glob t).length v.cL, .slice v.aO (out t k).length v.cO, .slice v.aX (outs t).length v.cX, w]) ?_
      refine GX.nmP 13 ?_; rintro b13 rfl
      refine GX.wR ?_; intros
      refine frzB b13 ?_
      refine GX.drawnE [RowR bl 69 [.slice v.aC t.classes.length v.cC, .slice v.aG t.globals.length v.cG, .slice v.aU t.units.length v.cU, .int .i64 t.main, .int .i64 k, .slice v.aL (glob t).length v.cL, .slice v.aO (out t k).length v.cO, .slice v.aX (outs t).length v.cX, w]] (fun j => !(List.contains [12, 22] j)) [(0, true), (1, true), (2, true), (3, true), (4, true), (5, true), (6, true), (7, true), (8, true), (9, true), (10, true), (11, false), (12, false), (13, true), (14, true), (15, true), (16, true), (17, true), (18, true), (19, true), (20, true), (21, false), (22, false), (23, true), (24, true)] rfl (by kernel_rfl) (by kernel_rfl) (by first | ((repeat (first | apply Go.GX.SelR.nil | apply Go.GX.SelR.cons | (with_reducible apply Go.GX.TakeR.head) | apply Go.GX.TakeR.tail)); done) | (repeat (first | apply Go.GX.SelR.nil | apply Go.GX.SelR.cons | apply Go.GX.TakeR.head | apply Go.GX.TakeR.tail))) ?_; intro wd F hW hR
      refine GX.wT ?_; intros
      refine GX.nmS 179 ?_; rintro a179 c179 rfl rfl
      refine GX.nmS 182 ?_; rintro a182 c182 rfl rfl
      refine GX.gow ?_
      refine (cl (rsight_spec bl v t k w a182 c182 s.live (by omega) (by omega) (by omega)) fun q => ?_)
      obtain ⟨a183, c183⟩ := q
      dsimp only
      refine GX.wT ?_; intros
      refine GX.gow ?_
      refine (cl (all2_spec a179 a183 c179 c183 (out t (j : Int)) (sightL t k s.live)) fun _ => ?_)
      by_cases m1 : ∀ c ∈ out t (j : Int), c ∈ sightL t k s.live
      · have m1' : ¬ ¬ ∀ c ∈ out t (j : Int), c ∈ sightL t k s.live := fun h => h m1
        refine GX.wT ?_; intros
        refine GX.nmS 188 ?_; rintro a188 c188 rfl rfl
        refine GX.nmS 190 ?_; rintro a190 c190 rfl rfl
        refine GX.nmS 192 ?_; rintro a192 c192 rfl rfl
        refine GX.gow ?_
        refine (cl (rboth_spec a190 a192 c190 c192 s.live u.takes (by omega) (by omega)) fun q => ?_)
        obtain ⟨a193, c193⟩ := q
        dsimp only
        refine GX.wT ?_; intros
        refine GX.gow ?_
        refine (cl (all2_spec a188 a193 c188 c193 g.takes (puts (s.live ++ u.takes))) fun _ => ?_)
        by_cases m2 : ∀ c ∈ g.takes, c ∈ puts (s.live ++ u.takes)
        · have m2' : ¬ ¬ ∀ c ∈ g.takes, c ∈ puts (s.live ++ u.takes) := fun h => h m2
          refine GX.wT ?_; intros
          refine GX.wR ?_; intros
          exact meet () ⟨rfl, rfl, rfl, rfl, trivial⟩ (hP.2 (hC.2 (hC2.2 ⟨m1, m2⟩)))
        · refine GX.wT ?_; intros
          refine GX.wR ?_; intros
          exact rt2B (fun cs => (⟨cs, s, false, (decide_eq_false fun h2 => m2 (hC2.1 (hC.1 (hP.1 h2))).2).symm, fun h => by cases h⟩ : BehR t k u x s)) (fun _ => rfl)
      · refine GX.wT ?_; intros
        refine GX.wR ?_; intros
        exact rt2B (fun cs => (⟨cs, s, false, (decide_eq_false fun h2 => m1 (hC2.1 (hC.1 (hP.1 h2))).1).symm, fun h => by cases h⟩ : BehR t k u x s)) (fun _ => rfl)
    by_cases e18 : x.op = 18
    · have hC : GuaM.CondL t k u x s.live ↔ s.live = [] := by unfold GuaM.CondL; rw [if_neg e21, if_neg e22, if_neg (by omega), if_neg e13, if_pos e18]
      by_cases h0 : (0 : Int) < (s.live.length : Int)
      · refine GX.wR ?_; intros
        exact rt2B (fun cs => (⟨cs, s, false, (decide_eq_false fun h2 => by have := hC.1 (hP.1 h2); rw [this] at h0; simp at h0).symm, fun h => by cases h⟩ : BehR t k u x s)) (fun _ => rfl)
      · refine GX.wR ?_; intros
        exact meet () ⟨rfl, rfl, rfl, rfl, trivial⟩ (hP.2 (hC.2 (List.length_eq_zero_iff.1 (by omega))))
    · have hC : GuaM.CondL t k u x s.live ↔ True := by unfold GuaM.CondL; rw [if_neg e21, if_neg e22, if_neg e11, if_neg e13, if_neg e18]
      have n11 : ¬ x.op = 11 := fun h => e11 (.inl h)
      have n12 : ¬ x.op = 12 := fun h => e11 (.inr h)
      refine GX.wR ?_; intros
      exact meet () ⟨rfl, rfl, rfl, rfl, trivial⟩ (hP.2 (hC.2 trivial))
  have hg1 := GuaM.goneL_rise u x
  have hpl := puts_le' (s.stale ++ GuaM.goneL u x)
  have hgon : (GuaM.goneL u x).length ≤ u.vars.length := by
    unfold GuaM.goneL
    split
    · exact gonT_len u x u.vars.length
    · simp
  rw [List.length_append] at hpl
  refine GX.wR ?_; intros
  refine GX.drawn1 (Box 48 tyState b11 ⟨true, GuaM.alive x s.live, puts (s.stale ++ GuaM.goneL u x)⟩) (fun j => !(List.contains [5, 7] j)) [(0, true), (1, true), (2, true), (3, false), (4, false), (5, false), (6, true), (7, false)] rfl (by kernel_rfl) (by kernel_rfl) (by first | ((repeat (first | apply Go.GX.SelR.nil | apply Go.GX.SelR.cons | (with_reducible apply Go.GX.TakeR.head) | apply Go.GX.TakeR.tail)); done) | (repeat (first | apply Go.GX.SelR.nil | apply Go.GX.SelR.cons | apply Go.GX.TakeR.head | apply Go.GX.TakeR.tail))) ?_; intro wd F hW hR
  refine GX.wT ?_; intros
  refine GX.nmS 206 ?_; rintro a206 c206 rfl rfl
  refine GX.nmA 207 ?_; rintro c207 rfl
  refine GX.gow ?_
  refine (cl (rdef_spec c207 x) fun _ => ?_)
  refine GX.wT ?_; intros
  refine GX.nmB 209 ?_; rintro b209 rfl
  refine GX.gow ?_
  refine (cl (minus_spec a206 (some ⟨b209, 0, none⟩) c206 1 (puts (s.stale ++ GuaM.goneL u x)) [def_ x] (by omega)) fun q => ?_)
  obtain ⟨a210, c210⟩ := q
  rw [show minus (puts (s.stale ++ GuaM.goneL u x)) [def_ x] = GuaM.staleOut u x s.stale from rfl]
  dsimp only
  refine frz a210 ?_
  refine GX.wT ?_; intros
  refine GX.unpin (Box 48 tyState b11 ⟨true, GuaM.alive x s.live, puts (s.stale ++ GuaM.goneL u x)⟩) ?_
  refine GX.wT ?_; intros
  refine GX.wR ?_; intros
  exact rt2B (fun cs => (⟨cs, ⟨true, GuaM.alive x s.live, GuaM.staleOut u x s.stale⟩, true, (decide_eq_true hpass).symm, fun _ => rfl⟩ : BehR t k u x s)) (fun _ => rfl)
end Go.Proofs.YtomfpmbapdhbgaaGreat

/- A row that was given away and is as it was is pinned again. No program in sight. -/
namespace Go.GX
open Go Go.RowKit Go.RR Go.RX
section
variable {n : Nat} {env : Env} {b : Base} {ps : List Pf} {hp hpS : List Res} {K : Act → World → Prop} {wd : World} {F : Nat → Prop}
theorem repin (r : Res) {rest : List Res} [he : Exact r] (h : G n env b ps (Pin wd r :: rest) K) (hR : AllR F wd hpS := by assumption) (hm : r ∈ hpS := by simp)
    (h1 : AllIn [Kept wd F] ps := by repeat (first | apply Go.GX.AllIn.nil | apply Go.GX.AllIn.cons | (with_reducible apply Go.GX.InP.head) | apply Go.GX.InP.tail))
    (h2 : TakeR r hp rest := by repeat (first | (with_reducible apply Go.GX.TakeR.head) | apply Go.GX.TakeR.tail)) : G n env b ps hp K := by
  constructor
  rintro w ⟨F', s⟩
  have s := s.perm h2.perm
  obtain ⟨k1, _⟩ : (Kept wd F).says F' w := s.fs _ (h1.sub _ (by simp))
  refine h.run w ⟨F', s.upd, s.lt, s.old, s.fs, ?_, ?_, ?_, ?_⟩
  · intro q hq
    rcases List.mem_cons.1 hq with rfl | hq
    · exact ⟨s.rs r List.mem_cons_self, k1.size, fun k hk hk' => he.ex (hR r hm) (s.rs r List.mem_cons_self) k hk'⟩
    · exact s.rs q (List.mem_cons_of_mem _ hq)
  · intro q hq
    rcases List.mem_cons.1 hq with rfl | hq
    · exact s.apF r List.mem_cons_self
    · exact s.apF q (List.mem_cons_of_mem _ hq)
  · have := List.pairwise_cons.1 s.apart
    exact List.pairwise_cons.2 ⟨this.1, this.2⟩
  · intro q hq
    rcases List.mem_cons.1 hq with rfl | hq
    · exact s.on r List.mem_cons_self
    · exact s.on q (List.mem_cons_of_mem _ hq)
end
end Go.GX
