import Derived.Test.YtomfpmbapdhbgaaGreatP10
import Derived.RangeFuncBox
import Derived.RangeFuncLeaves
import Derived.Shelf.Abstract
import Derived.WalkKit
import Derived.OwnWalkIn
import Derived.TacticsInMore
import Derived.LoopNIn
import Derived.LoopIn
import Derived.Maps.AppendAt
import Derived.Test.YtomfpmbapdhbgaaGreatProg
import Derived.Shelf.Sort.Plain
import Derived.Ground.Names2Prog
import Derived.Shelf.Slices.CompactI
import Derived.Shelf.Slices.Cells
import Derived.Shelf.Slices.In.SortNone
/- Whether a unit that is written down is accepted, by going through it; the reference's rounds. No program in sight. -/
namespace Go.GuaM
open Go.RiseM Go.Api Go.FlowM Go.LivM Go.ReachM Go.RtM

/-! ### Rounds -/
/-- In the midst of a round: at an instruction. -/
structure Rnd (t : RTg) (k : Int) (u : Unt) (w0 : Nat) (more : Bool) (S : List Api.State) (i : Nat) : Prop where
  snd : Snd u S
  cov : Cov S 0 [] []
  done : more = false → ∀ j, j < i → Done t k u S j
  less : if more = true then w0 < wsum S else wsum S = w0
/-- In the midst of an instruction's: at one that is next. -/
structure RndN (t : RTg) (k : Int) (u : Unt) (w0 : Nat) (s : Api.State) (x : Ins) (more : Bool) (S : List Api.State) (i m : Nat) : Prop where
  rnd : Rnd t k u w0 more S i
  here : more = false → S[i]? = some s
  covs : more = false → ∀ j : Nat, (j : Int) ∈ (next u.ins i).take m → Cov S j (alive x s.live) (staleOut u x s.stale)
theorem Rnd.begin {t : RTg} {k : Int} {u : Unt} {S : List Api.State} (h1 : Snd u S) (h2 : Cov S 0 [] []) : Rnd t k u (wsum S) false S 0 := ⟨h1, h2, fun _ j hj => absurd hj (Nat.not_lt_zero _), by simp⟩
theorem Rnd.pass {t : RTg} {k : Int} {u : Unt} {w0 : Nat} {more : Bool} {S : List Api.State} {i : Nat} {s : Api.State} (h : Rnd t k u w0 more S i) (hs : S[i]? = some s) (hm : s.met = false) : Rnd t k u w0 more S (i + 1) :=
  ⟨h.snd, h.cov, fun e j hj => by
    rcases Nat.lt_succ_iff_lt_or_eq.1 hj with h1 | rfl
    · exact h.done e j h1
    · exact done_un fun s' hs' => by rw [hs] at hs'; cases hs'; exact hm, h.less⟩
theorem Rnd.go {t : RTg} {k : Int} {u : Unt} {w0 : Nat} {more : Bool} {S : List Api.State} {i : Nat} {s : Api.State} (x : Ins) (h : Rnd t k u w0 more S i) (hs : S[i]? = some s) : RndN t k u w0 s x more S i 0 := ⟨h, fun _ => hs, fun _ j hj => by simp at hj⟩
theorem RndN.fin {t : RTg} {k : Int} {u : Unt} {w0 : Nat} {s : Api.State} {x : Ins} {more : Bool} {S : List Api.State} {i m : Nat} (h : RndN t k u w0 s x more S i m) (hm : (next u.ins i).length ≤ m) (hx : u.ins[i]? = some x) (hp : Passes t k u x s) : Rnd t k u w0 more S (i + 1) :=
  ⟨h.rnd.snd, h.rnd.cov, fun e j hj => by
    rcases Nat.lt_succ_iff_lt_or_eq.1 hj with h1 | rfl
    · exact h.rnd.done e j h1
    · intro s' x' hs' _ hx'
      rw [h.here e] at hs'; cases hs'
      rw [hx] at hx'; cases hx'
      refine ⟨hp, fun j' hj' => h.covs e j' ?_⟩
      rw [List.take_of_length_le hm]; exact hj', h.rnd.less⟩
theorem RndN.same {t : RTg} {k : Int} {u : Unt} {w0 : Nat} {s : Api.State} {x : Ins} {more : Bool} {S : List Api.State} {i m j : Nat} {o : Api.State} (h : RndN t k u w0 s x more S i m) (hj : (next u.ins i)[m]? = some (j : Int)) (ho : S[j]? = some o) (hm : o.met = true) (hl : o.live = alive x s.live) (he : (both (staleOut u x s.stale) o.stale).length = o.stale.length) : RndN t k u w0 s x more S i (m + 1) :=
  ⟨h.rnd, h.here, fun e j' hj' => by
    rw [List.take_add_one, hj, List.mem_append] at hj'
    rcases hj' with hj' | hj'
    · exact h.covs e j' hj'
    · have : j' = j := by simp at hj'; omega
      subst this
      exact ⟨o, ho, hm, hl, both_same (h.rnd.snd.rl j' o ho).2 he⟩⟩
theorem RndN.lay {t : RTg} {k : Int} {u : Unt} {w0 : Nat} {s : Api.State} {x : Ins} {more : Bool} {S : List Api.State} {i m j : Nat} {o : Api.State} (h : RndN t k u w0 s x more S i m) (ho : S[j]? = some o) (hl : o.met = true → o.live = alive x s.live) (hA : At u j (alive x s.live)) (hst : ∀ v ∈ staleOut u x s.stale, St u j v)
    (hn : ¬ (o.met = true ∧ (both (staleOut u x s.stale) o.stale).length = o.stale.length)) : RndN t k u w0 s x true (S.set j (GuaM.lay (alive x s.live) (staleOut u x s.stale) o)) i (m + 1) := by
  refine ⟨⟨snd_lay h.rnd.snd ho hA hst, cov_lay ho hl h.rnd.cov, fun e => (by cases e), ?_⟩, fun e => (by cases e), fun e => (by cases e)⟩
  rw [if_pos rfl]
  have h1 := wgt_lay (L := alive x s.live) (h.rnd.snd.rl j o ho).2 hn
  have h2 := wsum_set (s := GuaM.lay (alive x s.live) (staleOut u x s.stale) o) ho
  have h3 := h.rnd.less
  split at h3 <;> omega
theorem Rnd.acc {t : RTg} {k : Int} {u : Unt} {w0 : Nat} {S : List Api.State} (h : Rnd t k u w0 false S u.ins.length) : AccU t k u := by
  refine acc_of_done h.cov fun i => ?_
  by_cases hi : i < u.ins.length
  · exact h.done rfl i hi
  · intro s x hs _ _
    have := (List.getElem?_eq_some_iff.1 hs).1
    rw [h.snd.len] at this; exact absurd this hi
/-- The states at first. -/
def first (u : Unt) : List Api.State := (List.replicate u.ins.length (⟨false, [], []⟩ : Api.State)).set 0 ⟨true, [], []⟩
theorem snd_first (u : Unt) : Snd u (first u) := by
  have hS : ∀ (i : Nat) s, (first u)[i]? = some s → i = 0 ∧ s = ⟨true, [], []⟩ ∨ s = ⟨false, [], []⟩ := fun i s hs => by
    unfold first at hs
    by_cases e : 0 = i
    · subst e
      have hl := (List.getElem?_eq_some_iff.1 hs).1
      rw [List.length_set] at hl
      rw [List.getElem?_set_self hl] at hs
      cases hs; exact .inl ⟨rfl, rfl⟩
    · rw [List.getElem?_set_ne e] at hs
      exact .inr (List.eq_of_mem_replicate (List.mem_of_getElem? hs))
  refine ⟨by simp [first], fun i s hs hm => ?_, fun i s hs hm => ?_, fun i s hs => ?_⟩
  · rcases hS i s hs with ⟨rfl, rfl⟩ | rfl
    · exact ⟨.zero, by simp⟩
    · cases hm
  · rcases hS i s hs with ⟨rfl, rfl⟩ | rfl
    · cases hm
    · exact ⟨rfl, rfl⟩
  · rcases hS i s hs with ⟨rfl, rfl⟩ | rfl
    · exact ⟨List.Pairwise.nil, List.Pairwise.nil⟩
    · exact ⟨List.Pairwise.nil, List.Pairwise.nil⟩
theorem cov_first {u : Unt} (hn : u.ins ≠ []) : Cov (first u) 0 [] [] :=
  ⟨⟨true, [], []⟩, List.getElem?_set_self (by simpa using List.length_pos_iff.2 hn), rfl, rfl, by simp⟩

/-! ### Going through a unit that is written down -/
section
variable (cB : Ins → List Int → Bool) (u : Unt)
def layB (S : List Api.State) (L st : List Int) (j : Nat) : Option (List Api.State) :=
  match S[j]? with
  | none => some S
  | some o => if o.met = true ∧ o.live ≠ L then none else some (S.set j (lay L st o))
def laysB (L st : List Int) : List Nat → List Api.State → Option (List Api.State)
  | [], S => some S
  | j :: l, S => (layB S L st j).bind (laysB L st l)
def passB (x : Ins) (s : Api.State) : Bool := cB x s.live && decide (∀ v ∈ uses x, v ∉ s.stale)
def oneB (S : List Api.State) (i : Nat) : Option (List Api.State) :=
  match S[i]?, u.ins[i]? with
  | some s, some x => if s.met = true then (if passB cB x s = true then laysB (alive x s.live) (staleOut u x s.stale) ((next u.ins i).map Int.toNat) S else none) else some S
  | _, _ => some S
def roundB : List Nat → List Api.State → Option (List Api.State)
  | [], S => some S
  | i :: l, S => (oneB cB u S i).bind (roundB l)
def covB (S : List Api.State) (L st : List Int) (j : Nat) : Bool := match S[j]? with | none => false | some o => o.met && decide (o.live = L) && decide (∀ v ∈ st, v ∈ o.stale)
def chkB (S : List Api.State) : Bool := covB S [] [] 0 && (List.range u.ins.length).all fun i => match S[i]?, u.ins[i]? with
  | some s, some x => !s.met || passB cB x s && ((next u.ins i).map Int.toNat).all (covB S (alive x s.live) (staleOut u x s.stale))
  | _, _ => true
/-- Some: it is known. -/
def simB : Nat → List Api.State → Option (Bool × List Api.State)
  | 0, S => if chkB cB u S = true then some (true, S) else none
  | n + 1, S => match roundB cB u (List.range u.ins.length) S with
    | none => some (false, [])
    | some S => simB n S
end
section
variable {cB : Ins → List Int → Bool} {u : Unt} {t : RTg} {k : Int}
theorem next_nat {i j : Nat} (h : j ∈ (next u.ins i).map Int.toNat) : (j : Int) ∈ next u.ins i := by
  obtain ⟨y, hy, rfl⟩ := List.mem_map.1 h
  have := (next_in hy).1
  rwa [Int.toNat_of_nonneg this.1]
theorem lays_snd {L st : List Int} : ∀ (l : List Nat) (S : List Api.State), Snd u S → (∀ j ∈ l, At u j L ∧ ∀ v ∈ st, St u j v) → match laysB L st l S with | some S' => Snd u S' | none => ¬ AccU t k u
  | [], S, h, _ => h
  | j :: l, S, h, hj => by
    unfold laysB
    cases ho : S[j]? with
    | none =>
      have e : layB S L st j = some S := by unfold layB; rw [ho]
      rw [e, Option.bind_some]
      exact lays_snd l S h fun j' hj' => hj j' (by simp [hj'])
    | some o =>
      obtain ⟨h1, h2⟩ := hj j (by simp)
      by_cases hc : o.met = true ∧ o.live ≠ L
      · have e : layB S L st j = none := by unfold layB; rw [ho]; exact if_pos hc
        rw [e, Option.bind_none]
        exact not_live h ho hc.1 h1 hc.2
      · have e : layB S L st j = some (S.set j (lay L st o)) := by unfold layB; rw [ho]; exact if_neg hc
        rw [e, Option.bind_some]
        exact lays_snd l _ (snd_lay h ho h1 h2) fun j' hj' => hj j' (by simp [hj'])
theorem one_snd (hc : ∀ x ∈ u.ins, ∀ L, CondL t k u x L ↔ cB x L = true) (S : List Api.State) (i : Nat) (h : Snd u S) : match oneB cB u S i with | some S' => Snd u S' | none => ¬ AccU t k u := by
  unfold oneB
  cases hs : S[i]? with
  | none => exact h
  | some s =>
    cases hx : u.ins[i]? with
    | none => exact h
    | some x =>
      dsimp only
      by_cases hm : s.met = true
      · rw [if_pos hm]
        by_cases hp : passB cB x s = true
        · rw [if_pos hp]
          exact lays_snd _ S h fun j hj => out_at h hs hm hx (next_nat hj)
        · rw [if_neg hp]
          refine not_passes h hs hm hx fun h2 => hp ?_
          unfold passB
          rw [Bool.and_eq_true, decide_eq_true_iff, ← hc x (List.mem_of_getElem? hx)]
          exact h2
      · rw [if_neg hm]; exact h
theorem round_snd (hc : ∀ x ∈ u.ins, ∀ L, CondL t k u x L ↔ cB x L = true) : ∀ (l : List Nat) (S : List Api.State), Snd u S → match roundB cB u l S with | some S' => Snd u S' | none => ¬ AccU t k u
  | [], S, h => h
  | i :: l, S, h => by
    have h1 := one_snd hc S i h
    unfold roundB
    cases e : oneB cB u S i with
    | none => rw [e] at h1; exact h1
    | some S' => rw [e] at h1; rw [Option.bind_some]; exact round_snd hc l S' h1
theorem cov_of {S : List Api.State} {L st : List Int} {j : Nat} (h : covB S L st j = true) : Cov S j L st := by
  unfold covB at h
  split at h
  · cases h
  · rename_i o ho
    rw [Bool.and_eq_true, Bool.and_eq_true, decide_eq_true_iff, decide_eq_true_iff] at h
    exact ⟨o, ho, h.1.1, h.1.2, h.2⟩
theorem chk_acc (hc : ∀ x ∈ u.ins, ∀ L, CondL t k u x L ↔ cB x L = true) {S : List Api.State} (h : chkB cB u S = true) : Cov S 0 [] [] ∧ ∀ i, Done t k u S i := by
  unfold chkB at h
  rw [Bool.and_eq_true, List.all_eq_true] at h
  refine ⟨cov_of h.1, fun i s x hs hm hx => ?_⟩
  have h2 := h.2 i (List.mem_range.2 (List.getElem?_eq_some_iff.1 hx).1)
  rw [hs, hx] at h2
  dsimp only at h2
  rw [hm, Bool.not_true, Bool.false_or, Bool.and_eq_true, List.all_eq_true] at h2
  obtain ⟨h3, h4⟩ := h2
  unfold passB at h3
  rw [Bool.and_eq_true, decide_eq_true_iff, ← hc x (List.mem_of_getElem? hx)] at h3
  refine ⟨h3, fun j hj => cov_of (h4 j (List.mem_map.2 ⟨(j : Int), hj, Int.toNat_natCast j⟩))⟩
theorem sim_ok (hc : ∀ x ∈ u.ins, ∀ L, CondL t k u x L ↔ cB x L = true) : ∀ (n : Nat) (S : List Api.State), Snd u S → ∀ r S', simB cB u n S = some (r, S') → (r = true → AccU t k u ∧ Snd u S' ∧ Cov S' 0 [] [] ∧ ∀ i, Done t k u S' i) ∧ (r = false → ¬ AccU t k u)
  | 0, S, h, r, S', e => by
    unfold simB at e
    split at e
    · rename_i hk
      cases e
      obtain ⟨h1, h2⟩ := chk_acc hc hk
      exact ⟨fun _ => ⟨acc_of_done h1 h2, h, h1, h2⟩, fun e => (by cases e)⟩
    · cases e
  | n + 1, S, h, r, S', e => by
    have h1 := round_snd hc (List.range u.ins.length) S h
    unfold simB at e
    cases h2 : roundB cB u (List.range u.ins.length) S with
    | none =>
      rw [h2] at e h1
      cases e
      exact ⟨fun e => (by cases e), fun _ => h1⟩
    | some S2 =>
      rw [h2] at e h1
      exact sim_ok hc n S2 h1 r S' e
/-- Two tellings of the states are one. -/
theorem good_eq {S T : List Api.State} (h1 : Snd u S) (c1 : Cov S 0 [] []) (d1 : ∀ i, Done t k u S i) (h2 : Snd u T) (c2 : Cov T 0 [] []) (d2 : ∀ i, Done t k u T i) : S = T := by
  have key : ∀ {S T : List Api.State}, Snd u S → Cov S 0 [] [] → (∀ i, Done t k u S i) → Snd u T → Cov T 0 [] [] → (∀ i, Done t k u T i) → ∀ (i : Nat) (s q : Api.State), S[i]? = some s → T[i]? = some q → s.met = true → q.met = true ∧ q.live = s.live ∧ ∀ v ∈ s.stale, v ∈ q.stale := by
    intro S T h1 c1 d1 h2 c2 d2 i s q hs hq hm
    have k1 : ∀ i L, At u i L → ∃ q, T[i]? = some q ∧ q.met = true ∧ q.live = L := by
      intro i L h
      induction h with
      | zero =>
        obtain ⟨s, h1, h2, h3, _⟩ := c2
        exact ⟨s, h1, h2, h3⟩
      | step _ hx hj ih =>
        obtain ⟨s, h1, h2, h3⟩ := ih
        obtain ⟨s2, h4, h5, h6, _⟩ := (d2 _ s _ h1 h2 hx).2 _ hj
        exact ⟨s2, h4, h5, by rw [h6, h3]⟩
    have k2 : ∀ i v, St u i v → ∃ q, T[i]? = some q ∧ q.met = true ∧ v ∈ q.stale := by
      intro i v h
      induction h with
      | gone ha hx hg hdf hj =>
        obtain ⟨s, h1, h2, _⟩ := k1 _ _ ha
        obtain ⟨s2, h4, h5, _, h7⟩ := (d2 _ s _ h1 h2 hx).2 _ hj
        exact ⟨s2, h4, h5, h7 _ (staleOut_mem.2 ⟨.inr hg, fun e => hdf e.symm⟩)⟩
      | pass _ hx hdf hj ih =>
        obtain ⟨s, h1, h2, h3⟩ := ih
        obtain ⟨s2, h4, h5, _, h7⟩ := (d2 _ s _ h1 h2 hx).2 _ hj
        exact ⟨s2, h4, h5, h7 _ (staleOut_mem.2 ⟨.inl h3, fun e => hdf e.symm⟩)⟩
    obtain ⟨h3, h4⟩ := h1.met i s hs hm
    obtain ⟨q1, e1, e2, e3⟩ := k1 _ _ h3
    rw [hq] at e1; cases e1
    refine ⟨e2, e3, fun v hv => ?_⟩
    obtain ⟨q2, e4, _, e5⟩ := k2 _ _ (h4 v hv)
    rw [hq] at e4; cases e4
    exact e5
  refine List.ext_getElem (by rw [h1.len, h2.len]) fun i hi1 hi2 => ?_
  have g1 := List.getElem?_eq_getElem hi1
  have g2 := List.getElem?_eq_getElem hi2
  generalize S[i] = s at g1
  generalize T[i] = q at g2
  by_cases hm : s.met = true
  · obtain ⟨m1, m2, m3⟩ := key h1 c1 d1 h2 c2 d2 i s q g1 g2 hm
    obtain ⟨_, _, m4⟩ := key h2 c2 d2 h1 c1 d1 i q s g2 g1 m1
    have m5 : s.stale = q.stale := Rise.eq (h1.rl i s g1).2 (h2.rl i q g2).2 fun v => ⟨m3 v, m4 v⟩
    obtain ⟨a, b, c⟩ := s
    obtain ⟨a', b', c'⟩ := q
    simp only at *
    rw [hm, m1, m2, m5]
  · have hm2 : q.met ≠ true := fun h => hm (key h2 c2 d2 h1 c1 d1 i q s g2 g1 h).1
    have hm : s.met = false := by simpa using hm
    have hm2 : q.met = false := by simpa using hm2
    obtain ⟨a1, a2⟩ := h1.un i s g1 hm
    obtain ⟨b1, b2⟩ := h2.un i q g2 hm2
    obtain ⟨a, b, c⟩ := s
    obtain ⟨a', b', c'⟩ := q
    simp only at *
    rw [hm, hm2, a1, a2, b1, b2]
end
end Go.GuaM

/- Programs of one unit as chapter 28's laws have them, plainly. No program in sight. -/
namespace Go.OneM
open Go.Api Go.RtM Go.ReachM Go.RiseM Go.GuaM Go.LivM Go.FlowM
def oneU (ins : List Ins) : Unt := ⟨0, [0, 1, -2], -3, [], [0, 1], ins⟩
def oneT (ins : List Ins) : RTg := ⟨[⟨false, [-2]⟩, ⟨false, [0]⟩], [], [oneU ins], 0⟩
theorem one_flds (ins : List Ins) : flds (oneT ins) = [[-2], [0]] := rfl
theorem one_glob (ins : List Ins) : glob (oneT ins) = [] := fromL_nil (by simp [oneT])
theorem one_outOf (ins : List Ins) : outOf (oneT ins) (oneU ins) = [] := by
  have e : roots (oneU ins) = [-3] := rfl
  unfold outOf
  rw [e, fromL_nil (by simp)]
  rfl
theorem one_out (ins : List Ins) : out (oneT ins) 0 = [] := by
  have : out (oneT ins) ((0 : Nat) : Int) = outOf (oneT ins) (oneU ins) := out_some rfl
  rw [one_outOf] at this; exact this
theorem one_from {L : List Int} {c : Int} : c ∈ fromL [[-2], [0]] L ↔ c = 0 ∧ (0 ∈ L ∨ 1 ∈ L) ∨ c = 1 ∧ 1 ∈ L := by
  rw [fromL_mem]
  constructor
  · rintro ⟨n, rfl, h⟩
    induction h with
    | @root n h1 h2 =>
      have h2 : n < 2 := h2
      obtain rfl | rfl : n = 0 ∨ n = 1 := by omega
      · exact .inl ⟨rfl, .inl h1⟩
      · exact .inr ⟨rfl, h1⟩
    | @step n d l _ h2 h3 h4 ih =>
      rcases ih with ⟨h5, _⟩ | ⟨h5, h6⟩
      · obtain rfl : n = 0 := by omega
        simp at h2; subst h2
        simp at h3
      · obtain rfl : n = 1 := by omega
        simp at h2; subst h2
        simp at h3
        exact .inl ⟨by omega, .inr h6⟩
  · rintro (⟨rfl, h | h⟩ | ⟨rfl, h⟩)
    · exact ⟨0, rfl, .root h (by decide)⟩
    · exact ⟨0, rfl, .step (c := 1) (.root h (by decide)) rfl (by simp) (by decide)⟩
    · exact ⟨1, rfl, .root h (by decide)⟩
theorem one_seen {ins : List Ins} {L : List Int} {c : Int} : Seen (oneT ins) 0 L c ↔ c ∈ L := by
  unfold Seen
  rw [one_glob, one_out]; simp
theorem one_closed {ins : List Ins} {L : List Int} : Closed (oneT ins) 0 L ↔ (1 ∈ L → 0 ∈ L) := by
  unfold Closed
  rw [one_flds]
  constructor
  · intro h h1
    exact one_seen.1 (h 0 (one_from.2 (.inl ⟨rfl, .inr h1⟩)))
  · intro h c hc
    rw [one_seen]
    rcases one_from.1 hc with ⟨rfl, h1 | h1⟩ | ⟨rfl, h1⟩
    · exact h1
    · exact h h1
    · exact h1
def oneC (x : Ins) (L : List Int) : Bool :=
  if x.op = 21 then decide (∀ c ∈ x.args, c ∉ L) && decide (1 ∈ both L x.args → 0 ∈ both L x.args)
  else if x.op = 22 then decide (∀ c ∈ x.args, c ∈ L) && decide (1 ∈ minus L x.args → 0 ∈ minus L x.args)
  else if x.op = 11 ∨ x.op = 12 then decide (x.n ∈ L)
  else if x.op = 18 then decide (L = []) else true
theorem one_cond {ins : List Ins} {x : Ins} (h13 : x.op ≠ 13) (L : List Int) : CondL (oneT ins) 0 (oneU ins) x L ↔ oneC x L = true := by
  unfold CondL oneC
  by_cases h1 : x.op = 21
  · rw [if_pos h1, if_pos h1, Bool.and_eq_true, decide_eq_true_iff, decide_eq_true_iff, one_closed]
  rw [if_neg h1, if_neg h1]
  by_cases h2 : x.op = 22
  · rw [if_pos h2, if_pos h2, Bool.and_eq_true, decide_eq_true_iff, decide_eq_true_iff, one_closed]
  rw [if_neg h2, if_neg h2]
  by_cases h3 : x.op = 11 ∨ x.op = 12
  · rw [if_pos h3, if_pos h3, decide_eq_true_iff, one_glob]
    simp [oneU]
  rw [if_neg h3, if_neg h3, if_neg h13]
  by_cases h4 : x.op = 18
  · rw [if_pos h4, if_pos h4, decide_eq_true_iff]
  · rw [if_neg h4, if_neg h4]; simp
def oneSim (ins : List Ins) : Option (Bool × List Api.State) := simB oneC (oneU ins) 8 (first (oneU ins))
theorem one_sim {ins : List Ins} (h : ∀ x ∈ ins, x.op ≠ 13) {r : Bool} {S : List Api.State} (hs : oneSim ins = some (r, S)) : (r = true → AccU (oneT ins) 0 (oneU ins) ∧ Snd (oneU ins) S ∧ Cov S 0 [] [] ∧ ∀ i, Done (oneT ins) 0 (oneU ins) S i) ∧ (r = false → ¬ AccU (oneT ins) 0 (oneU ins)) :=
  sim_ok (fun x hx L => one_cond (h x hx) L) 8 _ (snd_first _) r S hs
/-- What a unit's instructions are asked. -/
def OneOk (ins : List Ins) : Prop := ins ≠ [] ∧ ins.length ≤ 16000 ∧ (lastOp (oneU ins) = 16 ∨ lastOp (oneU ins) = 17 ∨ lastOp (oneU ins) = 18) ∧ ∀ i ∈ ins, Bare i ∧ Fits (oneT ins) (oneU ins) i
instance (ins : List Ins) : Decidable (OneOk ins) := by unfold OneOk; infer_instance
theorem one_right {ins : List Ins} : RightP (oneT ins) ↔ OneOk ins := by
  constructor
  · rintro ⟨_, _, _, _, h1, h2⟩
    obtain ⟨⟨_, _, _, h3, _, _, h4⟩, h5⟩ := h2 (oneU ins) (by simp [oneT])
    refine ⟨h3, ?_, h4, h5⟩
    have : insOf (oneT ins).units = ins.length := by simp [insOf, oneT, oneU]
    omega
  · rintro ⟨h3, h6, h4, h5⟩
    have hl : insOf (oneT ins).units = ins.length := by simp [insOf, oneT, oneU]
    have hc0 : IsClass (oneT ins) 0 := ⟨by omega, by show (0 : Int) < 2; omega⟩
    have hc1 : IsClass (oneT ins) 1 := ⟨by omega, by show (1 : Int) < 2; omega⟩
    refine ⟨by show (2 ≤ 60 ∧ 0 ≤ 8 ∧ 1 ≠ 0 ∧ 1 ≤ 16); decide, ⟨rfl, rfl⟩, fun L hL => ?_, fun x hx => by simp [oneT] at hx, by rw [hl]; exact h6, fun u hu => ?_⟩
    · have hL : L = ⟨false, [-2]⟩ ∨ L = ⟨false, [0]⟩ := by simpa [oneT] using hL
      rcases hL with rfl | rfl
      · exact ⟨by show 1 ≤ 8; decide, fun h => (by cases h), fun n hn => .inr (.inr (by simpa using hn))⟩
      · refine ⟨by show 1 ≤ 8; decide, fun h => (by cases h), fun n hn => ?_⟩
        obtain rfl : n = 0 := by simpa using hn
        exact .inl hc0
    · obtain rfl : u = oneU ins := by simpa [oneT] using hu
      refine ⟨⟨⟨by show (0 : Int) ≤ 0; omega, by show (0 : Int) ≤ 6; omega, by show (0 : Int) ≤ 3; omega, by show 3 ≤ 4000; omega⟩, fun n hn => ?_, .inl rfl, h3, ⟨by show Rise []; exact List.Pairwise.nil, fun c hc => by simp [oneU] at hc⟩, ⟨by show Rise [0, 1]; decide, fun c hc => ?_⟩, h4⟩, h5⟩
      · have hn : n = 0 ∨ n = 1 ∨ n = -2 := by simpa [oneU] using hn
        rcases hn with rfl | rfl | rfl
        · exact .inl hc0
        · exact .inl hc1
        · exact .inr (.inr rfl)
      · have hc : c = 0 ∨ c = 1 := by simpa [oneU] using hc
        rw [one_glob, one_outOf]
        rcases hc with rfl | rfl
        · exact ⟨hc0, by simp, by simp⟩
        · exact ⟨hc1, by simp, by simp⟩
/-- Small enough. -/
def OneFew (ins : List Ins) : Prop := ins.length ≤ 400 ∧ ∀ i ∈ ins, i.args.length ≤ 80
instance (ins : List Ins) : Decidable (OneFew ins) := by unfold OneFew; infer_instance
end Go.OneM

/- slices.AppendSeq of slices.Values over ints: a new slice that holds what the other one holds. The kit's worked texts on iterators, turned to this program. -/
namespace Go.Proofs.YtomfpmbapdhbgaaGreat
open Go Go.RowKit Go.Shelf
attribute [local go_sem] Oper.semAt_some

def upto {α : Type} (f : Nat → α) (k : Nat) : List α := (List.range k).map f
theorem upto_succ {α : Type} (f : Nat → α) (k : Nat) : upto f (k + 1) = upto f k ++ [f k] := by simp [upto, List.range_succ]
theorem upto_length {α : Type} (f : Nat → α) (k : Nat) : (upto f k).length = k := by simp [upto]
theorem upto_all (zs : List Int) : upto (fun j => zs[j]?.getD 0) zs.length = zs := by
  apply List.ext_getElem
  · simp [upto]
  · intro i h1 h2
    simp [upto, h2]
set_option maxRecDepth 100000 in
set_option maxHeartbeats 2000000 in
/-- The closure of slices.Values, for every loop body that keeps what lay below n₀. -/
theorem values1_in (F : Fence) (n : Nat) (h7 : F.fn 80) (hro : F.round = none) (hn : 1 ≤ n) (l Bs n₀ b off len cap : Nat) (a : Option Addr) (ha : len ≠ 0 → a = some ⟨b, off, none⟩) (zs : List Int) (hreach : len * 8 ≤ 140737488351232) (hb : b < n₀) (J Jx : List Int → World → Prop)
    (hY : ∀ pre x W, J pre W → pre.length < len → YieldAt F (n - 1) Tryz.prog l #[.int .i64 x] W fun e W' =>
      (e = .returned (.bool true) ∧ J (pre ++ [x]) W' ∧ Below n₀ W W') ∨ (e = .returned (.bool false) ∧ Jx (pre ++ [x]) W'))
    (W : World) (hBs : W.cell? ⟨Bs, 0, none⟩ = some (.slice a len cap)) (hc : ∀ j, j < len → W.cell? ⟨b, off + j, none⟩ = some (.int .i64 (zs[j]?.getD 0))) (h0 : J [] W) :
    CallsIn F n Tryz.prog 80 #[.func (.yield l) #[] #[], .pointer (some ⟨Bs, 0, none⟩)] W fun e W' => (∃ v, e = .returned v) ∧
      ((∃ ys, ys = upto (fun j => zs[j]?.getD 0) len ∧ J ys W') ∨ (∃ pre, (∃ k, k ≤ len ∧ pre = upto (fun j => zs[j]?.getD 0) k) ∧ Jx pre W')) := by
  refine callsIn_of_wp Tryz.func80 rfl h7 ?_ hro
  simp only [Tryz.ntmps80, List.size_toArray, List.length_cons, List.length_nil, Nat.reduceAdd, Nat.reduceSub, Array.replicate_succ, Array.replicate_zero, List.push_toArray, List.append_toArray, List.nil_append, List.cons_append]
  gi_wp2
  gi_loopw [7] (fun i wr => ∃ k : Nat, k ≤ len ∧ i = .int .i64 k ∧ J (upto (fun j => zs[j]?.getD 0) k) wr ∧ Below n₀ W wr)
    (fun i _ => len - (intOf i).toNat)
  case atStart => exact ⟨0, Nat.zero_le _, rfl, h0, Below.refl _ _⟩
  case round =>
    obtain ⟨k, hk, rfl, hJs, hnx⟩ := hrel
    have hcx : k < len → wr.cell? ⟨b, off + k, none⟩ = some (.int .i64 (zs[k]?.getD 0)) := fun h => (hnx.cell (p := ⟨b, off + k, none⟩) hb).trans (hc k h)
    by_cases hlt : k < len
    · obtain rfl := ha (by omega)
      obtain ⟨fn, tmps, assign, body, hy, hR⟩ := hY _ (zs[k]?.getD 0) wr hJs (by rw [upto_length]; exact hlt)
      have hcx' := hcx hlt
      gi_wp2
      refine hR.mono ?_
      rintro e W3 (⟨rfl, hJ3, hk3⟩ | ⟨rfl, hJx3⟩)
      · gi_wp2
        go_roundw
        case rel => exact ⟨k + 1, by omega, by simp, by rw [upto_succ]; exact hJ3, hnx.trans hk3⟩
        case measure => simp [intOf]; omega
      · gi_wp2
        refine bodyPost_ret (results_none rfl _ _ _) rfl ?_
        exact ⟨⟨_, rfl⟩, .inr ⟨_, ⟨k + 1, by omega, (upto_succ _ _).symm⟩, hJx3⟩⟩
    · obtain rfl : k = len := by omega
      gi_wp2
      go_end0
      exact ⟨⟨_, rfl⟩, .inl ⟨_, rfl, hJs⟩⟩
theorem values_stops (F : Fence) (n : Nat) (h7 : F.fn 80) (hro : F.round = none) (hn : 1 ≤ n) (Bs n₀ b off cap : Nat) (a : Option Addr) (zs : List Int) (ha : zs.length ≠ 0 → a = some ⟨b, off, none⟩) (hreach : zs.length * 8 ≤ 140737488351232) (w : World) (hBs : Bs < w.heap.size) (hn₀ : n₀ ≤ w.heap.size)
    (hc : w.cell? ⟨Bs, 0, none⟩ = some (.slice a zs.length cap)) (hb : b < n₀) (hcs : ∀ j, j < zs.length → w.cell? ⟨b, off + j, none⟩ = some (.int .i64 (zs[j]?.getD 0))) :
    SeqStopsK F n Tryz.prog 80 #[.pointer (some ⟨Bs, 0, none⟩)] (fun x : Int => #[Value.int .i64 x]) (Below n₀) (fun ys => ys = zs) (fun _ => True) zs.length w := fun l J Jx W hW _ _ hY h0 => by
  have hc' := (hW.cell (p := ⟨Bs, 0, none⟩) hBs).trans hc
  have hcs' : ∀ j, j < zs.length → W.cell? ⟨b, off + j, none⟩ = some (.int .i64 (zs[j]?.getD 0)) := fun j hj => (hW.cell (p := ⟨b, off + j, none⟩) (by show b < _; omega)).trans (hcs j hj)
  refine (values1_in F n h7 hro hn l Bs n₀ b off zs.length cap a ha zs hreach hb J Jx hY W hc' hcs' h0).mono ?_
  rintro e W' ⟨he, ⟨ys, rfl, hj⟩ | ⟨pre, ⟨k, hk, rfl⟩, hj⟩⟩
  · exact ⟨he, .inl ⟨_, upto_all zs, hj⟩⟩
  · exact ⟨he, .inr ⟨_, trivial, hj⟩⟩
theorem infoInt : (Tryz.prog.info? 3).map (fun i => (i.zero, i.size, i.bytes)) = some (some (.int .i64 0), 1, 8) := by kernel_rfl
set_option maxRecDepth 100000 in
set_option maxHeartbeats 2000000 in
theorem appendSeq_in (F : Fence) (n : Nat) (h3 : F.fn 112) (h5 : F.fn 80) (hro : F.round = none) (hn : 3 ≤ n) (Bs b off cap : Nat) (a : Option Addr) (zs : List Int) (ha : zs.length ≠ 0 → a = some ⟨b, off, none⟩) (hlen : zs.length * 8 ≤ 140737488351232) (w : World) (hBs : Bs < w.heap.size) (hb : b < w.heap.size)
    (hc : w.cell? ⟨Bs, 0, none⟩ = some (.slice a zs.length cap)) (hcs : ∀ j, j < zs.length → w.cell? ⟨b, off + j, none⟩ = some (.int .i64 (zs[j]?.getD 0))) :
    CallsIn F n Tryz.prog 112 #[.slice none 0 0, .func (.func 80) #[] #[.pointer (some ⟨Bs, 0, none⟩)]] w fun e W' => ∃ v, e = .returned v ∧ W'.ownsRow w.heap.size 3 1 v zs.length (zs.map (Value.int .i64)) ∧ (v = .slice none 0 0 ↔ zs = []) ∧ Below w.heap.size w W' := by
  have h1 : 1 ≤ n := by omega
  have hmax : zs.length ≤ maxLen := by simp only [maxLen]; omega
  obtain ⟨i0, hi, hz0, hz1, hz2⟩ := info_parts infoInt
  refine callsIn_of_wp_marks Tryz.func112 rfl h3 ?_ hro
  simp only [Tryz.ntmps112, List.size_toArray, List.length_cons, List.length_nil, Nat.reduceAdd, Nat.reduceSub, Array.replicate_succ, Array.replicate_zero, List.push_toArray, List.append_toArray, List.nil_append, List.cons_append]
  gi_wp2
  have bO := Boxed.new w 23 (.slice none 0 0)
  have hB0 : Below w.heap.size w (w.alloc (.cells #[.slice none 0 0] 23)) := (Below.refl _ w).alloc (Nat.le_refl _) _
  have hcs0 : ∀ j, j < zs.length → (w.alloc (.cells #[.slice none 0 0] 23)).cell? ⟨b, off + j, none⟩ = some (.int .i64 (zs[j]?.getD 0)) := fun j hj => (hB0.cell (p := ⟨b, off + j, none⟩) hb).trans (hcs j hj)
  refine wpIn_rangeFunc_ownG hro h1 (gf := 80) (lb := #[.pointer (some ⟨Bs, 0, none⟩)]) rfl h5 (enters_of Tryz.func80 (by kernel_rfl) rfl)
    (values_stops F (n - 1) h5 hro (by omega) Bs w.heap.size b off cap a zs ha hlen _ (by simp; omega) (by simp) ((hB0.cell (p := ⟨Bs, 0, none⟩) hBs).trans hc) hb hcs0) belowK_t (belowK_b (by simp)) (Below.refl _ _) (fun _ => rfl)
    (fun pre W => (∃ v, Boxed W w.heap.size 23 v ∧ W.ownsRow w.heap.size 3 1 v pre.length (pre.map (Value.int .i64)) ∧ (v = .slice none 0 0 ↔ pre = [])) ∧ Below w.heap.size w W)
    (fun _ _ _ => False)
    (OwnFrom.and (Own.from (holdsRow_own w.heap.size w.heap.size 23 3 1 (fun pre : List Int => pre.length) (fun pre => pre.map (Value.int .i64)) (fun pre v => v = .slice none 0 0 ↔ pre = [])) _) (ownFrom_below (Nat.le_refl _) (by simp)))
    (fun _ _ _ _ _ hs _ _ => hs)
    ⟨⟨_, bO, World.ownsRow_nil _ _ _ _, by simp⟩, hB0⟩
    (fun x => { tmps := #[.slice none 0 0, .func (.func 80) #[] #[.pointer (some ⟨Bs, 0, none⟩)], .pointer (some ⟨w.heap.size, 0, none⟩), undef, .slice none 0 0, .int .i64 x, .func (.func 80) #[] #[.pointer (some ⟨Bs, 0, none⟩)], .int .i64 x, undef, undef, undef, undef, undef], defers := [] }) ?assign ?body ?done ?stop
  case assign =>
    intro l x W K hK
    gi_wp2
    exact hK
  case body =>
    rintro l pre x W ⟨⟨v, hv, hrow, hnil⟩, hB⟩ hlt
    have hc := hv.cell
    gi_wp2_with (gi_at_builtin; refine wpListIn_append_own _ rfl _ _ 23 rfl w.heap.size 3 i0 (.int .i64 0) 1 8 Tryz.underlying23 hi hz0 hz1 hz2 rfl (by decide) _ _ _ rfl (hrow.alloc _) ⟨W.heap.size, 0, none⟩ 1 1 [.int .i64 x] rfl rfl (cell_one_new _ _ _) (by simp [Value.oneCell']) (by omega) (by omega) (by have := hB.size; simp; omega) ?_; intro v' w1 hown' hgrow _; obtain ⟨g', cap', rfl⟩ := ownsRow_succ hown'; obtain ⟨hv1, hv2, hr2, hk2, hb2⟩ := hv.appended (by decide) hrow hB.size (Nat.le_refl _) hown' hgrow; have hc1 := hv1.cell; have hf1 := hv1.frozen)
    exact ⟨hk2.from _, hb2, ⟨_, hv2, by simpa using hr2, by simp⟩, hB.trans hb2⟩
  case done =>
    rintro D ys W hD rfl ⟨⟨v, hv, hrow, hnil⟩, hB⟩ hK
    have hc := hv.cell
    gi_wp2
    refine ⟨by simp, .inl ⟨_, _, rfl, run_takeDeferred hK, ?_⟩⟩
    exact ⟨_, results_tmp rfl _ _ _, v, rfl, ownsRow_putObj hrow _ hK rfl, hnil, hB.trans (belowK_b (w := w) (Nat.le_refl _) W D _ _ (by simp at hD; omega) hK rfl rfl)⟩
  case stop =>
    rintro D c pre W _ _ h _
    exact h.elim
end Go.Proofs.YtomfpmbapdhbgaaGreat

/- The contract of slices.Sort at ints, at this seat: written by the kit's lay-shelf and lay-plain, cut by wip/shelf.py. -/
namespace Go.Proofs
open Go.Shelf
def Tryz.lays189_ren : Go.Shelf.Ren := ⟨fun | 189 => 79 | 125 => 114 | 257 => 113 | 128 => 140 | 129 => 141 | 294 => 131 | 295 => 132 | 296 => 133 | 297 => 134 | 298 => 135 | 299 => 136 | 216 => 137 | 300 => 138 | 301 => 139 | 328 => 142 | 329 => 143 | 330 => 144 | 331 => 145 | 332 => 146 | 215 => 147 | 343 => 148 | n => n, fun | 28 => 23 | 3 => 3 | 46 => 125 | 0 => 0 | 51 => 139 | 53 => 141 | 4 => 4 | 183 => 133 | 182 => 132 | 131 => 76 | 5 => 5 | 9 => 9 | 218 => 142 | 222 => 146 | 228 => 148 | 229 => 149 | n => n, fun | n => n⟩
theorem Tryz.lays189 : Go.Proofs.Lays.n189 Tryz.prog Tryz.lays189_ren := {
  mixed := by kernel_rfl
  f125 := Tryz.func114.trans (congrArg some (by kernel_rfl))
  f128 := Tryz.func140.trans (congrArg some (by kernel_rfl))
  f129 := Tryz.func141.trans (congrArg some (by kernel_rfl))
  f189 := Tryz.func79.trans (congrArg some (by kernel_rfl))
  f215 := Tryz.func147.trans (congrArg some (by kernel_rfl))
  f216 := Tryz.func137.trans (congrArg some (by kernel_rfl))
  f257 := Tryz.func113.trans (congrArg some (by kernel_rfl))
  f294 := Tryz.func131.trans (congrArg some (by kernel_rfl))
  f295 := Tryz.func132.trans (congrArg some (by kernel_rfl))
  f296 := Tryz.func133.trans (congrArg some (by kernel_rfl))
  f297 := Tryz.func134.trans (congrArg some (by kernel_rfl))
  f298 := Tryz.func135.trans (congrArg some (by kernel_rfl))
  f299 := Tryz.func136.trans (congrArg some (by kernel_rfl))
  f300 := Tryz.func138.trans (congrArg some (by kernel_rfl))
  f301 := Tryz.func139.trans (congrArg some (by kernel_rfl))
  f328 := Tryz.func142.trans (congrArg some (by kernel_rfl))
  f329 := Tryz.func143.trans (congrArg some (by kernel_rfl))
  f330 := Tryz.func144.trans (congrArg some (by kernel_rfl))
  f331 := Tryz.func145.trans (congrArg some (by kernel_rfl))
  f332 := Tryz.func146.trans (congrArg some (by kernel_rfl))
  f343 := Tryz.func148.trans (congrArg some (by kernel_rfl))
  t0 := Tryz.underlying0
  a0 := Tryz.isAgg0
  z0 := Tryz.sizeOf0
  v0 := Tryz.zeroValue0
  t3 := Tryz.underlying3
  a3 := Tryz.isAgg3
  z3 := Tryz.sizeOf3
  v3 := Tryz.zeroValue3
  t4 := Tryz.underlying4
  a4 := Tryz.isAgg4
  z4 := Tryz.sizeOf4
  v4 := Tryz.zeroValue4
  t5 := Tryz.underlying5
  a5 := Tryz.isAgg5
  z5 := Tryz.sizeOf5
  v5 := Tryz.zeroValue5
  t9 := Tryz.underlying9
  a9 := Tryz.isAgg9
  z9 := Tryz.sizeOf9
  v9 := Tryz.zeroValue9
  t28 := Tryz.underlying23
  a28 := Tryz.isAgg23
  z28 := Tryz.sizeOf23
  v28 := Tryz.zeroValue23
  t46 := Tryz.underlying125
  a46 := Tryz.isAgg125
  z46 := Tryz.sizeOf125
  v46 := Tryz.zeroValue125
  t51 := Tryz.underlying139
  a51 := Tryz.isAgg139
  z51 := Tryz.sizeOf139
  v51 := Tryz.zeroValue139
  t53 := Tryz.underlying141
  a53 := Tryz.isAgg141
  z53 := Tryz.sizeOf141
  v53 := Tryz.zeroValue141
  t131 := Tryz.underlying76
  a131 := Tryz.isAgg76
  z131 := Tryz.sizeOf76
  v131 := Tryz.zeroValue76
  t182 := Tryz.underlying132
  a182 := Tryz.isAgg132
  z182 := Tryz.sizeOf132
  v182 := Tryz.zeroValue132
  t183 := Tryz.underlying133
  a183 := Tryz.isAgg133
  z183 := Tryz.sizeOf133
  v183 := Tryz.zeroValue133
  t218 := Tryz.underlying142
  a218 := Tryz.isAgg142
  z218 := Tryz.sizeOf142
  v218 := Tryz.zeroValue142
  t222 := Tryz.underlying146
  a222 := Tryz.isAgg146
  z222 := Tryz.sizeOf146
  v222 := Tryz.zeroValue146
  t228 := Tryz.underlying148
  a228 := Tryz.isAgg148
  z228 := Tryz.sizeOf148
  v228 := Tryz.zeroValue148
  t229 := Tryz.underlying149
  a229 := Tryz.isAgg149
  z229 := Tryz.sizeOf149
  v229 := Tryz.zeroValue149 }
open Go.Sort Go.RowKit in
theorem Tryz.slices_Sort_int (blk off cap : Nat) (zs : List Int) (w : World) (hH : Holds (Value.int .i64) w blk off zs.toArray) (hblk : blk < w.heap.size) (hsz : zs.length < 4611686018427387904) :
    Calls Tryz.prog 79 #[.slice (some ⟨blk, off, none⟩) zs.length cap] w fun e w' =>
      e = .returned (.tuple #[]) ∧ ∃ n os, w' = grow (putRow (Value.int .i64) (Sort.ahead w n) blk off (zs.mergeSort fun x y => decide (x ≤ y)).toArray) os := Any.slices_Sort_int Tryz.lays189 blk off cap zs w hH hblk hsz
def Tryz.laysNm220_ren : Go.Shelf.Ren := ⟨fun | 20 => 52 | n => n, fun | 22 => 23 | 3 => 3 | 4 => 4 | 0 => 0 | n => n, fun | n => n⟩
theorem Tryz.laysNm220 : Go.Proofs.Lays2.n20 Tryz.prog Tryz.laysNm220_ren := {
  mixed := by kernel_rfl
  f20 := Tryz.func52.trans (congrArg some (by kernel_rfl))
  t0 := Tryz.underlying0
  a0 := Tryz.isAgg0
  z0 := Tryz.sizeOf0
  v0 := Tryz.zeroValue0
  t3 := Tryz.underlying3
  a3 := Tryz.isAgg3
  z3 := Tryz.sizeOf3
  v3 := Tryz.zeroValue3
  t4 := Tryz.underlying4
  a4 := Tryz.isAgg4
  z4 := Tryz.sizeOf4
  v4 := Tryz.zeroValue4
  t22 := Tryz.underlying23
  a22 := Tryz.isAgg23
  z22 := Tryz.sizeOf23
  v22 := Tryz.zeroValue23
  i3 := by kernel_rfl }
open Go.RowKit Go.Lib Go.Sort in
theorem Tryz.slices_Compact_int (blk off cap : Nat) (zs : List Int) (w : World) (hH : Holds (Value.int .i64) w blk off zs.toArray) (hsz : zs.length ≤ 9223372036854775807) (hcap : zs.length ≤ cap) :
    Calls Tryz.prog 52 #[.slice (some ⟨blk, off, none⟩) zs.length cap] w fun e w' => e = .returned (.slice (some ⟨blk, off, none⟩) (Lib.compact zs).length cap) ∧ ∃ q, w' = putRow (Value.int .i64) (Sort.ahead w q) blk off (Lib.compact zs ++ List.replicate (zs.length - (Lib.compact zs).length) 0).toArray := Any.slices_Compact_int Tryz.laysNm220 blk off cap zs w hH hsz hcap
open Go.RowKit Go.Lib Go.Sort in
theorem Tryz.slices_Compact_int_empty (a : Option Addr) (cap : Nat) (w : World) :
    Calls Tryz.prog 52 #[.slice a 0 cap] w fun e w' => e = .returned (.slice a 0 cap) ∧ w' = w := Any.slices_Compact_int_empty Tryz.laysNm220 a cap w
open Go.RowKit Go.Sort in
theorem Tryz.slices_Sort_int_none (p : Option Addr) (cap : Nat) (w : World) :
    Calls Tryz.prog 79 #[.slice p 0 cap] w fun e w' => e = .returned (.tuple #[]) ∧ w' = w := Any.slices_Sort_int_none Tryz.lays189 p cap w
end Go.Proofs
