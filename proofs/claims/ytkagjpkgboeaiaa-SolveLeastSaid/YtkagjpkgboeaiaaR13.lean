import Derived.Test.YtkagjpkgboeaiaaR9
/- A slice of one's own, lent to a function that only reads it. No program in sight. -/
namespace Go.GX
open Go Go.RowKit Go.RR Go.RX
section
variable {P : Program} {n : Nat} {env : Env} {b : Base} {ps : List Pf} {hp : List Res} {K : Act → World → Prop}
/-- Something stays from now on; what is known tells what it says. -/
theorem frz_stA {r : Res} {p : Pf} {rest : List Res} (hl : hp.Perm (r :: rest)) (hp' : ∀ F w, AllP F w ps → r.says F w → p.says (fun k => F k ∨ r.on k) w) (h : G n env b (p :: ps) rest K) : G n env b ps hp K := by
  constructor
  rintro w ⟨F, s⟩
  have s := s.perm hl
  have ha := List.pairwise_cons.1 s.apart
  refine h.run w ⟨fun k => F k ∨ r.on k, s.upd, ?_, ?_, ?_, ?_, ?_, ha.2, fun q hq => s.on q (List.mem_cons_of_mem _ hq)⟩
  · rintro k (hk | hk)
    · exact s.lt k hk
    · exact r.inn (s.rs r List.mem_cons_self) hk
  · rintro k (hk | hk) hlt
    · exact s.old k hk hlt
    · exact .inr (s.on r List.mem_cons_self k hk hlt)
  · intro q hq
    rcases List.mem_cons.1 hq with rfl | hq
    · exact hp' F w s.fs (s.rs r List.mem_cons_self)
    · exact q.move (s.fs q hq) (fun _ _ h => .inl h) (Agree.refl _ _)
  · intro q hq
    exact q.move (s.rs q (List.mem_cons_of_mem _ hq)) (fun _ _ h => .inl h) (Agree.refl _ _) (Agree.refl _ _)
  · rintro q hq k hk (hf | hr)
    · exact s.apF q (List.mem_cons_of_mem _ hq) k hk hf
    · exact ha.1 q hq k hr hk
end
end Go.GX

/- A variable that holds a slice stays from now on. No program in sight. -/
namespace Go.GX
open Go Go.RowKit Go.RR Go.RX
/-- A variable that holds a slice that stays, and is not turned from now on. -/
theorem frzS {n : Nat} {env : Env} {b : Base} {ps : List Pf} {hp : List Res} {K : Act → World → Prop} (bl : Nat) {α : Type} (e : Ty α) (xs : List α) {t : TypeId} {vs : List Value} {a : Option Addr} {m c : Nat} {rest : List Res} [hf : FRow bl hp t vs rest] (h : G n env b (Pt (Ty.slice e) bl 0 xs :: ps) rest K) (hv : vs = [.slice a m c] := by exact rfl) (hr : Reads ps (.slice a m c) (Ty.slice e) xs := by first | exact Go.GX.Rds.r) : G n env b ps hp K :=
  frz_stA hf.p (fun F w h1 h2 => by
    have hrow : Row w bl t vs := h2
    subst hv
    have hd : (Ty.slice e).rd F w (Value.slice a m c).cells.toList xs := hr.as F w h1
    exact ⟨.inr rfl, hrow.lt, _, fun j c hj => by rw [Nat.zero_add]; exact hrow.cell_some hj, (Ty.slice e).move hd (fun _ _ h => .inl h) (Agree.refl _ _)⟩) h
end Go.GX

/- Regions in which two that act may come up in either order. No program in sight. -/
namespace Go.RX
open Go Go.RowKit Go.RR
section
variable {P : Program} {ops : Array Oper} {S : World → Prop} {hold : Nat → Bool}
/-- Behind what is taken first: either one, then the other. -/
def Fork (P : Program) (ops : Array Oper) (Q : Exit → Act → World → Prop) (S : World → Prop) (hold : Nat → Bool) (la lb : List (Nat × Bool)) : Exit → Act → World → Prop
  | .normal, a, w => wpPlan P ops Q S hold la a w ∧ wpPlan P ops Q S hold lb a w
  | e, a, w => Q e a w
def forkOk (ops : Array Oper) (hold : Nat → Bool) (la lb : List (Nat × Bool)) : List (Nat × Bool) → Array Bool → Bool
  | [], listed => match la, lb with
    | (i, false) :: ra, (j, false) :: rb => (Region.ready .any ops listed) == [i, j] && Nat.beq ra.length rb.length && planOk ops hold ra (listed.setIfInBounds i true) && planOk ops hold rb (listed.setIfInBounds j true)
    | _, _ => false
  | (i, true) :: r, listed => (Region.ready .any ops listed).contains i && freeX ops hold listed i && forkOk ops hold la lb r (listed.setIfInBounds i true)
  | (_, false) :: _, _ => false
theorem wpAnyX_of_fork {Q : Exit → Act → World → Prop} (hs : Region.noSelect ops = true) (hQ : ∀ c a d v w, Q (.panic c) (Act.put a d v) w → Q (.panic c) a w) {la lb : List (Nat × Bool)} : ∀ (pre : List (Nat × Bool)) (listed : Array Bool) (a : Act) (w : World),
    forkOk ops hold la lb pre listed = true → wpPlan P ops (Fork P ops Q S hold la lb) S hold pre a w → wpAnyX P ops Q S hold (pre.length + la.length) listed a w
  | [], listed, a, w, hp, h => by
    unfold forkOk at hp
    split at hp
    · rename_i i ra j rb
      simp only [Bool.and_eq_true, beq_iff] at hp
      obtain ⟨⟨⟨h1, h2⟩, h3⟩, h4⟩ := hp
      have hr : Region.ready .any ops listed = [i, j] := by simpa using h1
      obtain ⟨ha, hb⟩ : wpPlan P ops Q S hold ((i, false) :: ra) a w ∧ wpPlan P ops Q S hold ((j, false) :: rb) a w := h
      rw [List.length_nil, Nat.zero_add, List.length_cons]
      refine ⟨fun h0 => absurd (hr ▸ h0) (by simp), fun k hk => ?_⟩
      rw [hr] at hk
      rcases List.mem_cons.1 hk with rfl | hk
      · exact wpOp_mono (fun a' w' h5 => ⟨h5.1, wpAnyX_of_plan hs hQ ra _ a' w' h3 h5.2⟩) ha
      · obtain rfl : k = j := by simpa using hk
        rw [h2]
        exact wpOp_mono (fun a' w' h5 => ⟨h5.1, wpAnyX_of_plan hs hQ rb _ a' w' h4 h5.2⟩) hb
    · simp at hp
  | (i, true) :: r, listed, a, w, hp, ⟨oi, v, hi, hy, hS, h⟩ => by
    simp only [forkOk, Bool.and_eq_true] at hp
    have := wpAnyX_first (P := P) (Q := Q) hi (Region.noSelect_spec hs) (fun c a w => hQ c a oi.dst v w) _ (Tame oi S) (r.length + la.length) listed a w (waits_spec (List.range ops.size) [] (fun j oj _ h => by simp at h)) (freeX_spec hi hp.1.2) (by simpa using hp.1.1) hy hS (wpAnyX_of_fork hs hQ r _ _ w hp.2 h)
    rw [List.length_cons, Nat.add_right_comm]; exact this
  | (_, false) :: _, _, _, _, hp, _ => by simp [forkOk] at hp
end
theorem drawnF {P : Program} {n : Nat} {env : Env} {w : World} {Q : Exit → Act → World → Prop} {id : Nat} {l : List Oper} (S : World → Prop) (hold : Nat → Bool) (pre la lb : List (Nat × Bool)) [hm : Mixed P] (hlen : Nat.beq l.length (pre.length + la.length) = true) (hs : Region.noSelect l.toArray = true)
    (hp : forkOk l.toArray hold la lb pre (Array.replicate (pre.length + la.length) false) = true)
    (h : E n env w.drew (wpPlan P l.toArray (Fork P l.toArray (NoPanic Q) S hold la lb) S hold pre)) : E n env w ((Code.region id l.toArray true).wp P Q) := by
  constructor; intro a ha
  refine wp_region_noPanic (wp_region_any hm.m (wpAny_of_X (S := S) (hold := hold) _ _ _ _ ?_))
  have hlen : l.toArray.size = pre.length + la.length := by simpa using beq_iff.1 hlen
  rw [hlen]
  exact wpAnyX_of_fork hs (fun c a d v w h => h) pre _ a _ hp (h.run a ha)
end Go.RX
namespace Go.GX
open Go Go.RowKit Go.RR Go.RX
section
variable {P : Program} {n : Nat} {env : Env} {b : Base} {ps : List Pf} {hp hpS : List Res} {Q : Exit → Act → World → Prop} {K : Act → World → Prop}
/-- Either order: nothing of one's own is held. -/
theorem drawnF {id : Nat} {l : List Oper} (hold : Nat → Bool) (pre la lb : List (Nat × Bool)) [hm : Mixed P] (hlen : Nat.beq l.length (pre.length + la.length) = true) (hs : Region.noSelect l.toArray = true) (hpl : forkOk l.toArray hold la lb pre (Array.replicate (pre.length + la.length) false) = true)
    (h : ∀ wd F, AllP F wd ps → AllR F wd [] → G n env b (Kept wd F :: ps) hp (wpPlan P l.toArray (Fork P l.toArray (NoPanic Q) (SS wd F []) hold la lb) (SS wd F []) hold pre)) : G n env b ps hp ((Code.region id l.toArray true).wp P Q) := by
  constructor
  rintro w ⟨F, s⟩
  have s := s.drew
  refine RX.drawnF (SS w.drew F []) hold pre la lb hlen hs hpl ((h w.drew F s.fs no_r).run w.drew ⟨F, s.upd, s.lt, s.old, fun p hp => ?_, s.rs, s.apF, s.apart, s.on⟩)
  rcases List.mem_cons.1 hp with rfl | hp
  · exact ⟨Agree.refl _ _, fun _ _ h => h⟩
  · exact s.fs p hp
end
end Go.GX

/- Regions in which those that act may come up in several orders: plans as trees. No program in sight. -/
namespace Go.RX
open Go Go.RowKit Go.RR
/-- A plan: in a row; or what is taken, then any of those that are ready. -/
inductive Tr where
  | lin : List (Nat × Bool) → Tr
  | br : List (Nat × Bool) → Tr → Tr
  | nil : Tr
  | alt : Nat → Tr → Tr → Tr
def Tr.size : Tr → Nat
  | .lin l => l.length
  | .br l t => l.length + t.size
  | .nil => 0
  | .alt _ t _ => t.size + 1
def Tr.isPlan : Tr → Bool
  | .lin _ => true
  | .br _ _ => true
  | _ => false
def Tr.idx : Tr → List Nat
  | .alt i _ r => i :: r.idx
  | _ => []
def GoK (P : Program) (ops : Array Oper) (Q : Exit → Act → World → Prop) (S : World → Prop) (hold : Nat → Bool) (i : Nat) (K : Act → World → Prop) : Act → World → Prop :=
  fun a w => wpOp P ops Q i (fun a' w' => (hold i = true → S w → S w') ∧ K a' w') a w
def AtEnd (Q : Exit → Act → World → Prop) (K : Act → World → Prop) : Exit → Act → World → Prop
  | .normal, a, w => K a w
  | e, a, w => Q e a w
def Both (K K' : Act → World → Prop) : Act → World → Prop := fun a w => K a w ∧ K' a w
def wpT (P : Program) (ops : Array Oper) (Q : Exit → Act → World → Prop) (S : World → Prop) (hold : Nat → Bool) : Tr → Act → World → Prop
  | .lin l => wpPlan P ops Q S hold l
  | .br l t => wpPlan P ops (AtEnd Q (wpT P ops Q S hold t)) S hold l
  | .nil => fun _ _ => True
  | .alt i t r => Both (GoK P ops Q S hold i (wpT P ops Q S hold t)) (wpT P ops Q S hold r)
def takesOk (ops : Array Oper) (hold : Nat → Bool) (fin : Array Bool → Bool) : List (Nat × Bool) → Array Bool → Bool
  | [], listed => fin listed
  | (i, true) :: r, listed => (Region.ready .any ops listed).contains i && freeX ops hold listed i && takesOk ops hold fin r (listed.setIfInBounds i true)
  | (_, false) :: _, _ => false
def Tr.ok (ops : Array Oper) (hold : Nat → Bool) : Tr → Nat → Array Bool → Bool
  | .lin l, n, listed => Nat.beq n l.length && planOk ops hold l listed
  | .br l t, n, listed => takesOk ops hold (fun m => (Region.ready .any ops m) == t.idx && t.ok ops hold (n - l.length) m) l listed && Nat.ble (l.length + 1) n && !t.idx.isEmpty
  | .nil, _, _ => true
  | .alt i t r, n, m => t.isPlan && t.ok ops hold (n - 1) (m.setIfInBounds i true) && r.ok ops hold n m
section
variable {P : Program} {ops : Array Oper} {S : World → Prop} {hold : Nat → Bool} {Q : Exit → Act → World → Prop}
theorem wpAnyX_takes (hs : Region.noSelect ops = true) (hQ : ∀ c a d v w, Q (.panic c) (Act.put a d v) w → Q (.panic c) a w) {fin : Array Bool → Bool} {m : Nat} {K : Act → World → Prop} (hK : ∀ listed a w, fin listed = true → K a w → wpAnyX P ops Q S hold m listed a w) :
    ∀ (l : List (Nat × Bool)) (listed : Array Bool) (a : Act) (w : World), takesOk ops hold fin l listed = true → wpPlan P ops (AtEnd Q K) S hold l a w → wpAnyX P ops Q S hold (l.length + m) listed a w
  | [], listed, a, w, hp, h => by rw [List.length_nil, Nat.zero_add]; exact hK listed a w hp h
  | (i, true) :: r, listed, a, w, hp, ⟨oi, v, hi, hy, hS, h⟩ => by
    simp only [takesOk, Bool.and_eq_true] at hp
    have := wpAnyX_first (P := P) (Q := Q) hi (Region.noSelect_spec hs) (fun c a w => hQ c a oi.dst v w) _ (Tame oi S) (r.length + m) listed a w (waits_spec (List.range ops.size) [] (fun j oj _ h => by simp at h)) (freeX_spec hi hp.1.2) (by simpa using hp.1.1) hy hS (wpAnyX_takes hs hQ hK r _ _ w hp.2 h)
    rw [List.length_cons, Nat.add_right_comm]; exact this
  | (_, false) :: _, _, _, _, hp, _ => by simp [takesOk] at hp
theorem plan_idx {t : Tr} (h : t.isPlan = true) : t.idx = [] ∧ t ≠ .nil := by
  cases t <;> simp_all [Tr.isPlan, Tr.idx]
theorem wpAnyX_of_tree (hs : Region.noSelect ops = true) (hQ : ∀ c a d v w, Q (.panic c) (Act.put a d v) w → Q (.panic c) a w) (t : Tr) : ∀ (n : Nat) (listed : Array Bool) (a : Act) (w : World),
    t.ok ops hold n listed = true → wpT P ops Q S hold t a w → (t.idx = [] → t ≠ .nil → wpAnyX P ops Q S hold n listed a w) ∧
      ∀ k ∈ t.idx, wpOp P ops Q k (fun a' w' => (hold k = true → S w → S w') ∧ wpAnyX P ops Q S hold (n - 1) (listed.setIfInBounds k true) a' w') a w := by
  induction t with
  | lin l =>
    intro n listed a w hp h
    unfold Tr.ok at hp
    rw [Bool.and_eq_true, beq_iff] at hp
    rw [hp.1]
    exact ⟨fun _ _ => wpAnyX_of_plan hs hQ l listed a w hp.2 h, fun k hk => by simp [Tr.idx] at hk⟩
  | br l t ih =>
    intro n listed a w hp h
    unfold Tr.ok at hp
    rw [Bool.and_eq_true, Bool.and_eq_true, Nat.ble_eq] at hp
    refine ⟨fun _ _ => ?_, fun k hk => by simp [Tr.idx] at hk⟩
    obtain ⟨m, rfl⟩ : ∃ m, n = l.length + (m + 1) := ⟨n - l.length - 1, by omega⟩
    refine wpAnyX_takes hs hQ (fin := fun q => (Region.ready .any ops q) == t.idx && t.ok ops hold (l.length + (m + 1) - l.length) q) (fun q a w hf hk => ?_) l listed a w hp.1.1 h
    rw [Bool.and_eq_true] at hf
    have hr : Region.ready .any ops q = t.idx := by simpa using hf.1
    have h2 := (ih _ _ _ _ hf.2 hk).2
    rw [Nat.add_sub_cancel_left, Nat.add_sub_cancel] at h2
    refine ⟨fun h0 => ?_, fun k hk' => ?_⟩
    · rw [hr] at h0
      rw [h0] at hp
      simp at hp
    · rw [hr] at hk'
      exact h2 k hk'
  | nil =>
    intro n listed a w _ _
    exact ⟨fun _ h => absurd rfl h, fun k hk => by simp [Tr.idx] at hk⟩
  | alt i t r ih1 ih2 =>
    intro n listed a w hp h
    unfold Tr.ok at hp
    rw [Bool.and_eq_true, Bool.and_eq_true] at hp
    obtain ⟨ha, hb⟩ : GoK P ops Q S hold i (wpT P ops Q S hold t) a w ∧ wpT P ops Q S hold r a w := h
    refine ⟨fun h0 => by simp [Tr.idx] at h0, fun k hk => ?_⟩
    rcases List.mem_cons.1 hk with rfl | hk
    · refine wpOp_mono (fun a' w' h5 => ⟨h5.1, ?_⟩) ha
      exact (ih1 _ _ _ _ hp.1.2 h5.2).1 (plan_idx hp.1.1).1 (plan_idx hp.1.1).2
    · exact (ih2 _ _ _ _ hp.2 hb).2 k hk
end
theorem drawnT {P : Program} {n : Nat} {env : Env} {w : World} {Q : Exit → Act → World → Prop} {id : Nat} {l : List Oper} (S : World → Prop) (hold : Nat → Bool) (t : Tr) [hm : Mixed P] (hs : Region.noSelect l.toArray = true)
    (hp : (t.isPlan && t.ok l.toArray hold l.length (Array.replicate l.length false)) = true)
    (h : E n env w.drew (wpT P l.toArray (NoPanic Q) S hold t)) : E n env w ((Code.region id l.toArray true).wp P Q) := by
  constructor; intro a ha
  refine wp_region_noPanic (wp_region_any hm.m (wpAny_of_X (S := S) (hold := hold) _ _ _ _ ?_))
  rw [Bool.and_eq_true] at hp
  have hlen : l.toArray.size = l.length := by simp
  rw [hlen]
  exact (wpAnyX_of_tree hs (fun c a d v w h => h) t _ _ a _ hp.2 (h.run a ha)).1 (plan_idx hp.1).1 (plan_idx hp.1).2
theorem goK {P : Program} {n : Nat} {env : Env} {w : World} {Q : Exit → Act → World → Prop} {S : World → Prop} {hold : Nat → Bool} {ops : Array Oper} {i : Nat} {o : Oper} {K : Act → World → Prop} (hi : nth ops.toList i = some o) (hw : Wanted n env ops o true)
    (h : OW P n env w o (Went S hold i K) Q) : E n env w (GoK P ops Q S hold i K) := by
  constructor; intro a ha
  have hi := (nth_array ops i).symm.trans hi
  have h1 : wpOp P ops Q i (Went S hold i K) a w := by
    unfold wpOp
    simp only [hi, hw a ha, if_true]
    exact .inl (h.run a ha)
  exact wpOp_mono (fun a' w' h2 => ⟨fun hh _ => h2.1 hh, h2.2⟩) h1
end Go.RX
namespace Go.GX
open Go Go.RowKit Go.RR Go.RX
section
variable {P : Program} {n : Nat} {env : Env} {b : Base} {ps : List Pf} {hp hpS : List Res} {Q : Exit → Act → World → Prop} {K : Act → World → Prop}
theorem drawnT {id : Nat} {l : List Oper} (hold : Nat → Bool) (t : Tr) [hm : Mixed P] (hs : Region.noSelect l.toArray = true) (hpl : (t.isPlan && t.ok l.toArray hold l.length (Array.replicate l.length false)) = true)
    (h : ∀ wd F, AllP F wd ps → AllR F wd [] → G n env b (Kept wd F :: ps) hp (wpT P l.toArray (NoPanic Q) (SS wd F []) hold t)) : G n env b ps hp ((Code.region id l.toArray true).wp P Q) := by
  constructor
  rintro w ⟨F, s⟩
  have s := s.drew
  refine RX.drawnT (SS w.drew F []) hold t hs hpl ((h w.drew F s.fs no_r).run w.drew ⟨F, s.upd, s.lt, s.old, fun p hp => ?_, s.rs, s.apF, s.apart, s.on⟩)
  rcases List.mem_cons.1 hp with rfl | hp
  · exact ⟨Agree.refl _ _, fun _ _ h => h⟩
  · exact s.fs p hp
variable {ops : Array Oper} {S : World → Prop} {hold : Nat → Bool}
theorem treeL {l : List (Nat × Bool)} (h_ : G n env b ps hp (wpPlan P ops Q S hold l)) : G n env b ps hp (wpT P ops Q S hold (.lin l)) := h_
theorem treeB {l : List (Nat × Bool)} {t : Tr} (h_ : G n env b ps hp (wpPlan P ops (AtEnd Q (wpT P ops Q S hold t)) S hold l)) : G n env b ps hp (wpT P ops Q S hold (.br l t)) := h_
theorem treeO {i : Nat} {t : Tr} (h_ : G n env b ps hp (GoK P ops Q S hold i (wpT P ops Q S hold t))) : G n env b ps hp (wpT P ops Q S hold (.alt i t .nil)) := ⟨fun w s => ⟨fun a ha => ⟨(h_.run w s).run a ha, trivial⟩⟩⟩
theorem treeA {i : Nat} {t r : Tr} (h1 : G n env b ps hp (GoK P ops Q S hold i (wpT P ops Q S hold t))) (h2 : G n env b ps hp (wpT P ops Q S hold r)) : G n env b ps hp (wpT P ops Q S hold (.alt i t r)) := ⟨fun w s => ⟨fun a ha => ⟨(h1.run w s).run a ha, (h2.run w s).run a ha⟩⟩⟩
theorem endK (h_ : G n env b ps hp K) : G n env b ps hp (wpPlan P ops (AtEnd Q K) S hold []) := h_
theorem gok {i : Nat} {o : Oper} (h : GO P n env b ps hp o (Went S hold i K) Q) (hi : nth ops.toList i = some o := by exact rfl) (hw : Wanted n env ops o true := by first | exact Go.RX.plain rfl | exact Go.RX.guarded rfl rfl rfl (by with_reducible rfl)) :
    G n env b ps hp (GoK P ops Q S hold i K) := ⟨fun w s => RX.goK hi hw (h.run w s)⟩
theorem s_gok {i : Nat} (h_ : G n env b ps hp (GoK P ops Q S hold i K)) : G n env b ps hp (GoK P ops Q S hold i K) := h_
end
end Go.GX

/- The walk's steps, as default arguments: what is left of a goal is handed back, with all that was brought in ahead of it. Written by wip/rx.py walk. No program in sight. -/
namespace Go.GX
open Go Go.RowKit Go.RR Go.RX
/-- What is left of a goal. -/
structure Hold (p : Prop) : Prop where
  out : p
end Go.GX
