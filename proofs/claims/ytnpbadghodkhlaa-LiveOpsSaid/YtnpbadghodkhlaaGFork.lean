/- Regions in which two that act may come up in either order. No program in sight. -/
import Derived.Test.YtnpbadghodkhlaaGFun
namespace Go.RX
open Go Go.RowKit Go.RR
section
variable {P : Program} {ops : Array Oper} {S : World → Prop} {hold : Nat → Bool}
/-- Behind what is taken first: either one, then the other. -/
def Fork (P : Program) (ops : Array Oper) (Q : Exit → Act → World → Prop) (S : World → Prop) (hold : Nat → Bool) (la lb : List (Nat × Bool)) : Exit → Act → World → Prop
  | .normal, a, w => wpPlan P ops Q S hold la a w ∧ wpPlan P ops Q S hold lb a w
  | e, a, w => Q e a w
def forkOk (ops : Array Oper) (hold : Nat → Bool) (la lb : List (Nat × Bool)) : List (Nat × Bool) → Array Bool → Bool
  | [], listed => match la, lb with
    | (i, false) :: ra, (j, false) :: rb => (Region.ready .any ops listed) == [i, j] && Nat.beq ra.length rb.length && planOk ops hold ra (listed.setIfInBounds i true) && planOk ops hold rb (listed.setIfInBounds j true)
    | _, _ => false
  | (i, true) :: r, listed => (Region.ready .any ops listed).contains i && freeX ops hold listed i && forkOk ops hold la lb r (listed.setIfInBounds i true)
  | (_, false) :: _, _ => false
theorem wpAnyX_of_fork {Q : Exit → Act → World → Prop} (hs : Region.noSelect ops = true) (hQ : ∀ c a d v w, Q (.panic c) (Act.put a d v) w → Q (.panic c) a w) {la lb : List (Nat × Bool)} : ∀ (pre : List (Nat × Bool)) (listed : Array Bool) (a : Act) (w : World),
    forkOk ops hold la lb pre listed = true → wpPlan P ops (Fork P ops Q S hold la lb) S hold pre a w → wpAnyX P ops Q S hold (pre.length + la.length) listed a w
  | [], listed, a, w, hp, h => by
    unfold forkOk at hp
    split at hp
    · rename_i i ra j rb
      simp only [Bool.and_eq_true, beq_iff] at hp
      obtain ⟨⟨⟨h1, h2⟩, h3⟩, h4⟩ := hp
      have hr : Region.ready .any ops listed = [i, j] := by simpa using h1
      obtain ⟨ha, hb⟩ : wpPlan P ops Q S hold ((i, false) :: ra) a w ∧ wpPlan P ops Q S hold ((j, false) :: rb) a w := h
      rw [List.length_nil, Nat.zero_add, List.length_cons]
      refine ⟨fun h0 => absurd (hr ▸ h0) (by simp), fun k hk => ?_⟩
      rw [hr] at hk
      rcases List.mem_cons.1 hk with rfl | hk
      · exact wpOp_mono (fun a' w' h5 => ⟨h5.1, wpAnyX_of_plan hs hQ ra _ a' w' h3 h5.2⟩) ha
      · obtain rfl : k = j := by simpa using hk
        rw [h2]
        exact wpOp_mono (fun a' w' h5 => ⟨h5.1, wpAnyX_of_plan hs hQ rb _ a' w' h4 h5.2⟩) hb
    · simp at hp
  | (i, true) :: r, listed, a, w, hp, ⟨oi, v, hi, hy, hS, h⟩ => by
    simp only [forkOk, Bool.and_eq_true] at hp
    have := wpAnyX_first (P := P) (Q := Q) hi (Region.noSelect_spec hs) (fun c a w => hQ c a oi.dst v w) _ (Tame oi S) (r.length + la.length) listed a w (waits_spec (List.range ops.size) [] (fun j oj _ h => by simp at h)) (freeX_spec hi hp.1.2) (by simpa using hp.1.1) hy hS (wpAnyX_of_fork hs hQ r _ _ w hp.2 h)
    rw [List.length_cons, Nat.add_right_comm]; exact this
  | (_, false) :: _, _, _, _, hp, _ => by simp [forkOk] at hp
end
theorem drawnF {P : Program} {n : Nat} {env : Env} {w : World} {Q : Exit → Act → World → Prop} {id : Nat} {l : List Oper} (S : World → Prop) (hold : Nat → Bool) (pre la lb : List (Nat × Bool)) [hm : Mixed P] (hlen : Nat.beq l.length (pre.length + la.length) = true) (hs : Region.noSelect l.toArray = true)
    (hp : forkOk l.toArray hold la lb pre (Array.replicate (pre.length + la.length) false) = true)
    (h : E n env w.drew (wpPlan P l.toArray (Fork P l.toArray (NoPanic Q) S hold la lb) S hold pre)) : E n env w ((Code.region id l.toArray true).wp P Q) := by
  constructor; intro a ha
  refine wp_region_noPanic (wp_region_any hm.m (wpAny_of_X (S := S) (hold := hold) _ _ _ _ ?_))
  have hlen : l.toArray.size = pre.length + la.length := by simpa using beq_iff.1 hlen
  rw [hlen]
  exact wpAnyX_of_fork hs (fun c a d v w h => h) pre _ a _ hp (h.run a ha)
end Go.RX
namespace Go.GX
open Go Go.RowKit Go.RR Go.RX
section
variable {P : Program} {n : Nat} {env : Env} {b : Base} {ps : List Pf} {hp hpS : List Res} {Q : Exit → Act → World → Prop} {K : Act → World → Prop}
/-- Either order: nothing of one's own is held. -/
theorem drawnF {id : Nat} {l : List Oper} (hold : Nat → Bool) (pre la lb : List (Nat × Bool)) [hm : Mixed P] (hlen : Nat.beq l.length (pre.length + la.length) = true) (hs : Region.noSelect l.toArray = true) (hpl : forkOk l.toArray hold la lb pre (Array.replicate (pre.length + la.length) false) = true)
    (h : ∀ wd F, AllP F wd ps → AllR F wd [] → G n env b (Kept wd F :: ps) hp (wpPlan P l.toArray (Fork P l.toArray (NoPanic Q) (SS wd F []) hold la lb) (SS wd F []) hold pre)) : G n env b ps hp ((Code.region id l.toArray true).wp P Q) := by
  constructor
  rintro w ⟨F, s⟩
  have s := s.drew
  refine RX.drawnF (SS w.drew F []) hold pre la lb hlen hs hpl ((h w.drew F s.fs no_r).run w.drew ⟨F, s.upd, s.lt, s.old, fun p hp => ?_, s.rs, s.apF, s.apart, s.on⟩)
  rcases List.mem_cons.1 hp with rfl | hp
  · exact ⟨Agree.refl _ _, fun _ _ h => h⟩
  · exact s.fs p hp
theorem fork {ops : Array Oper} {S : World → Prop} {hold : Nat → Bool} {la lb : List (Nat × Bool)} (ha : G n env b ps hp (wpPlan P ops Q S hold la)) (hb : G n env b ps hp (wpPlan P ops Q S hold lb)) : G n env b ps hp (wpPlan P ops (Fork P ops Q S hold la lb) S hold []) :=
  ⟨fun w s => ⟨fun a h => ⟨(ha.run w s).run a h, (hb.run w s).run a h⟩⟩⟩
end
end Go.GX
