import Derived.Test.YtomadjefdghliaaV15
import Derived.Test.YtomadjefdghliaaV29
/- Chapter 30's loop, plainly: what its rounds do. No program in sight. -/
namespace Go.Proofs.Ytomadjefdghliaa
open Go.Api Go.RtM Go.RiseM Go.ReachM
def lNew : Ins := ⟨11, 4, 0, 0, 0, []⟩
def lA (n m : Nat) : List Ins := [⟨1, 0, 0, 0, (n : Int), []⟩, ⟨1, 1, 0, 0, 1, []⟩, ⟨1, 2, 0, 0, 0, []⟩, ⟨4, 3, 2, 0, 19, []⟩, ⟨17, 3, 0, 8 + (m : Int), 5, []⟩, ⟨21, 0, 0, 0, 0, [0]⟩]
def lB (m : Nat) : List Ins := [⟨22, 0, 0, 0, 0, [0]⟩, ⟨16, 0, 0, 0, 9 + (m : Int), []⟩, ⟨18, -1, 0, 0, 0, []⟩, ⟨4, 0, 0, 1, 15, []⟩, ⟨16, 0, 0, 0, 3, []⟩]
def lI (n m : Nat) : List Ins := lA n m ++ List.replicate m lNew ++ lB m
def lU (n m : Nat) : Unt := ⟨0, [-2, -2, -2, -2, 0], -3, [], [0], lI n m⟩
def lT (n m : Nat) : RTg := ⟨[⟨false, [-2]⟩], [], [lU n m], 0⟩
theorem li_a (n m : Nat) {p : Nat} {q : Int} (hp : p < 6) {i : Ins} (h : (lA n m)[p]? = some i) (hq : q = (p : Int) := by rfl) : gt (lU n m).ins q = some i := by
  rw [hq, gt_nat]
  show (lA n m ++ List.replicate m lNew ++ lB m)[p]? = some i
  rw [List.append_assoc, List.getElem?_append_left (by show p < 6; exact hp)]
  exact h
theorem li_n (n m : Nat) {j : Nat} (hj : j < m) : gt (lU n m).ins ((6 + j : Nat) : Int) = some lNew := by
  rw [gt_nat]
  show (lA n m ++ List.replicate m lNew ++ lB m)[6 + j]? = some lNew
  rw [List.append_assoc, List.getElem?_append_right (by show 6 ≤ 6 + j; omega), show 6 + j - (lA n m).length = j by show 6 + j - 6 = j; omega, List.getElem?_append_left (by rw [List.length_replicate]; exact hj), List.getElem?_replicate_of_lt hj]
theorem li_b (n m : Nat) {p : Nat} {i : Ins} (h : (lB m)[p]? = some i) : gt (lU n m).ins ((6 + m + p : Nat) : Int) = some i := by
  rw [gt_nat]
  show (lA n m ++ List.replicate m lNew ++ lB m)[6 + m + p]? = some i
  have hl : (lA n m ++ List.replicate m lNew).length = 6 + m := by rw [List.length_append, List.length_replicate]; rfl
  rw [List.getElem?_append_right (by omega), hl, show 6 + m + p - (6 + m) = p by omega]
  exact h
/-- A run of one frame. -/
def mk1 (T : Tb) (pc : Int) (vs : List Int) (R : Int → Int) (st sl : Int) : Ms := ⟨T, [], [], [⟨0, pc, vs, -1, R⟩], 0, 0, [], st, sl⟩
theorem mk1_step {n m : Nat} {T T' : Tb} {pc pc' : Int} {vs vs' : List Int} {R R' : Int → Int} {st sl : Int} {i : Ins} (hi : gt (lU n m).ins pc = some i)
    (hg : (mk1 T (pc + 1) vs R (st + 1) sl).go (lT n m) [] ⟨0, pc + 1, vs, -1, R⟩ i = mk1 T' pc' vs' R' (st + 1) sl) :
    (mk1 T pc vs R st sl).step (lT n m) [] = mk1 T' pc' vs' R' (st + 1) (min sl (2 - (liveN T'.B : Int))) := by
  have hn : (mk1 T pc vs R st sl).next (lT n m) = some (⟨0, pc, vs, -1, R⟩, i) := by
    show (match gt [lU n m] 0 with | none => none | some u => match gt u.ins pc with | none => none | some i => some ((⟨0, pc, vs, -1, R⟩ : Fr), i)) = _
    rw [show gt [lU n m] 0 = some (lU n m) from rfl]
    dsimp only
    rw [hi]
  rw [step_next hn]
  rw [show (mk1 T pc vs R st sl).pre ⟨0, pc, vs, -1, R⟩ = mk1 T (pc + 1) vs R (st + 1) sl from rfl, hg]
  unfold Ms.less
  rw [if_pos (show (mk1 T' pc' vs' R' (st + 1) sl).en = 0 from rfl)]
  rfl
theorem it1 {t : RTg} {G : List Int} {M M' : Ms} {k : Nat} (h : M.en = 0) (hs : M.step t G = M') : iter t G (k + 1) M = iter t G k M' := by
  subst hs
  exact if_pos h
/-- The table after so many rounds. -/
structure TL (j m : Nat) (T : Tb) : Prop where
  B : T.B = true :: List.replicate j false
  dead : ∀ q ∈ T.L, hasB T.B q.1 = false ∧ q.1 ≤ (j : Int) + 1
  peak : T.peak = 1 + ((min j 1 : Nat) : Int)
  most : T.most = (m : Int) * ((min j 1 : Nat) : Int)
theorem live_rep (j : Nat) : liveN (true :: List.replicate j false) = 1 := by
  unfold liveN
  rw [List.countP_cons_of_pos rfl, List.countP_eq_zero.2 (by intro x hx; rw [(List.mem_replicate.1 hx).2]; simp)]
/-- The table within a round: so many new things. -/
structure TN (j m i : Nat) (T0 T : Tb) : Prop where
  B : T.B = true :: List.replicate j false ++ [true]
  L : ∃ l : List Cell, T.L = T0.L ++ l ∧ l.length = i ∧ ∀ q ∈ l, q.1 = (j : Int) + 2
  peak : T.peak = 2
  most : T.most = max T0.most (i : Int)
theorem at_last (j : Nat) : (true :: List.replicate j false ++ [true])[j + 1]? = some true := by
  rw [List.getElem?_append_right (by simp)]
  simp
theorem has_last (j : Nat) : hasB (true :: List.replicate j false ++ [true]) ((j : Int) + 2) = true := by
  have := hasB_in (at_last j)
  rwa [show (((j + 1 : Nat) : Int) + 1) = (j : Int) + 2 by omega] at this
theorem now_dead {B : List Bool} {l : List Cell} (h : ∀ q ∈ l, hasB B q.1 = false) : nowN B l = 0 := by
  unfold nowN
  rw [List.countP_eq_zero]
  intro q hq
  rw [h q hq]; simp
theorem now_all {B : List Bool} {l : List Cell} (h : ∀ q ∈ l, hasB B q.1 = true) : nowN B l = l.length := by
  unfold nowN
  rw [List.countP_eq_length]
  exact h
theorem TN.start {j m : Nat} {T : Tb} (h : TL j m T) : TN j m 0 T T.make := by
  refine ⟨by show T.B ++ [true] = _; rw [h.B], ⟨[], (List.append_nil _).symm, rfl, fun q hq => by cases hq⟩, ?_, ?_⟩
  · show max T.peak _ = 2
    rw [h.peak, liveN_app, h.B, live_rep]
    have : min j 1 ≤ 1 := Nat.min_le_right _ _
    omega
  · show T.most = max T.most ((0 : Nat) : Int)
    rw [h.most]
    have : 0 ≤ (m : Int) * ((min j 1 : Nat) : Int) := Int.mul_nonneg (by omega) (by omega)
    omega
theorem TN.add {j m i : Nat} {T0 T : Tb} (h0 : TL j m T0) (h : TN j m i T0 T) : TN j m (i + 1) T0 (T.add ((j : Int) + 2) 1) := by
  have hh : hasB T.B ((j : Int) + 2) = true := by rw [h.B]; exact has_last j
  obtain ⟨l, hl, hi, hq⟩ := h.L
  have e : T.add ((j : Int) + 2) 1 = ⟨T.B, T.L ++ [((j : Int) + 2, List.replicate (cells 1) 0)], T.peak, max T.most (nowN T.B (T.L ++ [((j : Int) + 2, List.replicate (cells 1) 0)]) : Int)⟩ := if_pos hh
  rw [e]
  have hn : nowN T.B (T.L ++ [((j : Int) + 2, List.replicate (cells 1) 0)]) = i + 1 := by
    rw [nowN_snoc _ _ _ hh, hl]
    unfold nowN
    rw [List.countP_append]
    have h1 : nowN T.B T0.L = 0 := now_dead fun q hq => by
      obtain ⟨d1, d2⟩ := h0.dead q hq
      rw [h.B, hasB_app (by rw [List.length_cons, List.length_replicate]; omega), ← h0.B]
      exact d1
    have h2 : nowN T.B l = l.length := now_all fun q hq' => by rw [hq q hq']; exact hh
    unfold nowN at h1 h2
    rw [h1, h2, hi]
    omega
  refine ⟨h.B, ⟨l ++ [((j : Int) + 2, List.replicate (cells 1) 0)], ?_, ?_, ?_⟩, h.peak, ?_⟩
  · show T.L ++ _ = _
    rw [hl, List.append_assoc]
  · rw [List.length_append, hi]; rfl
  · intro q hq'
    rcases List.mem_append.1 hq' with hq' | hq'
    · exact hq q hq'
    · rw [List.mem_singleton.1 hq']
  · show max T.most _ = _
    rw [hn, h.most]
    omega
theorem set_last (j : Nat) : (true :: List.replicate j false ++ [true]).set (j + 1) false = true :: List.replicate (j + 1) false := by
  rw [List.set_append_right _ _ (by simp), List.replicate_succ']
  simp
theorem TN.done {j m : Nat} {T0 T : Tb} (h0 : TL j m T0) (h : TN j m m T0 T) : TL (j + 1) m (T.rem ((j : Int) + 2)) := by
  have hh : hasB T.B ((j : Int) + 2) = true := by rw [h.B]; exact has_last j
  have e : T.rem ((j : Int) + 2) = ⟨T.B.set ((j : Int) + 2 - 1).toNat false, T.L, T.peak, T.most⟩ := if_pos hh
  have e1 : ((j : Int) + 2 - 1).toNat = j + 1 := by omega
  have eB : T.B.set (j + 1) false = true :: List.replicate (j + 1) false := by rw [h.B]; exact set_last j
  obtain ⟨l, hl, hi, hq⟩ := h.L
  rw [e, e1]
  have hm1 : min (j + 1) 1 = 1 := by omega
  refine ⟨eB, fun q hq' => ?_, ?_, ?_⟩
  · have hq' : q ∈ T.L := hq'
    show hasB (T.B.set (j + 1) false) q.1 = false ∧ _
    rw [hl] at hq'
    rcases List.mem_append.1 hq' with hq' | hq'
    · obtain ⟨d1, d2⟩ := h0.dead q hq'
      refine ⟨?_, by omega⟩
      rw [hasB_set (by omega), h.B, hasB_app (by rw [List.length_cons, List.length_replicate]; omega), ← h0.B]
      exact d1
    · rw [hq q hq']
      refine ⟨?_, by omega⟩
      have hlen : j + 1 < T.B.length := by rw [h.B]; simp
      have := hasB_set_same (B := T.B) (k := j + 1) hlen
      rwa [show (((j + 1 : Nat) : Int) + 1) = (j : Int) + 2 by omega] at this
  · show T.peak = _
    rw [h.peak, hm1]; rfl
  · show T.most = _
    rw [h.most, h0.most, hm1]
    have h1 : (m : Int) * ((min j 1 : Nat) : Int) ≤ m := by
      rcases Nat.lt_or_ge j 1 with hj | hj
      · rw [show min j 1 = 0 by omega]; simp
      · rw [show min j 1 = 1 by omega]; simp
    rw [show (((1 : Nat) : Int)) = 1 from rfl, Int.mul_one]
    omega
theorem live_new (j : Nat) : liveN (true :: List.replicate j false ++ [true]) = 2 := by rw [liveN_app, live_rep]
/-- So many things, one behind the other. -/
theorem news {n m j : Nat} {T0 Tc : Tb} (h0 : TL j m T0) (hc : TN j m 0 T0 Tc) {R : Int → Int} (hR : R 0 = (j : Int) + 2) (a x y st : Int) : ∀ i : Nat, i ≤ m → ∃ T y', TN j m i T0 T ∧ iter (lT n m) [] i (mk1 Tc 6 [a, 1, 0, x, y] R st 0) = mk1 T (6 + (i : Int)) [a, 1, 0, x, y'] R (st + i) 0
  | 0, _ => ⟨Tc, y, hc, by show mk1 _ _ _ _ _ _ = _; rw [show ((0 : Nat) : Int) = 0 from rfl, Int.add_zero, Int.add_zero]⟩
  | i + 1, hi => by
    obtain ⟨T, y', h1, h2⟩ := news h0 hc hR a x y st i (by omega)
    refine ⟨T.add ((j : Int) + 2) 1, ((T.L.length + 1 : Nat) : Int), h1.add h0, ?_⟩
    rw [iter_add, h2]
    have hg := li_n n m (show i < m by omega)
    rw [show ((6 + i : Nat) : Int) = 6 + (i : Int) by omega] at hg
    have hh : hasB T.B (R 0) = true := by rw [hR, h1.B]; exact has_last j
    have hs := mk1_step (T := T) (T' := T.add ((j : Int) + 2) 1) (vs := [a, 1, 0, x, y']) (vs' := [a, 1, 0, x, ((T.L.length + 1 : Nat) : Int)]) (R := R) (R' := R) (st := st + i) (sl := 0) (pc' := 6 + (i : Int) + 1) hg (by
      rw [go11 rfl]
      show Ms.lies _ [] _ 4 0 ((([-2] : List Int).length : Nat) : Int) = _
      unfold Ms.lies
      rw [if_pos (show hasB _ (reg [] _ 0) = true from hh), show reg [] (⟨0, 6 + (i : Int) + 1, [a, 1, 0, x, y'], -1, R⟩ : Fr) 0 = (j : Int) + 2 from hR]
      rfl)
    rw [it1 rfl hs]
    show mk1 _ _ _ _ _ (min 0 (2 - (liveN (T.add ((j : Int) + 2) 1).B : Int))) = _
    rw [(h1.add h0).B, live_new, show ((i + 1 : Nat) : Int) = (i : Int) + 1 by omega, Int.add_assoc, Int.add_assoc]
    rfl
theorem w64_in {x : Int} (h : -1000000 ≤ x ∧ x ≤ 1000000) : w64 x = x := RX.wrap_in (by omega)
/-- A round. -/
theorem round {n m j k : Nat} (hk : k ≤ 1000) {T : Tb} (h : TL j m T) {R : Int → Int} (hR : R 0 = 0) (x y st sl : Int) (hsl : 0 ≤ sl ∧ sl ≤ 1) :
    ∃ T' y' R', TL (j + 1) m T' ∧ R' 0 = 0 ∧ iter (lT n m) [] (m + 7) (mk1 T 3 [(k : Int) + 1, 1, 0, x, y] R st sl) = mk1 T' 3 [(k : Int), 1, 0, 1, y'] R' (st + m + 7) 0 := by
  have hB1 : (liveN T.B : Int) = 1 := by rw [h.B, live_rep]; rfl
  have s3 := mk1_step (T := T) (T' := T) (vs := [(k : Int) + 1, 1, 0, x, y]) (vs' := [(k : Int) + 1, 1, 0, 1, y]) (R := R) (R' := R) (st := st) (sl := sl) (pc' := 4) (li_a n m (p := 3) (q := 3) (by omega) rfl) (by
    rw [go4 rfl]
    show Ms.got _ _ 3 (bin 19 0 ((k : Int) + 1)) = _
    rw [show bin 19 0 ((k : Int) + 1) = (1, 0) by show (flg (0 < (k : Int) + 1), (0 : Int)) = _; unfold flg; rw [if_pos (by omega)]]
    rfl)
  have s4 := mk1_step (T := T) (T' := T) (vs := [(k : Int) + 1, 1, 0, 1, y]) (vs' := [(k : Int) + 1, 1, 0, 1, y]) (R := R) (R' := R) (st := st + 1) (sl := min sl (2 - (liveN T.B : Int))) (pc' := 5) (li_a n m (p := 4) (q := 4) (by omega) rfl) (by rw [go17 rfl]; rfl)
  have hmk : (T.B.length + 1 : Nat) = j + 2 := by rw [h.B, List.length_cons, List.length_replicate]
  have s5 := mk1_step (T := T) (T' := T.make) (vs := [(k : Int) + 1, 1, 0, 1, y]) (vs' := [(k : Int) + 1, 1, 0, 1, y]) (R := R) (R' := updI R 0 ((j : Int) + 2)) (st := st + 1 + 1) (sl := min (min sl (2 - (liveN T.B : Int))) (2 - (liveN T.B : Int))) (pc' := 6) (li_a n m (p := 5) (q := 5) (by omega) rfl) (by
    rw [go21 rfl]
    have e : crT [0] T R = (T.make, updI R 0 ((j : Int) + 2), true) := by
      show (if R 0 ≠ 0 then (T, R, false) else (T.make, updI R 0 ((T.B.length + 1 : Nat) : Int), true)) = _
      rw [if_neg (by rw [hR]; simp), hmk]
      rw [show (((j + 2 : Nat)) : Int) = (j : Int) + 2 by omega]
    show Ms.regs _ _ (crT [0] T R) = _
    rw [e]
    rfl)
  have hTN := TN.start h
  have hlm : (liveN T.make.B : Int) = 2 := by rw [hTN.B, live_new]; rfl
  rw [hB1] at s3 s4 s5
  rw [hlm] at s5
  rw [show min (min (min sl (2 - 1)) (2 - 1)) (2 - 2) = (0 : Int) by omega] at s5
  obtain ⟨T2, y2, h2, e2⟩ := news (n := n) h hTN (R := updI R 0 ((j : Int) + 2)) (if_pos rfl) ((k : Int) + 1) 1 y (st + 1 + 1 + 1) m (Nat.le_refl _)
  have hT3 := h2.done h
  have hl2 : (liveN T2.B : Int) = 2 := by rw [h2.B, live_new]; rfl
  have hl3 : (liveN (T2.rem ((j : Int) + 2)).B : Int) = 1 := by rw [hT3.B, live_rep]; rfl
  have g6 := li_b n m (p := 0) (i := ⟨22, 0, 0, 0, 0, [0]⟩) rfl
  have g7 := li_b n m (p := 1) (i := ⟨16, 0, 0, 0, 9 + (m : Int), []⟩) rfl
  have g9 := li_b n m (p := 3) (i := ⟨4, 0, 0, 1, 15, []⟩) rfl
  have g10 := li_b n m (p := 4) (i := ⟨16, 0, 0, 0, 3, []⟩) rfl
  rw [show ((6 + m + 0 : Nat) : Int) = 6 + (m : Int) by omega] at g6
  rw [show ((6 + m + 1 : Nat) : Int) = 6 + (m : Int) + 1 by omega] at g7
  rw [show ((6 + m + 3 : Nat) : Int) = 9 + (m : Int) by omega] at g9
  rw [show ((6 + m + 4 : Nat) : Int) = 9 + (m : Int) + 1 by omega] at g10
  have s6 := mk1_step (T := T2) (T' := T2.rem ((j : Int) + 2)) (vs := [(k : Int) + 1, 1, 0, 1, y2]) (vs' := [(k : Int) + 1, 1, 0, 1, y2]) (R := updI R 0 ((j : Int) + 2)) (R' := updI (updI R 0 ((j : Int) + 2)) 0 0) (st := st + 1 + 1 + 1 + m) (sl := 0) (pc' := 6 + (m : Int) + 1) g6 (by
    rw [go22 rfl]
    have e : rmT [0] T2 (updI R 0 ((j : Int) + 2)) = (T2.rem ((j : Int) + 2), updI (updI R 0 ((j : Int) + 2)) 0 0, true) := by
      show (if updI R 0 ((j : Int) + 2) 0 = 0 then (T2, updI R 0 ((j : Int) + 2), false) else (T2.rem (updI R 0 ((j : Int) + 2) 0), updI (updI R 0 ((j : Int) + 2)) 0 0, true)) = _
      rw [show updI R 0 ((j : Int) + 2) 0 = (j : Int) + 2 from if_pos rfl, if_neg (by omega)]
    show Ms.regs _ _ (rmT [0] T2 (updI R 0 ((j : Int) + 2))) = _
    rw [e]
    rfl)
  have s7 := mk1_step (T := T2.rem ((j : Int) + 2)) (T' := T2.rem ((j : Int) + 2)) (vs := [(k : Int) + 1, 1, 0, 1, y2]) (vs' := [(k : Int) + 1, 1, 0, 1, y2]) (R := updI (updI R 0 ((j : Int) + 2)) 0 0) (R' := updI (updI R 0 ((j : Int) + 2)) 0 0) (st := st + 1 + 1 + 1 + m + 1) (sl := min 0 (2 - (liveN (T2.rem ((j : Int) + 2)).B : Int))) (pc' := 9 + (m : Int)) g7 (by rw [go16 rfl]; rfl)
  have s9 := mk1_step (T := T2.rem ((j : Int) + 2)) (T' := T2.rem ((j : Int) + 2)) (vs := [(k : Int) + 1, 1, 0, 1, y2]) (vs' := [(k : Int), 1, 0, 1, y2]) (R := updI (updI R 0 ((j : Int) + 2)) 0 0) (R' := updI (updI R 0 ((j : Int) + 2)) 0 0) (st := st + 1 + 1 + 1 + m + 1 + 1) (sl := min (min 0 (2 - (liveN (T2.rem ((j : Int) + 2)).B : Int))) (2 - (liveN (T2.rem ((j : Int) + 2)).B : Int))) (pc' := 9 + (m : Int) + 1) g9 (by
    rw [go4 rfl]
    show Ms.got _ _ 0 (bin 15 ((k : Int) + 1) 1) = _
    rw [show bin 15 ((k : Int) + 1) 1 = ((k : Int), 0) by show (w64 ((k : Int) + 1 - 1), (0 : Int)) = _; rw [w64_in (by omega)]; rw [show (k : Int) + 1 - 1 = k by omega]]
    rfl)
  have s10 := mk1_step (T := T2.rem ((j : Int) + 2)) (T' := T2.rem ((j : Int) + 2)) (vs := [(k : Int), 1, 0, 1, y2]) (vs' := [(k : Int), 1, 0, 1, y2]) (R := updI (updI R 0 ((j : Int) + 2)) 0 0) (R' := updI (updI R 0 ((j : Int) + 2)) 0 0) (st := st + 1 + 1 + 1 + m + 1 + 1 + 1) (sl := min (min (min 0 (2 - (liveN (T2.rem ((j : Int) + 2)).B : Int))) (2 - (liveN (T2.rem ((j : Int) + 2)).B : Int))) (2 - (liveN (T2.rem ((j : Int) + 2)).B : Int))) (pc' := 3) g10 (by rw [go16 rfl]; rfl)
  rw [hl3] at s6 s7 s9 s10
  refine ⟨T2.rem ((j : Int) + 2), y2, updI (updI R 0 ((j : Int) + 2)) 0 0, hT3, if_pos rfl, ?_⟩
  rw [show m + 7 = (m + 4) + 2 + 1 by omega, it1 rfl s3, show (m + 4) + 2 = (m + 4) + 1 + 1 by omega, it1 rfl s4, it1 rfl s5, iter_add, e2]
  rw [show (4 : Nat) = 3 + 1 from rfl, it1 rfl s6, show (3 : Nat) = 2 + 1 from rfl, it1 rfl s7, show (2 : Nat) = 1 + 1 from rfl, it1 rfl s9, show (1 : Nat) = 0 + 1 from rfl, it1 rfl s10]
  show mk1 _ _ _ _ _ _ = _
  rw [show min (min (min (min 0 (2 - 1)) (2 - 1)) (2 - 1)) (2 - 1) = (0 : Int) by omega, show st + 1 + 1 + 1 + (m : Int) + 1 + 1 + 1 + 1 = st + m + 7 by omega]
/-- All rounds. -/
theorem rounds {n m : Nat} : ∀ (k j : Nat) (T : Tb) (R : Int → Int) (x y st sl : Int), k ≤ 1000 → TL j m T → R 0 = 0 → sl = 1 - ((min j 1 : Nat) : Int) →
    ∃ T' x' y' R', TL (j + k) m T' ∧ iter (lT n m) [] (k * (m + 7)) (mk1 T 3 [(k : Int), 1, 0, x, y] R st sl) = mk1 T' 3 [0, 1, 0, x', y'] R' (st + ((k * (m + 7) : Nat) : Int)) (1 - ((min (j + k) 1 : Nat) : Int))
  | 0, j, T, R, x, y, st, sl, _, h, hR, hs => ⟨T, x, y, R, h, by rw [Nat.zero_mul, hs]; show mk1 _ _ _ _ _ _ = _; rw [show ((0 : Nat) : Int) = 0 from rfl, Int.add_zero]; rfl⟩
  | k + 1, j, T, R, x, y, st, sl, hk, h, hR, hs => by
    obtain ⟨T1, y1, R1, h1, hR1, e1⟩ := round (n := n) (k := k) (by omega) h hR x y st sl (by omega)
    obtain ⟨T2, x2, y2, R2, h2, e2⟩ := rounds k (j + 1) T1 R1 1 y1 (st + m + 7) 0 (by omega) h1 hR1 (by omega)
    refine ⟨T2, x2, y2, R2, by rwa [show j + (k + 1) = j + 1 + k by omega], ?_⟩
    rw [show (k + 1) * (m + 7) = (m + 7) + k * (m + 7) by rw [Nat.add_mul, Nat.one_mul, Nat.add_comm], iter_add, show (((k + 1 : Nat)) : Int) = (k : Int) + 1 by omega, e1, e2]
    rw [show min (j + (k + 1)) 1 = min (j + 1 + k) 1 by omega, show st + (m : Int) + 7 + ((k * (m + 7) : Nat) : Int) = st + (((m + 7) + k * (m + 7) : Nat) : Int) by omega]
theorem l_begin (n m : Nat) : begin_ (lT n m) [] = mk1 Tb.zero.make 0 [0, 0, 0, 0, 0] (fun _ => 0) 0 1 := rfl
theorem tl_begin (m : Nat) : TL 0 m Tb.zero.make := ⟨rfl, fun q hq => (by cases hq), rfl, by show (0 : Int) = (m : Int) * ((0 : Nat) : Int); simp⟩
/-- What is said of the loop. -/
theorem l_said {n m : Nat} (hn : n ≤ 60) (hm : m ≤ 20) : ranP (lT n m) [] [] 3000 = ⟨⟨1, 0, [], ((6 + n * (m + 7) : Nat) : Int)⟩, (n : Int) + 1, (n : Int) + 1, 0, 1 + ((min n 1 : Nat) : Int), 1 - ((min n 1 : Nat) : Int), (m : Int) * ((min n 1 : Nat) : Int)⟩ := by
  have s0 := mk1_step (n := n) (m := m) (T := Tb.zero.make) (T' := Tb.zero.make) (vs := [0, 0, 0, 0, 0]) (vs' := [(n : Int), 0, 0, 0, 0]) (R := fun _ => 0) (R' := fun _ => 0) (st := 0) (sl := 1) (pc' := 1) (li_a n m (p := 0) (q := 0) (by omega) rfl) (by rw [go1 rfl]; rfl)
  have s1 := mk1_step (n := n) (m := m) (T := Tb.zero.make) (T' := Tb.zero.make) (vs := [(n : Int), 0, 0, 0, 0]) (vs' := [(n : Int), 1, 0, 0, 0]) (R := fun _ => 0) (R' := fun _ => 0) (st := 1) (sl := 1) (pc' := 2) (li_a n m (p := 1) (q := 1) (by omega) rfl) (by rw [go1 rfl]; rfl)
  have s2 := mk1_step (n := n) (m := m) (T := Tb.zero.make) (T' := Tb.zero.make) (vs := [(n : Int), 1, 0, 0, 0]) (vs' := [(n : Int), 1, 0, 0, 0]) (R := fun _ => 0) (R' := fun _ => 0) (st := 2) (sl := 1) (pc' := 3) (li_a n m (p := 2) (q := 2) (by omega) rfl) (by rw [go1 rfl]; rfl)
  have s0' : (mk1 Tb.zero.make 0 [0, 0, 0, 0, 0] (fun _ => 0) 0 1).step (lT n m) [] = mk1 Tb.zero.make 1 [(n : Int), 0, 0, 0, 0] (fun _ => 0) 1 1 := s0
  have s1' : (mk1 Tb.zero.make 1 [(n : Int), 0, 0, 0, 0] (fun _ => 0) 1 1).step (lT n m) [] = mk1 Tb.zero.make 2 [(n : Int), 1, 0, 0, 0] (fun _ => 0) 2 1 := s1
  have s2' : (mk1 Tb.zero.make 2 [(n : Int), 1, 0, 0, 0] (fun _ => 0) 2 1).step (lT n m) [] = mk1 Tb.zero.make 3 [(n : Int), 1, 0, 0, 0] (fun _ => 0) 3 1 := s2
  obtain ⟨T', x', y', R', hT, e⟩ := rounds (n := n) n 0 Tb.zero.make (fun _ => 0) 0 0 3 1 (by omega) (tl_begin m) rfl rfl
  rw [Nat.zero_add] at hT e
  have hl : (liveN T'.B : Int) = 1 := by rw [hT.B, live_rep]; rfl
  have s3 := mk1_step (n := n) (m := m) (T := T') (T' := T') (vs := [0, 1, 0, x', y']) (vs' := [0, 1, 0, 0, y']) (R := R') (R' := R') (st := 3 + ((n * (m + 7) : Nat) : Int)) (sl := 1 - ((min n 1 : Nat) : Int)) (pc' := 4) (li_a n m (p := 3) (q := 3) (by omega) rfl) (by rw [go4 rfl]; rfl)
  have s4 := mk1_step (n := n) (m := m) (T := T') (T' := T') (vs := [0, 1, 0, 0, y']) (vs' := [0, 1, 0, 0, y']) (R := R') (R' := R') (st := 3 + ((n * (m + 7) : Nat) : Int) + 1) (sl := min (1 - ((min n 1 : Nat) : Int)) (2 - (liveN T'.B : Int))) (pc' := 8 + (m : Int)) (li_a n m (p := 4) (q := 4) (by omega) rfl) (by rw [go17 rfl]; rfl)
  have g8 := li_b n m (p := 2) (i := ⟨18, -1, 0, 0, 0, []⟩) rfl
  rw [show ((6 + m + 2 : Nat) : Int) = 8 + (m : Int) by omega] at g8
  rw [hl] at s3 s4
  rw [show min (1 - ((min n 1 : Nat) : Int)) (2 - 1) = 1 - ((min n 1 : Nat) : Int) by omega] at s3 s4
  rw [show min (1 - ((min n 1 : Nat) : Int)) (2 - 1) = 1 - ((min n 1 : Nat) : Int) by omega] at s4
  have s8 : (mk1 T' (8 + (m : Int)) [0, 1, 0, 0, y'] R' (3 + ((n * (m + 7) : Nat) : Int) + 1 + 1) (1 - ((min n 1 : Nat) : Int))).step (lT n m) [] = ⟨T', [], [], [], 1, 0, [], 3 + ((n * (m + 7) : Nat) : Int) + 1 + 1 + 1, 1 - ((min n 1 : Nat) : Int)⟩ := by
    have hnx : (mk1 T' (8 + (m : Int)) [0, 1, 0, 0, y'] R' (3 + ((n * (m + 7) : Nat) : Int) + 1 + 1) (1 - ((min n 1 : Nat) : Int))).next (lT n m) = some (⟨0, 8 + (m : Int), [0, 1, 0, 0, y'], -1, R'⟩, ⟨18, -1, 0, 0, 0, []⟩) := by
      show (match gt [lU n m] 0 with | none => none | some u => match gt u.ins (8 + (m : Int)) with | none => none | some i => some ((⟨0, 8 + (m : Int), [0, 1, 0, 0, y'], -1, R'⟩ : Fr), i)) = _
      rw [show gt [lU n m] 0 = some (lU n m) from rfl]
      dsimp only
      rw [g8]
    rw [step_next hnx, go18 rfl]
    rfl
  have hmul : n * (m + 7) ≤ 60 * 27 := Nat.mul_le_mul hn (by omega)
  have k1 : iter (lT n m) [] 3 (begin_ (lT n m) []) = mk1 Tb.zero.make 3 [(n : Int), 1, 0, 0, 0] (fun _ => 0) 3 1 := by
    rw [l_begin]
    show iter _ _ (2 + 1) _ = _
    rw [it1 rfl s0']
    show iter _ _ (1 + 1) _ = _
    rw [it1 rfl s1']
    show iter _ _ (0 + 1) _ = _
    rw [it1 rfl s2']
    rfl
  have k2 : iter (lT n m) [] 3 (mk1 T' 3 [0, 1, 0, x', y'] R' (3 + ((n * (m + 7) : Nat) : Int)) (1 - ((min n 1 : Nat) : Int))) = ⟨T', [], [], [], 1, 0, [], 3 + ((n * (m + 7) : Nat) : Int) + 1 + 1 + 1, 1 - ((min n 1 : Nat) : Int)⟩ := by
    show iter _ _ (2 + 1) _ = _
    rw [it1 rfl s3]
    show iter _ _ (1 + 1) _ = _
    rw [it1 rfl s4]
    show iter _ _ (0 + 1) _ = _
    rw [it1 rfl s8]
    rfl
  have key : iter (lT n m) [] 3000 (begin_ (lT n m) []) = ⟨T', [], [], [], 1, 0, [], 3 + ((n * (m + 7) : Nat) : Int) + 1 + 1 + 1, 1 - ((min n 1 : Nat) : Int)⟩ := by
    obtain ⟨r, hr⟩ : ∃ r : Nat, 3000 = 3 + (n * (m + 7) + (3 + r)) := ⟨3000 - 6 - n * (m + 7), by omega⟩
    rw [hr, iter_add, k1, iter_add, e, iter_add, k2]
    exact iter_ended (by show (1 : Int) ≠ 0; omega) r
  unfold ranP
  rw [show (max (3000 : Int) 0).toNat = 3000 from rfl, runM_iter, key, if_neg (by show ¬ (1 : Int) = 0; omega)]
  unfold Ms.clear
  rw [if_pos rfl]
  have hh : hasB T'.B 1 = true := by rw [hT.B]; rfl
  have hrem : T'.rem 1 = ⟨T'.B.set 0 false, T'.L, T'.peak, T'.most⟩ := if_pos hh
  have hset : T'.B.set 0 false = List.replicate (n + 1) false := by rw [hT.B, List.replicate_succ]; rfl
  have hl0 : liveN (List.replicate (n + 1) false) = 0 := liveN_zero fun j hj => by
    have := List.mem_of_getElem? hj
    have := (List.mem_replicate.1 this).2
    cases this
  unfold Ms.ran
  dsimp only
  rw [hrem, hset]
  dsimp only
  rw [hl0, List.length_replicate, hT.peak, hT.most]
  rw [show ((n + 1 : Nat) : Int) = (n : Int) + 1 by omega, show ((0 : Nat) : Int) = 0 from rfl, Int.sub_zero, show 3 + ((n * (m + 7) : Nat) : Int) + 1 + 1 + 1 = ((6 + n * (m + 7) : Nat) : Int) by omega]
theorem l_glob (n m : Nat) : glob (lT n m) = [] := fromL_nil (by simp [lT])
theorem l_out (n m : Nat) : outOf (lT n m) (lU n m) = [] := by
  have e : roots (lU n m) = [-3] := rfl
  unfold outOf
  rw [e, fromL_nil (by simp)]
  rfl
theorem li_mem {n m : Nat} {i : Ins} (h : i ∈ lI n m) : i ∈ lA n m ∨ i = lNew ∨ i ∈ lB m := by
  unfold lI at h
  rcases List.mem_append.1 h with h | h
  · rcases List.mem_append.1 h with h | h
    · exact .inl h
    · exact .inr (.inl (List.mem_replicate.1 h).2)
  · exact .inr (.inr h)
theorem li_len (n m : Nat) : (lI n m).length = 11 + m := by
  unfold lI
  rw [List.length_append, List.length_append, List.length_replicate]
  show 6 + m + 5 = _
  omega
theorem l_place (n m : Nat) {p : Int} (h : 0 ≤ p ∧ p < 11 + (m : Int)) : RtM.Place (lU n m) p := ⟨h.1, by show p < ((lI n m).length : Int); rw [li_len]; omega⟩
theorem l_ins (n m : Nat) : InsOk (lT n m) (lU n m) := by
  intro i hi
  rcases li_mem hi with hi | rfl | hi
  · simp only [lA, List.mem_cons, List.not_mem_nil, or_false] at hi
    rcases hi with rfl | rfl | rfl | rfl | rfl | rfl
    · exact ⟨⟨.inl rfl, .inr rfl, .inr rfl, .inl rfl, .inr rfl⟩, rfl⟩
    · exact ⟨⟨.inl rfl, .inr rfl, .inr rfl, .inl rfl, .inr rfl⟩, rfl⟩
    · exact ⟨⟨.inl rfl, .inr rfl, .inr rfl, .inl rfl, .inr rfl⟩, rfl⟩
    · exact ⟨⟨.inl rfl, .inl rfl, .inl rfl, .inl rfl, .inr rfl⟩, ⟨⟨by show (14 : Int) ≤ 19; omega, by show (19 : Int) ≤ 24; omega⟩, rfl, .inl ⟨rfl, rfl⟩⟩⟩
    · refine ⟨⟨.inl rfl, .inr rfl, .inl rfl, .inl rfl, .inr rfl⟩, ?_⟩
      show of (lU n m) 3 = -2 ∧ RtM.Place (lU n m) 5 ∧ RtM.Place (lU n m) (8 + (m : Int))
      exact ⟨rfl, l_place n m (by omega), l_place n m (by omega)⟩
    · refine ⟨⟨.inr rfl, .inr rfl, .inr rfl, .inr rfl, .inl rfl⟩, ?_⟩
      show [(0 : Int)] ≠ [] ∧ Rise [(0 : Int)] ∧ ∀ c ∈ [(0 : Int)], c ∈ [(0 : Int)]
      exact ⟨by simp, by decide, fun c h => h⟩
  · exact ⟨⟨.inl rfl, .inr rfl, .inr rfl, .inl rfl, .inr rfl⟩, ⟨rfl, rfl⟩⟩
  · simp only [lB, List.mem_cons, List.not_mem_nil, or_false] at hi
    rcases hi with rfl | rfl | rfl | rfl | rfl
    · refine ⟨⟨.inr rfl, .inr rfl, .inr rfl, .inr rfl, .inl rfl⟩, ?_⟩
      show [(0 : Int)] ≠ [] ∧ Rise [(0 : Int)] ∧ ∀ c ∈ [(0 : Int)], c ∈ [(0 : Int)]
      exact ⟨by simp, by decide, fun c h => h⟩
    · exact ⟨⟨.inr rfl, .inr rfl, .inr rfl, .inl rfl, .inr rfl⟩, l_place n m (p := 9 + (m : Int)) (by omega)⟩
    · exact ⟨⟨.inl rfl, .inr rfl, .inr rfl, .inr rfl, .inr rfl⟩, .inl ⟨rfl, rfl⟩⟩
    · exact ⟨⟨.inl rfl, .inl rfl, .inl rfl, .inl rfl, .inr rfl⟩, ⟨⟨by show (14 : Int) ≤ 15; omega, by show (15 : Int) ≤ 24; omega⟩, rfl, .inl ⟨rfl, rfl⟩⟩⟩
    · exact ⟨⟨.inr rfl, .inr rfl, .inr rfl, .inl rfl, .inr rfl⟩, l_place n m (p := 3) (by omega)⟩
theorem l_right (n m : Nat) (hm : m ≤ 20) : RightP (lT n m) := by
  refine ⟨⟨by show 1 ≤ 60; omega, by show 0 ≤ 8; omega, by show 1 ≠ 0; omega, by show 1 ≤ 16; omega⟩, ⟨rfl, rfl⟩, fun L hL => ?_, fun n hn => (by cases hn), ?_, fun u hu => ?_⟩
  · have hL : L ∈ [(⟨false, [-2]⟩ : Layout)] := hL
    obtain rfl := List.mem_singleton.1 hL
    refine ⟨by show 1 ≤ 8; omega, fun h => (by cases h), fun c hc => ?_⟩
    have hc : c ∈ [(-2 : Int)] := hc
    obtain rfl := List.mem_singleton.1 hc
    exact .inr (.inr rfl)
  · show (lI n m).length + 0 ≤ 16000
    rw [li_len]; omega
  · have hu : u ∈ [lU n m] := hu
    obtain rfl := List.mem_singleton.1 hu
    refine ⟨⟨⟨by show (0 : Int) ≤ 0; omega, by show (0 : Int) ≤ 6; omega, by show (0 : Int) ≤ ((5 : Nat) : Int); omega, by show 5 ≤ 4000; omega⟩, fun c hc => ?_, .inl rfl, ?_, ⟨(by show Rise []; decide), fun c hc => (by cases hc)⟩, ⟨(by show Rise [(0 : Int)]; decide), fun c hc => ?_⟩, ?_⟩, l_ins n m⟩
    · have hc : c ∈ [(-2 : Int), -2, -2, -2, 0] := hc
      simp at hc
      rcases hc with rfl | rfl
      · exact .inr (.inr rfl)
      · exact .inl ⟨by omega, by show (0 : Int) < ((1 : Nat) : Int); omega⟩
    · intro h
      have := congrArg List.length h
      rw [show (lU n m).ins = lI n m from rfl, li_len] at this
      simp at this
    · have hc : c ∈ [(0 : Int)] := hc
      obtain rfl := List.mem_singleton.1 hc
      exact ⟨⟨by omega, by show (0 : Int) < ((1 : Nat) : Int); omega⟩, by rw [l_out]; simp, by rw [l_glob]; simp⟩
    · have h4 := li_b n m (p := 4) (i := ⟨16, 0, 0, 0, 3, []⟩) rfl
      rw [gt_nat] at h4
      left
      unfold lastOp
      rw [show (lU n m).ins.length - 1 = 6 + m + 4 by show (lI n m).length - 1 = _; rw [li_len]; omega, h4]
end Go.Proofs.Ytomadjefdghliaa

/- Chapter 30's recursion, plainly: how deep it goes. No program in sight. -/
namespace Go.Proofs.Ytomadjefdghliaa
open Go.Api Go.RtM Go.RiseM Go.ReachM
def dU0 (n : Int) : Unt := ⟨0, [-2], -3, [], [], [⟨1, 0, 0, 0, n, []⟩, ⟨13, -1, 0, 1, 0, [0]⟩, ⟨18, -1, 0, 0, 0, []⟩]⟩
def dU1 : Unt := ⟨1, [-2, -2, -2, -2, 0], -3, [], [0], [⟨21, 0, 0, 0, 0, [0]⟩, ⟨11, 4, 0, 0, 0, []⟩, ⟨4, 2, 1, 0, 19, []⟩, ⟨17, 2, 0, 7, 4, []⟩, ⟨1, 3, 0, 0, 1, []⟩, ⟨4, 0, 0, 3, 15, []⟩, ⟨13, -1, 0, 1, 0, [0]⟩, ⟨22, 0, 0, 0, 0, [0]⟩, ⟨18, -1, 0, 0, 0, []⟩]⟩
def dT (n : Int) : RTg := ⟨[⟨false, []⟩], [], [dU0 n, dU1], 0⟩
def DSaid (n : Nat) (y : Api.Ran) : Prop := if n + 2 ≤ 40 then y.beh.end_ = 1 ∧ y.made = n + 2 ∧ y.gone = n + 2 ∧ y.peak = n + 2 ∧ y.most = n + 1 ∧ y.slack = 0 else y.beh.end_ = 2 ∧ y.beh.code = 6 ∧ y.made = 40 ∧ y.gone = 40 ∧ y.live = 0 ∧ y.peak = 40
instance (n : Nat) (y : Api.Ran) : Decidable (DSaid n y) := by unfold DSaid; infer_instance
set_option maxRecDepth 100000 in
theorem d_said : ∀ k : Fin 61, DSaid k.1 (ranP (dT (k.1 : Int)) [] [] 3000) := by decide +kernel
theorem d_glob (n : Int) : glob (dT n) = [] := fromL_nil (by simp [dT])
theorem d_out1 (n : Int) : outOf (dT n) dU1 = [] := by
  have e : roots dU1 = [-2, -3] := rfl
  unfold outOf
  rw [e, fromL_nil (by simp)]
  rfl
set_option maxRecDepth 100000 in
theorem d_ins : ∀ k : Fin 61, InsOk (dT (k.1 : Int)) (dU0 (k.1 : Int)) ∧ InsOk (dT (k.1 : Int)) dU1 := by decide +kernel
theorem d_right (k : Nat) (hk : k < 61) : RightP (dT (k : Int)) := by
  have hi := d_ins ⟨k, hk⟩
  refine ⟨⟨by show 1 ≤ 60; omega, by show 0 ≤ 8; omega, by show 2 ≠ 0; omega, by show 2 ≤ 16; omega⟩, ⟨rfl, rfl⟩, fun L hL => ?_, fun n hn => (by cases hn), by show 12 ≤ 16000; omega, fun u hu => ?_⟩
  · have hL : L ∈ [_] := hL
    obtain rfl := List.mem_singleton.1 hL
    exact ⟨by show 0 ≤ 8; omega, fun h => (by cases h), fun n hn => by cases hn⟩
  · have hu : u = dU0 (k : Int) ∨ u = dU1 := by simpa [dT] using hu
    rcases hu with rfl | rfl
    · refine ⟨⟨⟨by show (0 : Int) ≤ 0; omega, by show (0 : Int) ≤ 6; omega, by show (0 : Int) ≤ ((1 : Nat) : Int); omega, by show 1 ≤ 4000; omega⟩, ?_, .inl rfl, by show [_, _, _] ≠ []; simp, ⟨(by show Rise []; decide), fun c hc => (by cases hc)⟩, ⟨(by show Rise []; decide), fun c hc => (by cases hc)⟩, .inr (.inr rfl)⟩, hi.1⟩
      intro n hn
      have hn : n ∈ [(-2 : Int)] := hn
      obtain rfl := List.mem_singleton.1 hn
      exact .inr (.inr rfl)
    · refine ⟨⟨⟨by show (0 : Int) ≤ 1; omega, by show (1 : Int) ≤ 6; omega, by show (1 : Int) ≤ ((5 : Nat) : Int); omega, by show 5 ≤ 4000; omega⟩, ?_, .inl rfl, by show _ :: _ ≠ []; simp, ⟨(by show Rise []; decide), fun c hc => (by cases hc)⟩, ⟨?_, fun c hc => ?_⟩, .inr (.inr rfl)⟩, hi.2⟩
      · intro n hn
        have hn : n ∈ [(-2 : Int), -2, -2, -2, 0] := hn
        simp at hn
        rcases hn with rfl | rfl
        · exact .inr (.inr rfl)
        · exact .inl ⟨by omega, by show (0 : Int) < ((1 : Nat) : Int); omega⟩
      · exact by decide
      · have hc : c ∈ [(0 : Int)] := hc
        obtain rfl := List.mem_singleton.1 hc
        refine ⟨⟨by omega, by show (0 : Int) < ((1 : Nat) : Int); omega⟩, by rw [d_out1]; simp, by rw [d_glob]; simp⟩
end Go.Proofs.Ytomadjefdghliaa
