/- Regions that draw their order, for the walk by explicit rules: what only reads is taken first, in the order of the text; what acts comes up one by one. No program in sight. -/
import Derived.OrdersHeld
import Derived.Test.YtnpbadghodkhlaaRxOps
namespace Go.RX
open Go Go.RowKit Go.RR

section
variable {P : Program} {ops : Array Oper} {Q : Exit → Act → World → Prop} {S : World → Prop} {hold : Nat → Bool}

/-- Whatever order is picked from here on; behind those of 'hold' S holds. -/
def wpAnyX (P : Program) (ops : Array Oper) (Q : Exit → Act → World → Prop) (S : World → Prop) (hold : Nat → Bool) : Nat → Array Bool → Act → World → Prop
  | 0, listed, a, w => Region.ready .any ops listed = [] ∧ Q .normal a w
  | fuel + 1, listed, a, w =>
    (Region.ready .any ops listed = [] → Q .normal a w) ∧
    ∀ i ∈ Region.ready .any ops listed, wpOp P ops Q i (fun a' w' => (hold i = true → S w → S w') ∧ wpAnyX P ops Q S hold fuel (listed.setIfInBounds i true) a' w') a w

theorem wpAny_of_X : ∀ (fuel : Nat) (listed : Array Bool) (a : Act) (w : World), wpAnyX P ops Q S hold fuel listed a w → wpAny P .any ops Q fuel listed a w
  | 0, _, _, _, h => h
  | fuel + 1, _, _, _, h => ⟨h.1, fun i hi => wpOp_mono (fun a' w' h' => wpAny_of_X fuel _ a' w' h'.2) (h.2 i hi)⟩

/-- 'W' are ones that wait for number i, whatever comes up: none of them is listed; each waits for i itself or for another of them. -/
def Waiting (ops : Array Oper) (listed : Array Bool) (i : Nat) (W : Nat → Bool) : Prop :=
  ∀ j oj, ops[j]? = some oj → W j = true → listed.getD j true = false ∧ ∃ e ∈ oj.after, Region.binds .any e = true ∧ (e.on = i ∨ (W e.on = true ∧ (ops[e.on]?).isSome = true))

theorem wpAnyX_first {i : Nat} {oi : Oper} {v : Value} (hi : ops[i]? = some oi) (hsel : ∀ (j : Nat) (o : Oper) cs b, ops[j]? = some o → o.op ≠ .select cs b)
    (hQ : ∀ c a w, Q (.panic c) (a.put oi.dst v) w → Q (.panic c) a w) (W : Nat → Bool) (T : World → Prop) :
    ∀ (fuel : Nat) (listed : Array Bool) (a : Act) (w : World),
      Waiting ops listed i W →
      (∀ j oj, ops[j]? = some oj → j ≠ i → listed.getD j true = false → W j = false → oi.apart ops oj = true ∧ ((hold j = true ∧ T = S) ∨ T = fun _ => True)) →
      i ∈ Region.ready .any ops listed → YieldsIf P ops T oi v a → T w →
      wpAnyX P ops Q S hold fuel (listed.setIfInBounds i true) (a.put oi.dst v) w → wpAnyX P ops Q S hold (fuel + 1) listed a w := by
  intro fuel
  induction fuel with
  | zero =>
    intro listed a w _ _ hr hy hS H
    refine ⟨fun h => (by rw [h] at hr; cases hr), fun j hj => ?_⟩
    by_cases hji : j = i
    · subst hji; exact hy.wpOp hi hS ⟨fun _ h => h, H⟩
    · have := ready_mono hj hji
      rw [H.1] at this
      cases this
  | succ fuel ih =>
    intro listed a w hwait hfree hr hy hS H
    refine ⟨fun h => (by rw [h] at hr; cases hr), fun j hj => ?_⟩
    by_cases hji : j = i
    · subst hji; exact hy.wpOp hi hS ⟨fun _ h => h, H⟩
    · have h1 := H.2 j (ready_mono hj hji)
      obtain ⟨hjun, oj, hoj, hall⟩ := mem_ready.1 hj
      have hWj : W j = false := by
        cases hWc : W j with
        | false => rfl
        | true =>
          exfalso
          obtain ⟨_, e, he, hb, hor⟩ := hwait j oj hoj hWc
          have h1 := hall e he hb
          rcases hor with heq | ⟨hWe, hsome⟩
          · have h0 := (mem_ready.1 hr).1
            rw [heq] at h1
            rcases Nat.lt_or_ge i listed.size with h' | h'
            · simp [h'] at h0 h1; rw [h0] at h1; cases h1
            · simp [Array.getElem?_eq_none h'] at h1
          · obtain ⟨oe, hoe⟩ := Option.isSome_iff_exists.1 hsome
            obtain ⟨hun, _⟩ := hwait e.on oe hoe hWe
            rcases Nat.lt_or_ge e.on listed.size with h' | h'
            · simp [h'] at hun h1; rw [hun] at h1; cases h1
            · simp [Array.getElem?_eq_none h'] at h1
      obtain ⟨hap, hhold⟩ := hfree j oj hoj hji hjun hWj
      have h2 := wpOp_putIf hoj hap (fun cs b => hsel i oi cs b hi) (fun cs b => hsel j oj cs b hoj) hQ hy h1
      have hfree' : ∀ k ok, ops[k]? = some ok → k ≠ i → (listed.setIfInBounds j true).getD k true = false →
          W k = false → oi.apart ops ok = true ∧ ((hold k = true ∧ T = S) ∨ T = fun _ => True) := fun k ok hk hki hun hno => by
        refine hfree k ok hk hki ?_ hno
        by_cases hjk : j = k
        · subst hjk; exact hjun
        · rw [getD_set_ne true hjk] at hun; exact hun
      have hwait' : Waiting ops (listed.setIfInBounds j true) i W := fun k ok hk hWk => by
        obtain ⟨h1, h2⟩ := hwait k ok hk hWk
        have hjk : j ≠ k := fun e => by subst e; rw [hWj] at hWk; cases hWk
        exact ⟨by rw [getD_set_ne true hjk]; exact h1, h2⟩
      refine wpOp_mono (fun a' w' h3 => ?_) h2
      have hS' : T w' := by
        rcases hhold with ⟨h1, h2⟩ | h2
        · rw [h2]; exact h3.2.1 h1 (h2 ▸ hS)
        · rw [h2]; trivial
      refine ⟨h3.2.1, ih (listed.setIfInBounds j true) a' w' hwait' hfree' (ready_mono hr (Ne.symm hji)) h3.1 hS' ?_⟩
      rw [Array.setIfInBounds_comm _ _ hji]
      exact h3.2.2

/-- What asks nothing of the world. -/
def isPure (o : Oper) : Bool := match o.op with
  | .move .. => true | .pick .. => true | .unOp .. => true | .fieldAddr .. => true | .indexAddr .. => true | .binOp .. => true | .nilCheck .. => true | .build .. => true
  | _ => false
/-- What is asked of the world while it waits. -/
def Tame (o : Oper) (S : World → Prop) : World → Prop := match isPure o with | true => fun _ => True | false => S
theorem tame_of {o : Oper} {S : World → Prop} {w : World} (h : S w) : Tame o S w := by unfold Tame; cases isPure o <;> first | trivial | exact h
theorem tame_eq {o : Oper} {S : World → Prop} {h : Bool} (hh : (h || isPure o) = true) : (h = true ∧ Tame o S = S) ∨ Tame o S = fun _ => True := by
  unfold Tame
  cases hp : isPure o with
  | true => exact .inr rfl
  | false => rw [hp, Bool.or_false] at hh; exact .inl ⟨hh, rfl⟩

/-- Those that wait for number i, one after the other. -/
def waits (ops : Array Oper) (listed : Array Bool) (i : Nat) : List Nat → List Nat → List Nat
  | [], acc => acc
  | j :: r, acc => waits ops listed i r (match ops[j]? with
      | some oj => if !(listed.getD j true) && oj.after.any (fun e => Region.binds .any e && (Nat.beq e.on i || (acc.any (Nat.beq e.on) && (ops[e.on]?).isSome))) then j :: acc else acc
      | none => acc)

theorem beq_iff {a b : Nat} : Nat.beq a b = true ↔ a = b := ⟨Nat.eq_of_beq_eq_true, fun h => by subst h; simp⟩

theorem any_iff {l : List Nat} {a : Nat} : l.any (Nat.beq a) = true ↔ a ∈ l := by
  rw [List.any_eq_true]
  constructor
  · rintro ⟨x, h1, h2⟩; rw [beq_iff] at h2; exact h2 ▸ h1
  · intro h; exact ⟨a, h, beq_iff.2 rfl⟩

theorem waits_spec {listed : Array Bool} {i : Nat} : ∀ (js acc : List Nat), Waiting ops listed i (fun j => acc.any (Nat.beq j)) → Waiting ops listed i (fun j => (waits ops listed i js acc).any (Nat.beq j))
  | [], _, h => h
  | j :: r, acc, h => by
    unfold waits
    apply waits_spec r
    cases hj : ops[j]? with
    | none => exact h
    | some oj =>
      dsimp only
      split
      · rename_i hc
        simp only [Bool.and_eq_true, Bool.not_eq_true'] at hc
        intro k ok hk hW
        rw [any_iff, List.mem_cons] at hW
        rcases hW with rfl | hW
        · rw [hj] at hk; cases hk
          refine ⟨hc.1, ?_⟩
          obtain ⟨e, he, h2⟩ := Array.any_eq_true'.1 hc.2
          rw [Bool.and_eq_true, Bool.or_eq_true, beq_iff, Bool.and_eq_true, any_iff] at h2
          refine ⟨e, he, h2.1, h2.2.imp id fun h3 => ⟨?_, h3.2⟩⟩
          rw [any_iff]; exact List.mem_cons_of_mem _ h3.1
        · obtain ⟨h1, e, he, hb, h2⟩ := h k ok hk (any_iff.2 hW)
          refine ⟨h1, e, he, hb, h2.imp id fun h3 => ⟨?_, h3.2⟩⟩
          rw [any_iff]; exact List.mem_cons_of_mem _ (any_iff.1 h3.1)
      · exact h

/-- May number i be taken first? -/
def freeX (ops : Array Oper) (hold : Nat → Bool) (listed : Array Bool) (i : Nat) : Bool :=
  match ops[i]? with
  | none => false
  | some oi => (fun W => (List.range ops.size).all fun j => Nat.beq j i || listed.getD j true || List.any W (Nat.beq j) || match ops[j]? with
      | some oj => oi.apart ops oj && (hold j || isPure oi)
      | none => true) (waits ops listed i (List.range ops.size) [])

theorem freeX_spec {i : Nat} {oi : Oper} {listed : Array Bool} (hi : ops[i]? = some oi) (h : freeX ops hold listed i = true) (j : Nat) (oj : Oper)
    (hj : ops[j]? = some oj) (hne : j ≠ i) (hun : listed.getD j true = false) (hno : (waits ops listed i (List.range ops.size) []).any (Nat.beq j) = false) :
    oi.apart ops oj = true ∧ ((hold j = true ∧ Tame oi S = S) ∨ Tame oi S = fun _ => True) := by
  simp only [freeX, hi, List.all_eq_true, List.mem_range] at h
  have h1 := h j (Array.getElem?_eq_some_iff.1 hj).1
  simp only [hj, hun, hno, Bool.or_false, beq_iff, hne, Bool.or_eq_true, false_or, Bool.and_eq_true] at h1
  exact ⟨h1.1, tame_eq (by rw [Bool.or_eq_true]; exact h1.2)⟩

/-- A plan: which ones are taken ('true'), which ones come up by themselves. -/
def planOk (ops : Array Oper) (hold : Nat → Bool) : List (Nat × Bool) → Array Bool → Bool
  | [], listed => (Region.ready .any ops listed).isEmpty
  | (i, true) :: r, listed => (Region.ready .any ops listed).contains i && freeX ops hold listed i && planOk ops hold r (listed.setIfInBounds i true)
  | (i, false) :: r, listed => (Region.ready .any ops listed) == [i] && planOk ops hold r (listed.setIfInBounds i true)

def wpPlan (P : Program) (ops : Array Oper) (Q : Exit → Act → World → Prop) (S : World → Prop) (hold : Nat → Bool) : List (Nat × Bool) → Act → World → Prop
  | [], a, w => Q .normal a w
  | (i, true) :: r, a, w => ∃ oi v, ops[i]? = some oi ∧ YieldsIf P ops (Tame oi S) oi v a ∧ Tame oi S w ∧ wpPlan P ops Q S hold r (a.put oi.dst v) w
  | (i, false) :: r, a, w => wpOp P ops Q i (fun a' w' => (hold i = true → S w → S w') ∧ wpPlan P ops Q S hold r a' w') a w

theorem wpAnyX_of_plan (hs : Region.noSelect ops = true) (hQ : ∀ c a d v w, Q (.panic c) (Act.put a d v) w → Q (.panic c) a w) : ∀ (plan : List (Nat × Bool)) (listed : Array Bool) (a : Act) (w : World),
    planOk ops hold plan listed = true → wpPlan P ops Q S hold plan a w → wpAnyX P ops Q S hold plan.length listed a w
  | [], listed, a, w, hp, h => ⟨by simpa [planOk] using hp, h⟩
  | (i, true) :: r, listed, a, w, hp, ⟨oi, v, hi, hy, hS, h⟩ => by
    simp only [planOk, Bool.and_eq_true] at hp
    exact wpAnyX_first hi (Region.noSelect_spec hs) (fun c a w => hQ c a oi.dst v w) _ (Tame oi S) r.length listed a w (waits_spec (List.range ops.size) [] (fun j oj _ h => by simp at h)) (freeX_spec hi hp.1.2) (by simpa using hp.1.1) hy hS (wpAnyX_of_plan hs hQ r _ _ _ hp.2 h)
  | (i, false) :: r, listed, a, w, hp, h => by
    simp only [planOk, Bool.and_eq_true] at hp
    have hr : Region.ready .any ops listed = [i] := by simpa using hp.1
    refine ⟨fun h0 => absurd (hr ▸ h0) (by simp), ?_⟩
    rw [hr]
    intro j hj
    have hj : j = i := by simpa using hj
    subst hj
    exact wpOp_mono (fun a' w' h3 => ⟨h3.1, wpAnyX_of_plan hs hQ r _ a' w' hp.2 h3.2⟩) h
end

class Mixed (P : Program) : Prop where m : P.follows .mixedOrders = true

section
variable {P : Program} {n : Nat} {env : Env} {w : World} {Q : Exit → Act → World → Prop} {S : World → Prop} {hold : Nat → Bool}

/-- The beginning. -/
theorem drawn {id : Nat} {l : List Oper} (S : World → Prop) (hold : Nat → Bool) (plan : List (Nat × Bool)) [hm : Mixed P] (hlen : Nat.beq l.length plan.length = true) (hs : Region.noSelect l.toArray = true)
    (hp : planOk l.toArray hold plan (Array.replicate plan.length false) = true)
    (h : E n env w.drew (wpPlan P l.toArray (NoPanic Q) S hold plan)) : E n env w ((Code.region id l.toArray true).wp P Q) := by
  constructor; intro a ha
  refine wp_region_noPanic (wp_region_any hm.m (wpAny_of_X (S := S) (hold := hold) _ _ _ _ ?_))
  have hlen : l.toArray.size = plan.length := by simpa using beq_iff.1 hlen
  rw [hlen]
  exact wpAnyX_of_plan hs (fun c a d v w h => h) plan _ a _ hp (h.run a ha)

section
variable {ops : Array Oper} {i d : Nat} {t : Bool} {r : List (Nat × Bool)} {v : Value} {p : Prop} [Decidable p]
theorem pguard_true (_hd : (nth ops.toList i).bind (gslot ops) = some d) (hp : lk env d = some v) (hv : v = .bool (decide p)) (h : p) (k : E n ((d, .bool true) :: env) w (wpPlan P ops Q S hold ((i, t) :: r))) : E n env w (wpPlan P ops Q S hold ((i, t) :: r)) :=
  relit (hv ▸ hp) (by simpa using h) k
theorem pguard_false (_hd : (nth ops.toList i).bind (gslot ops) = some d) (hp : lk env d = some v) (hv : v = .bool (decide p)) (h : ¬ p) (k : E n ((d, .bool false) :: env) w (wpPlan P ops Q S hold ((i, t) :: r))) : E n env w (wpPlan P ops Q S hold ((i, t) :: r)) :=
  relit (hv ▸ hp) (by simpa using h) k
theorem pguard_split (_hd : (nth ops.toList i).bind (gslot ops) = some d) (hp : lk env d = some (.bool (decide p))) (h1 : p → E n ((d, .bool true) :: env) w (wpPlan P ops Q S hold ((i, t) :: r))) (h2 : ¬ p → E n ((d, .bool false) :: env) w (wpPlan P ops Q S hold ((i, t) :: r))) :
    E n env w (wpPlan P ops Q S hold ((i, t) :: r)) := by
  by_cases h : p
  · exact relit hp (by simpa using h) (h1 h)
  · exact relit hp (by simpa using h) (h2 h)
end
theorem pguard_bool {ops : Array Oper} {i d : Nat} {t p : Bool} {r : List (Nat × Bool)} (_hd : (nth ops.toList i).bind (gslot ops) = some d) (hp : lk env d = some (.bool p)) (h1 : p = true → E n ((d, .bool true) :: env) w (wpPlan P ops Q S hold ((i, t) :: r)))
    (h2 : p = false → E n ((d, .bool false) :: env) w (wpPlan P ops Q S hold ((i, t) :: r))) : E n env w (wpPlan P ops Q S hold ((i, t) :: r)) := by
  have hp' : lk env d = some (.bool (decide (p = true))) := by rw [hp]; cases p <;> rfl
  cases p
  · exact relit hp' rfl (h2 rfl)
  · exact relit hp' rfl (h1 rfl)
theorem done {ops : Array Oper} (h : E n env w (Q .normal)) : E n env w (wpPlan P ops (NoPanic Q) S hold []) := ⟨h.run⟩

/-- One that is taken, by itself. -/
structure TW (P : Program) (n : Nat) (env : Env) (w : World) (o : Oper) (S : World → Prop) (K : Act → World → Prop) : Prop where
  run : ∀ a, Has n env a → ∃ v, (∀ w, S w → (execOp a.eval o).run P w = .ok (.value v) w) ∧ K (a.put o.dst v) w
theorem take {ops : Array Oper} {i : Nat} {r : List (Nat × Bool)} {o : Oper} (hi : nth ops.toList i = some o) (hw : Wanted n env ops o true) (hp : isPure o = false) (hS : S w) (h : TW P n env w o S (wpPlan P ops Q S hold r)) : E n env w (wpPlan P ops Q S hold ((i, true) :: r)) := by
  constructor; intro a ha
  obtain ⟨v, h1, h2⟩ := h.run a ha
  have ht : Tame o S = S := by unfold Tame; rw [hp]
  exact ⟨o, v, (nth_array ops i).symm.trans hi, by rw [ht]; exact .inl ⟨hw a ha, h1⟩, by rw [ht]; exact hS, h2⟩
theorem take_pure {ops : Array Oper} {i : Nat} {r : List (Nat × Bool)} {o : Oper} (hi : nth ops.toList i = some o) (hw : Wanted n env ops o true) (hp : isPure o = true) (h : TW P n env w o (fun _ => True) (wpPlan P ops Q S hold r)) : E n env w (wpPlan P ops Q S hold ((i, true) :: r)) := by
  constructor; intro a ha
  obtain ⟨v, h1, h2⟩ := h.run a ha
  have ht : Tame o S = fun _ => True := by unfold Tame; rw [hp]
  exact ⟨o, v, (nth_array ops i).symm.trans hi, by rw [ht]; exact .inl ⟨hw a ha, h1⟩, by rw [ht]; trivial, h2⟩
theorem tsoft {d : Nat} {p : Op} {ty : TypeId} {pos : String} {aft : Array Edge} {gd : Option (Nat × Bool)} {K : Act → World → Prop} {v : Value} (hs : Soft P n env S p v) (hd : Nat.blt d n = true) (h : E n ((d, v) :: env) w K) :
    TW P n env w ⟨some d, p, ty, pos, aft, gd⟩ S K := ⟨fun a ha => ⟨v, fun w hw => hs a ha _ rfl w hw, h.run _ (ha.put (d := d) v hd)⟩⟩
theorem isBinT {d : Option Tmp} {b : BinOp} {t t' ty : TypeId} {x y : Operand} {pos : String} {aft : Array Edge} {gd : Option (Nat × Bool)} {K : Act → World → Prop} (h : TW P n env w ⟨d, .binOp b t x y t', ty, pos, aft, gd⟩ S K) : TW P n env w ⟨d, .binOp b t x y t', ty, pos, aft, gd⟩ S K := h
theorem isCallT {d : Option Tmp} {b : Builtin} {xs : Array Operand} {ts : Array TypeId} {ty : TypeId} {pos : String} {aft : Array Edge} {gd : Option (Nat × Bool)} {K : Act → World → Prop} (h : TW P n env w ⟨d, .call ⟨.builtin b, xs, ts⟩, ty, pos, aft, gd⟩ S K) : TW P n env w ⟨d, .call ⟨.builtin b, xs, ts⟩, ty, pos, aft, gd⟩ S K := h
theorem take_not {ops : Array Oper} {i d : Nat} {p : Op} {ty : TypeId} {pos : String} {aft : Array Edge} {gd : Option (Nat × Bool)} {r : List (Nat × Bool)} (hi : nth ops.toList i = some ⟨some d, p, ty, pos, aft, gd⟩) (hw : Wanted n env ops ⟨some d, p, ty, pos, aft, gd⟩ false)
    (hd : Nat.blt d n = true) (hS : Tame ⟨some d, p, ty, pos, aft, gd⟩ S w) (h : E n ((d, undef) :: env) w (wpPlan P ops Q S hold r)) : E n env w (wpPlan P ops Q S hold ((i, true) :: r)) := ⟨fun a ha =>
  ⟨_, undef, (nth_array ops i).symm.trans hi, .inr ⟨hw a ha, rfl⟩, hS, h.run _ (ha.put (d := d) undef hd)⟩⟩

/-- What is asked behind one that came up. -/
def Went (S : World → Prop) (hold : Nat → Bool) (i : Nat) (K : Act → World → Prop) : Act → World → Prop := fun a w => (hold i = true → S w) ∧ K a w

theorem gow {ops : Array Oper} {i : Nat} {r : List (Nat × Bool)} {o : Oper} (hi : nth ops.toList i = some o) (hw : Wanted n env ops o true)
    (h : OW P n env w o (Went S hold i (wpPlan P ops Q S hold r)) Q) : E n env w (wpPlan P ops Q S hold ((i, false) :: r)) := by
  constructor; intro a ha
  have hi := (nth_array ops i).symm.trans hi
  have h1 : wpOp P ops Q i (Went S hold i (wpPlan P ops Q S hold r)) a w := by
    unfold wpOp
    simp only [hi, hw a ha, if_true]
    exact .inl (h.run a ha)
  exact wpOp_mono (fun a' w' h => ⟨fun h2 _ => h.1 h2, h.2⟩) h1
theorem go {ops : Array Oper} {i : Nat} {r : List (Nat × Bool)} {o : Oper} (hi : nth ops.toList i = some o) (hg : o.guard = none)
    (h : OW P n env w o (Went S hold i (wpPlan P ops Q S hold r)) Q) : E n env w (wpPlan P ops Q S hold ((i, false) :: r)) := gow hi (plain hg) h
theorem go_not {ops : Array Oper} {i d : Nat} {p : Op} {ty : TypeId} {pos : String} {aft : Array Edge} {gd : Option (Nat × Bool)} {r : List (Nat × Bool)} (hi : nth ops.toList i = some ⟨some d, p, ty, pos, aft, gd⟩) (hw : Wanted n env ops ⟨some d, p, ty, pos, aft, gd⟩ false)
    (hd : Nat.blt d n = true) (h : E n ((d, undef) :: env) w (wpPlan P ops Q S hold r)) : E n env w (wpPlan P ops Q S hold ((i, false) :: r)) := by
  constructor; intro a ha
  have hi := (nth_array ops i).symm.trans hi
  show wpOp P ops Q i _ a w
  unfold wpOp
  simp only [hi, hw a ha]
  exact ⟨fun _ h => h, h.run _ (ha.put (d := d) undef hd)⟩
/-- Behind one that came up: S anew, and on. -/
theorem went {i : Nat} {K : Act → World → Prop} (hS : S w) (h : E n env w K) : E n env w (Went S hold i K) := ⟨fun a ha => ⟨fun _ => hS, h.run a ha⟩⟩
theorem went_free {i : Nat} {K : Act → World → Prop} (hi : hold i = false) (h : E n env w K) : E n env w (Went S hold i K) := ⟨fun a ha => ⟨fun h2 => (by rw [hi] at h2; cases h2), h.run a ha⟩⟩
end
end Go.RX
