import Derived.Test.YtomadjefdghliaaGreatU1
import Derived.OrdersHeld
import Derived.Maps.AppendAt
namespace Go.RX
open Go Go.RowKit Go.RR
section
variable {P : Program} {ops : Array Oper} {Q : Exit → Act → World → Prop} {S : World → Prop} {hold : Nat → Bool}
def wpAnyX (P : Program) (ops : Array Oper) (Q : Exit → Act → World → Prop) (S : World → Prop) (hold : Nat → Bool) : Nat → Array Bool → Act → World → Prop
 | 0, listed, a, w => Region.ready .any ops listed = [] ∧ Q .normal a w
 | fuel + 1, listed, a, w =>
  (Region.ready .any ops listed = [] → Q .normal a w) ∧
  ∀ i ∈ Region.ready .any ops listed, wpOp P ops Q i (fun a' w' => (hold i = true → S w → S w') ∧ wpAnyX P ops Q S hold fuel (listed.setIfInBounds i true) a' w') a w
theorem wpAny_of_X : ∀ (fuel : Nat) (listed : Array Bool) (a : Act) (w : World), wpAnyX P ops Q S hold fuel listed a w → wpAny P .any ops Q fuel listed a w
 | 0, _, _, _, h => h
 | fuel + 1, _, _, _, h => ⟨h.1, fun i hi => wpOp_mono (fun a' w' h' => wpAny_of_X fuel _ a' w' h'.2) (h.2 i hi)⟩
def Waiting (ops : Array Oper) (listed : Array Bool) (i : Nat) (W : Nat → Bool) : Prop :=
 ∀ j oj, ops[j]? = some oj → W j = true → listed.getD j true = false ∧ ∃ e ∈ oj.after, Region.binds .any e = true ∧ (e.on = i ∨ (W e.on = true ∧ (ops[e.on]?).isSome = true))
theorem wpAnyX_first {i : Nat} {oi : Oper} {v : Value} (hi : ops[i]? = some oi) (hsel : ∀ (j : Nat) (o : Oper) cs b, ops[j]? = some o → o.op ≠ .select cs b)
  (hQ : ∀ c a w, Q (.panic c) (a.put oi.dst v) w → Q (.panic c) a w) (W : Nat → Bool) (T : World → Prop) :
  ∀ (fuel : Nat) (listed : Array Bool) (a : Act) (w : World),
   Waiting ops listed i W →
   (∀ j oj, ops[j]? = some oj → j ≠ i → listed.getD j true = false → W j = false → oi.apart ops oj = true ∧ ((hold j = true ∧ T = S) ∨ T = fun _ => True)) →
   i ∈ Region.ready .any ops listed → YieldsIf P ops T oi v a → T w →
   wpAnyX P ops Q S hold fuel (listed.setIfInBounds i true) (a.put oi.dst v) w → wpAnyX P ops Q S hold (fuel + 1) listed a w := by
 intro fuel
 induction fuel with
 | zero =>
  intro listed a w _ _ hr hy hS H
  refine ⟨fun h => (by rw [h] at hr; cases hr), fun j hj => ?_⟩
  by_cases hji : j = i
  ·subst hji; exact hy.wpOp hi hS ⟨fun _ h => h, H⟩
  ·have := ready_mono hj hji
   rw [H.1] at this
   cases this
 | succ fuel ih =>
  intro listed a w hwait hfree hr hy hS H
  refine ⟨fun h => (by rw [h] at hr; cases hr), fun j hj => ?_⟩
  by_cases hji : j = i
  ·subst hji; exact hy.wpOp hi hS ⟨fun _ h => h, H⟩
  ·have h1 := H.2 j (ready_mono hj hji)
   obtain ⟨hjun, oj, hoj, hall⟩ := mem_ready.1 hj
   have hWj : W j = false := by
    cases hWc : W j with
    | false => rfl
    | true =>
     exfalso
     obtain ⟨_, e, he, hb, hor⟩ := hwait j oj hoj hWc
     have h1 := hall e he hb
     rcases hor with heq | ⟨hWe, hsome⟩
     ·have h0 := (mem_ready.1 hr).1
      rw [heq] at h1
      rcases Nat.lt_or_ge i listed.size with h' | h'
      ·simp [h'] at h0 h1; rw [h0] at h1; cases h1
      ·simp [Array.getElem?_eq_none h'] at h1
     ·obtain ⟨oe, hoe⟩ := Option.isSome_iff_exists.1 hsome
      obtain ⟨hun, _⟩ := hwait e.on oe hoe hWe
      rcases Nat.lt_or_ge e.on listed.size with h' | h'
      ·simp [h'] at hun h1; rw [hun] at h1; cases h1
      ·simp [Array.getElem?_eq_none h'] at h1
   obtain ⟨hap, hhold⟩ := hfree j oj hoj hji hjun hWj
   have h2 := wpOp_putIf hoj hap (fun cs b => hsel i oi cs b hi) (fun cs b => hsel j oj cs b hoj) hQ hy h1
   have hfree' : ∀ k ok, ops[k]? = some ok → k ≠ i → (listed.setIfInBounds j true).getD k true = false →
     W k = false → oi.apart ops ok = true ∧ ((hold k = true ∧ T = S) ∨ T = fun _ => True) := fun k ok hk hki hun hno => by
    refine hfree k ok hk hki ?_ hno
    by_cases hjk : j = k
    ·subst hjk; exact hjun
    ·rw [getD_set_ne true hjk] at hun; exact hun
   have hwait' : Waiting ops (listed.setIfInBounds j true) i W := fun k ok hk hWk => by
    obtain ⟨h1, h2⟩ := hwait k ok hk hWk
    have hjk : j ≠ k := fun e => by subst e; rw [hWj] at hWk; cases hWk
    exact ⟨by rw [getD_set_ne true hjk]; exact h1, h2⟩
   refine wpOp_mono (fun a' w' h3 => ?_) h2
   have hS' : T w' := by
    rcases hhold with ⟨h1, h2⟩ | h2
    ·rw [h2]; exact h3.2.1 h1 (h2 ▸ hS)
    ·rw [h2]; trivial
   refine ⟨h3.2.1, ih (listed.setIfInBounds j true) a' w' hwait' hfree' (ready_mono hr (Ne.symm hji)) h3.1 hS' ?_⟩
   rw [Array.setIfInBounds_comm _ _ hji]
   exact h3.2.2
def isPure (o : Oper) : Bool := match o.op with
 | .move .. => true | .pick .. => true | .unOp .. => true | .fieldAddr .. => true | .indexAddr .. => true | .binOp .. => true | .nilCheck .. => true | .build .. => true
 | _ => false
def Tame (o : Oper) (S : World → Prop) : World → Prop := match isPure o with | true => fun _ => True | false => S
theorem tame_of {o : Oper} {S : World → Prop} {w : World} (h : S w) : Tame o S w := by unfold Tame; cases isPure o <;> first | trivial | exact h
theorem tame_eq {o : Oper} {S : World → Prop} {h : Bool} (hh : (h || isPure o) = true) : (h = true ∧ Tame o S = S) ∨ Tame o S = fun _ => True := by
 unfold Tame
 cases hp : isPure o with
 | true => exact .inr rfl
 | false => rw [hp, Bool.or_false] at hh; exact .inl ⟨hh, rfl⟩
def waits (ops : Array Oper) (listed : Array Bool) (i : Nat) : List Nat → List Nat → List Nat
 | [], acc => acc
 | j :: r, acc => waits ops listed i r (match ops[j]? with
   | some oj => if !(listed.getD j true) && oj.after.any (fun e => Region.binds .any e && (Nat.beq e.on i || (acc.any (Nat.beq e.on) && (ops[e.on]?).isSome))) then j :: acc else acc
   | none => acc)
theorem beq_iff {a b : Nat} : Nat.beq a b = true ↔ a = b := ⟨Nat.eq_of_beq_eq_true, fun h => by subst h; simp⟩
theorem any_iff {l : List Nat} {a : Nat} : l.any (Nat.beq a) = true ↔ a ∈ l := by
 rw [List.any_eq_true]
 constructor
 ·rintro ⟨x, h1, h2⟩; rw [beq_iff] at h2; exact h2 ▸ h1
 ·intro h; exact ⟨a, h, beq_iff.2 rfl⟩
theorem waits_spec {listed : Array Bool} {i : Nat} : ∀ (js acc : List Nat), Waiting ops listed i (fun j => acc.any (Nat.beq j)) → Waiting ops listed i (fun j => (waits ops listed i js acc).any (Nat.beq j))
 | [], _, h => h
 | j :: r, acc, h => by
  unfold waits
  apply waits_spec r
  cases hj : ops[j]? with
  | none => exact h
  | some oj =>
   dsimp only
   split
   ·rename_i hc
    simp only [Bool.and_eq_true, Bool.not_eq_true'] at hc
    intro k ok hk hW
    rw [any_iff, List.mem_cons] at hW
    rcases hW with rfl | hW
    ·rw [hj] at hk; cases hk
     refine ⟨hc.1, ?_⟩
     obtain ⟨e, he, h2⟩ := Array.any_eq_true'.1 hc.2
     rw [Bool.and_eq_true, Bool.or_eq_true, beq_iff, Bool.and_eq_true, any_iff] at h2
     refine ⟨e, he, h2.1, h2.2.imp id fun h3 => ⟨?_, h3.2⟩⟩
     rw [any_iff]; exact List.mem_cons_of_mem _ h3.1
    ·obtain ⟨h1, e, he, hb, h2⟩ := h k ok hk (any_iff.2 hW)
     refine ⟨h1, e, he, hb, h2.imp id fun h3 => ⟨?_, h3.2⟩⟩
     rw [any_iff]; exact List.mem_cons_of_mem _ (any_iff.1 h3.1)
   ·exact h
def freeX (ops : Array Oper) (hold : Nat → Bool) (listed : Array Bool) (i : Nat) : Bool :=
 match ops[i]? with
 | none => false
 | some oi => (fun W => (List.range ops.size).all fun j => Nat.beq j i || listed.getD j true || List.any W (Nat.beq j) || match ops[j]? with
   | some oj => oi.apart ops oj && (hold j || isPure oi)
   | none => true) (waits ops listed i (List.range ops.size) [])
theorem freeX_spec {i : Nat} {oi : Oper} {listed : Array Bool} (hi : ops[i]? = some oi) (h : freeX ops hold listed i = true) (j : Nat) (oj : Oper)
  (hj : ops[j]? = some oj) (hne : j ≠ i) (hun : listed.getD j true = false) (hno : (waits ops listed i (List.range ops.size) []).any (Nat.beq j) = false) :
  oi.apart ops oj = true ∧ ((hold j = true ∧ Tame oi S = S) ∨ Tame oi S = fun _ => True) := by
 simp only [freeX, hi, List.all_eq_true, List.mem_range] at h
 have h1 := h j (Array.getElem?_eq_some_iff.1 hj).1
 simp only [hj, hun, hno, Bool.or_false, beq_iff, hne, Bool.or_eq_true, false_or, Bool.and_eq_true] at h1
 exact ⟨h1.1, tame_eq (by rw [Bool.or_eq_true]; exact h1.2)⟩
def planOk (ops : Array Oper) (hold : Nat → Bool) : List (Nat × Bool) → Array Bool → Bool
 | [], listed => (Region.ready .any ops listed).isEmpty
 | (i, true) :: r, listed => (Region.ready .any ops listed).contains i && freeX ops hold listed i && planOk ops hold r (listed.setIfInBounds i true)
 | (i, false) :: r, listed => (Region.ready .any ops listed) == [i] && planOk ops hold r (listed.setIfInBounds i true)
def wpPlan (P : Program) (ops : Array Oper) (Q : Exit → Act → World → Prop) (S : World → Prop) (hold : Nat → Bool) : List (Nat × Bool) → Act → World → Prop
 | [], a, w => Q .normal a w
 | (i, true) :: r, a, w => ∃ oi v, ops[i]? = some oi ∧ YieldsIf P ops (Tame oi S) oi v a ∧ Tame oi S w ∧ wpPlan P ops Q S hold r (a.put oi.dst v) w
 | (i, false) :: r, a, w => wpOp P ops Q i (fun a' w' => (hold i = true → S w → S w') ∧ wpPlan P ops Q S hold r a' w') a w
theorem wpAnyX_of_plan (hs : Region.noSelect ops = true) (hQ : ∀ c a d v w, Q (.panic c) (Act.put a d v) w → Q (.panic c) a w) : ∀ (plan : List (Nat × Bool)) (listed : Array Bool) (a : Act) (w : World),
  planOk ops hold plan listed = true → wpPlan P ops Q S hold plan a w → wpAnyX P ops Q S hold plan.length listed a w
 | [], listed, a, w, hp, h => ⟨by simpa [planOk] using hp, h⟩
 | (i, true) :: r, listed, a, w, hp, ⟨oi, v, hi, hy, hS, h⟩ => by
  simp only [planOk, Bool.and_eq_true] at hp
  exact wpAnyX_first hi (Region.noSelect_spec hs) (fun c a w => hQ c a oi.dst v w) _ (Tame oi S) r.length listed a w (waits_spec (List.range ops.size) [] (fun j oj _ h => by simp at h)) (freeX_spec hi hp.1.2) (by simpa using hp.1.1) hy hS (wpAnyX_of_plan hs hQ r _ _ _ hp.2 h)
 | (i, false) :: r, listed, a, w, hp, h => by
  simp only [planOk, Bool.and_eq_true] at hp
  have hr : Region.ready .any ops listed = [i] := by simpa using hp.1
  refine ⟨fun h0 => absurd (hr ▸ h0) (by simp), ?_⟩
  rw [hr]
  intro j hj
  have hj : j = i := by simpa using hj
  subst hj
  exact wpOp_mono (fun a' w' h3 => ⟨h3.1, wpAnyX_of_plan hs hQ r _ a' w' hp.2 h3.2⟩) h
end
class Mixed (P : Program) : Prop where m : P.follows .mixedOrders = true
section
variable {P : Program} {n : Nat} {env : Env} {w : World} {Q : Exit → Act → World → Prop} {S : World → Prop} {hold : Nat → Bool}
theorem drawn {id : Nat} {l : List Oper} (S : World → Prop) (hold : Nat → Bool) (plan : List (Nat × Bool)) [hm : Mixed P] (hlen : Nat.beq l.length plan.length = true) (hs : Region.noSelect l.toArray = true)
  (hp : planOk l.toArray hold plan (Array.replicate plan.length false) = true)
  (h : E n env w.drew (wpPlan P l.toArray (NoPanic Q) S hold plan)) : E n env w ((Code.region id l.toArray true).wp P Q) := by
 constructor; intro a ha
 refine wp_region_noPanic (wp_region_any hm.m (wpAny_of_X (S := S) (hold := hold) _ _ _ _ ?_))
 have hlen : l.toArray.size = plan.length := by simpa using beq_iff.1 hlen
 rw [hlen]
 exact wpAnyX_of_plan hs (fun c a d v w h => h) plan _ a _ hp (h.run a ha)
section
variable {ops : Array Oper} {i d : Nat} {t : Bool} {r : List (Nat × Bool)} {v : Value} {p : Prop} [Decidable p]
theorem pguard_true (_hd : (nth ops.toList i).bind (gslot ops) = some d) (hp : lk env d = some v) (hv : v = .bool (decide p)) (h : p) (k : E n ((d, .bool true) :: env) w (wpPlan P ops Q S hold ((i, t) :: r))) : E n env w (wpPlan P ops Q S hold ((i, t) :: r)) :=
 relit (hv ▸ hp) (by simpa using h) k
theorem pguard_false (_hd : (nth ops.toList i).bind (gslot ops) = some d) (hp : lk env d = some v) (hv : v = .bool (decide p)) (h : ¬ p) (k : E n ((d, .bool false) :: env) w (wpPlan P ops Q S hold ((i, t) :: r))) : E n env w (wpPlan P ops Q S hold ((i, t) :: r)) :=
 relit (hv ▸ hp) (by simpa using h) k
end
theorem pguard_bool {ops : Array Oper} {i d : Nat} {t p : Bool} {r : List (Nat × Bool)} (_hd : (nth ops.toList i).bind (gslot ops) = some d) (hp : lk env d = some (.bool p)) (h1 : p = true → E n ((d, .bool true) :: env) w (wpPlan P ops Q S hold ((i, t) :: r)))
  (h2 : p = false → E n ((d, .bool false) :: env) w (wpPlan P ops Q S hold ((i, t) :: r))) : E n env w (wpPlan P ops Q S hold ((i, t) :: r)) := by
 have hp' : lk env d = some (.bool (decide (p = true))) := by rw [hp]; cases p <;> rfl
 cases p
 ·exact relit hp' rfl (h2 rfl)
 ·exact relit hp' rfl (h1 rfl)
theorem done {ops : Array Oper} (h : E n env w (Q .normal)) : E n env w (wpPlan P ops (NoPanic Q) S hold []) := ⟨h.run⟩
structure TW (P : Program) (n : Nat) (env : Env) (w : World) (o : Oper) (S : World → Prop) (K : Act → World → Prop) : Prop where
 run : ∀ a, Has n env a → ∃ v, (∀ w, S w → (execOp a.eval o).run P w = .ok (.value v) w) ∧ K (a.put o.dst v) w
theorem take {ops : Array Oper} {i : Nat} {r : List (Nat × Bool)} {o : Oper} (hi : nth ops.toList i = some o) (hw : Wanted n env ops o true) (hp : isPure o = false) (hS : S w) (h : TW P n env w o S (wpPlan P ops Q S hold r)) : E n env w (wpPlan P ops Q S hold ((i, true) :: r)) := by
 constructor; intro a ha
 obtain ⟨v, h1, h2⟩ := h.run a ha
 have ht : Tame o S = S := by unfold Tame; rw [hp]
 exact ⟨o, v, (nth_array ops i).symm.trans hi, by rw [ht]; exact .inl ⟨hw a ha, h1⟩, by rw [ht]; exact hS, h2⟩
theorem take_pure {ops : Array Oper} {i : Nat} {r : List (Nat × Bool)} {o : Oper} (hi : nth ops.toList i = some o) (hw : Wanted n env ops o true) (hp : isPure o = true) (h : TW P n env w o (fun _ => True) (wpPlan P ops Q S hold r)) : E n env w (wpPlan P ops Q S hold ((i, true) :: r)) := by
 constructor; intro a ha
 obtain ⟨v, h1, h2⟩ := h.run a ha
 have ht : Tame o S = fun _ => True := by unfold Tame; rw [hp]
 exact ⟨o, v, (nth_array ops i).symm.trans hi, by rw [ht]; exact .inl ⟨hw a ha, h1⟩, by rw [ht]; trivial, h2⟩
theorem tsoft {d : Nat} {p : Op} {ty : TypeId} {pos : String} {aft : Array Edge} {gd : Option (Nat × Bool)} {K : Act → World → Prop} {v : Value} (hs : Soft P n env S p v) (hd : Nat.blt d n = true) (h : E n ((d, v) :: env) w K) :
  TW P n env w ⟨some d, p, ty, pos, aft, gd⟩ S K := ⟨fun a ha => ⟨v, fun w hw => hs a ha _ rfl w hw, h.run _ (ha.put (d := d) v hd)⟩⟩
theorem take_not {ops : Array Oper} {i d : Nat} {p : Op} {ty : TypeId} {pos : String} {aft : Array Edge} {gd : Option (Nat × Bool)} {r : List (Nat × Bool)} (hi : nth ops.toList i = some ⟨some d, p, ty, pos, aft, gd⟩) (hw : Wanted n env ops ⟨some d, p, ty, pos, aft, gd⟩ false)
  (hd : Nat.blt d n = true) (hS : Tame ⟨some d, p, ty, pos, aft, gd⟩ S w) (h : E n ((d, undef) :: env) w (wpPlan P ops Q S hold r)) : E n env w (wpPlan P ops Q S hold ((i, true) :: r)) := ⟨fun a ha =>
 ⟨_, undef, (nth_array ops i).symm.trans hi, .inr ⟨hw a ha, rfl⟩, hS, h.run _ (ha.put (d := d) undef hd)⟩⟩
def Went (S : World → Prop) (hold : Nat → Bool) (i : Nat) (K : Act → World → Prop) : Act → World → Prop := fun a w => (hold i = true → S w) ∧ K a w
theorem gow {ops : Array Oper} {i : Nat} {r : List (Nat × Bool)} {o : Oper} (hi : nth ops.toList i = some o) (hw : Wanted n env ops o true)
  (h : OW P n env w o (Went S hold i (wpPlan P ops Q S hold r)) Q) : E n env w (wpPlan P ops Q S hold ((i, false) :: r)) := by
 constructor; intro a ha
 have hi := (nth_array ops i).symm.trans hi
 have h1 : wpOp P ops Q i (Went S hold i (wpPlan P ops Q S hold r)) a w := by
  unfold wpOp
  simp only [hi, hw a ha, if_true]
  exact .inl (h.run a ha)
 exact wpOp_mono (fun a' w' h => ⟨fun h2 _ => h.1 h2, h.2⟩) h1
theorem go_not {ops : Array Oper} {i d : Nat} {p : Op} {ty : TypeId} {pos : String} {aft : Array Edge} {gd : Option (Nat × Bool)} {r : List (Nat × Bool)} (hi : nth ops.toList i = some ⟨some d, p, ty, pos, aft, gd⟩) (hw : Wanted n env ops ⟨some d, p, ty, pos, aft, gd⟩ false)
  (hd : Nat.blt d n = true) (h : E n ((d, undef) :: env) w (wpPlan P ops Q S hold r)) : E n env w (wpPlan P ops Q S hold ((i, false) :: r)) := by
 constructor; intro a ha
 have hi := (nth_array ops i).symm.trans hi
 show wpOp P ops Q i _ a w
 unfold wpOp
 simp only [hi, hw a ha]
 exact ⟨fun _ h => h, h.run _ (ha.put (d := d) undef hd)⟩
theorem went {i : Nat} {K : Act → World → Prop} (hS : S w) (h : E n env w K) : E n env w (Went S hold i K) := ⟨fun a ha => ⟨fun _ => hS, h.run a ha⟩⟩
theorem went_free {i : Nat} {K : Act → World → Prop} (hi : hold i = false) (h : E n env w K) : E n env w (Went S hold i K) := ⟨fun a ha => ⟨fun h2 => (by rw [hi] at h2; cases h2), h.run a ha⟩⟩
end
variable {d : Nat} {ty : TypeId} {pos : String} {aft : Array Edge} {gd : Option (Nat × Bool)}
class UElem (P : Program) (e : TypeId) (z : outParam Value) (size bytes : outParam Nat) : Prop where i : (P.info? e).map (fun i => (i.zero, i.size, i.bytes)) = some (some z, size, bytes)
class UFunc (P : Program) (f : FuncId) : Prop where c : ∀ args w, (callFunc f args).run P w = .ok (.enter f args) w
section
variable {P : Program} {n : Nat} {env : Env} {w : World} {Q : Exit → Act → World → Prop} {K : Act → World → Prop}
theorem call {d : Nat} {f : FuncId} {xs : List Operand} {ts : Array TypeId} {vs : List Value} {R : Ending → World → Prop} [hf : UFunc P f]
  (hxs : evs env xs = some vs) (hc : Calls P f vs.toArray w R) (hd : Nat.blt d n = true) (h : ∀ e w', R e w' → ∃ v, e = .returned v ∧ E n ((d, v) :: env) w' K) :
  OW P n env w ⟨some d, .call { callee := .value (.func f), args := xs.toArray, argTypes := ts }, ty, pos, aft, gd⟩ K Q := by
 constructor; intro a ha
 show Oper.upon P _ a K Q ((execOp a.eval _).run P w)
 have hr : (execOp a.eval ⟨some d, .call { callee := .value (.func f), args := xs.toArray, argTypes := ts }, ty, pos, aft, gd⟩).run P w = .ok (.enter f vs.toArray) w := by
  have he : (xs.toArray.map a.eval) = vs.toArray := by simp [ha.evs hxs]
  have hv : a.eval (.func f) = .func (.func f) #[] #[] := rfl
  simp only [execOp, resolve, hv, he]
  simp [Deferred.ofValue, invoke, hf.c]
 rw [hr]
 refine Calls.mono hc fun e w' hR => ?_
 obtain ⟨v, rfl, hk⟩ := h e w' hR
 exact hk.run _ (ha.put (d := d) v hd)
theorem box {e : TypeId} {x : Operand} {v : Value} (hx : ev env x = some v) (hd : Nat.blt d n = true)
  (h : ∀ b w', w.heap.size ≤ b → Row w' b e v.cells.toList → Upd (fun _ => False) w w' → E n ((d, .pointer (some ⟨b, 0, none⟩)) :: env) w' K) : OW P n env w ⟨some d, .box e x, ty, pos, aft, gd⟩ K Q := by
 refine eff (v := .pointer (some ⟨w.heap.size, 0, none⟩)) (w' := w.alloc (.cells v.cells e)) (fun a ha => ?_) hd ?_
 ·simp [execOp, ha.ev hx, Instr.box, newVar, newRow]
 ·exact h _ _ (Nat.le_refl _) (Row.new w e v.cells.toList) ((Upd.refl _ _).alloc _)
theorem alloc {e : TypeId} {z : Value} [hz : UZero P e z] (hd : Nat.blt d n = true)
  (h : ∀ b w', w.heap.size ≤ b → Row w' b e z.cells.toList → Upd (fun _ => False) w w' → E n ((d, .pointer (some ⟨b, 0, none⟩)) :: env) w' K) : OW P n env w ⟨some d, .alloc e, ty, pos, aft, gd⟩ K Q := by
 refine eff (v := .pointer (some ⟨w.heap.size, 0, none⟩)) (w' := w.alloc (.cells z.cells e)) (fun a ha => ?_) hd ?_
 ·simp [execOp, Instr.alloc, hz.z, newVar, newRow]
 ·exact h _ _ (Nat.le_refl _) (Row.new w e z.cells.toList) ((Upd.refl _ _).alloc _)
def evp (env : Env) : List (Nat × Operand) → Option (List (Nat × Value))
 | [] => some []
 | (i, x) :: r => match ev env x, evp env r with
  | some v, some l => some ((i, v) :: l)
  | _, _ => none
theorem _root_.Go.RX.Has.evp {n : Nat} {env : Env} {a : Act} (h : Has n env a) : ∀ {xs : List (Nat × Operand)} {vs : List (Nat × Value)}, RX.evp env xs = some vs → xs.map (fun (i, x) => (i, a.eval x)) = vs
 | [], vs, hx => by simpa [RX.evp] using hx
 | (i, x) :: r, vs, hx => by
  simp only [RX.evp] at hx
  split at hx
  ·rename_i v l h1 h2
   cases hx
   simp [h.ev h1, h.evp h2]
  ·cases hx
theorem build {S : World → Prop} {t : TypeId} {parts : List (Nat × Operand)} {pv : List (Nat × Value)} {v : Value} (hx : evp env parts = some pv) (hb : ∀ w, (Instr.build t pv.toArray).run P w = .ok v w) : Soft P n env S (.build t parts.toArray) v := fun a ha o ho w _ => by
 have := ha.evp hx
 simp [execOp, ho, this, hb]
theorem store_row {t e : TypeId} {x y : Operand} {b i : Nat} {v : Value} {vs : List Value} [hs : USize P t 1] (hx : ev env x = some (.pointer (some ⟨b, i, none⟩))) (hy : ev env y = some v)
  (hr : Row w b e vs) (hv : v.oneCell' = true) (hi : i < vs.length) (h : ∀ w', Row w' b e (vs.set i v) → Upd (fun k => k = b) w w' → E n env w' K) : OW P n env w ⟨none, .store t x y, ty, pos, aft, gd⟩ K Q :=
 store hx hy hv (hr.cell_some (List.getElem?_eq_getElem hi)) (hr.free i) (h _ (hr.set i v) ((Upd.refl (fun k => k = b) w).setCell (p := ⟨b, i, none⟩) (fun _ => rfl) v))
theorem make {t e : TypeId} {x y : Operand} {kx ky : IntKind} {c : Nat} {i : Int} {z : Value} {size bytes : Nat} [ht : USlice P t e] [hi : UElem P e z size bytes]
  (hx : ev env x = some (.int kx i)) (hy : ev env y = some (.int ky i)) (hi0 : i = (c : Int)) (hb : bytes * c ≤ 281474976710656) (h63 : c ≤ 9223372036854775807) (hd : Nat.blt d n = true)
  (h : ∀ b w', w.heap.size ≤ b → Row w' b e (madeCells z.cells (c * size)).toList → Upd (fun _ => False) w w' → E n ((d, .slice (some ⟨b, 0, none⟩) c c) :: env) w' K) : OW P n env w ⟨some d, .makeSlice t x y, ty, pos, aft, gd⟩ K Q := by
 obtain ⟨ii, h0, h1, h2, h3⟩ := info_parts hi.i
 subst h2; subst h3; subst hi0
 have hr := run_make (P := P) w t e ii z ht.u h0 h1 kx ky (c : Int) (c : Int) (by omega) (Int.le_refl _) (by
  have h : ((ii.bytes * c : Nat) : Int) ≤ 281474976710656 := by omega
  rwa [Int.natCast_mul] at h) (by omega)
 simp only [Int.toNat_natCast] at hr
 refine eff (v := .slice (some ⟨w.heap.size, 0, none⟩) c c) (fun a ha => ?_) hd (h _ _ (Nat.le_refl _) (Row.new w e (madeCells z.cells (c * ii.size)).toList) ((Upd.refl _ _).alloc _))
 simp [execOp, ha.ev hx, ha.ev hy, hr]
theorem append {x y : Operand} {t e : TypeId} {z : Value} {sz bytes m c k B : Nat} {v : Value} {ad : Addr} {xs news : List Value} [ht : USlice P t e] [hi : UElem P e z sz bytes]
  (hd : Nat.blt d n = true) (hx : ev env x = some v) (hy : ev env y = some (.slice (some ad) m c)) (hown : w.ownsRow B e sz v k xs) (hB : B ≤ w.heap.size)
  (hl : news.length = m * sz) (hnews : ∀ j u, news[j]? = some u → w.cell? (ad.add j) = some u) (h1 : ∀ u ∈ news, u.oneCell' = true) (hzs : z.cells.size = sz) (hsz : 0 < sz) (h63 : k + m ≤ maxLen) (hbytes : (k + m) * bytes ≤ 140737488355328)
  (h : ∀ v' w', w'.ownsRow B e sz v' (k + m) (xs ++ news) → Upd (fun j => v.ownBlock = some j) w w' → (v'.ownBlock = v.ownBlock ∨ v'.ownBlock = some w.heap.size) → E n ((d, v') :: env) w' K) : OW P n env w ⟨some d, .call { callee := .builtin .append, args := #[x, y], argTypes := #[t, t] }, ty, pos, aft, gd⟩ K Q := by
 obtain ⟨ii, h0, h2, h3, h4⟩ := info_parts hi.i
 obtain ⟨v', w', hr, hown', hg, _, hlies⟩ := run_append_own_at (P := P) w B t ty e ii z sz bytes ht.u h0 h2 h3 h4 hzs hsz v k xs hown ad m c news hl hnews h1 h63 hbytes hB
 refine eff (v := v') (w' := w') (fun a ha => ?_) hd (h v' w' hown' ⟨hg.os, hg.tape, hg.output, hg.size, fun j hj hn => hg.block j hj (fun e => hn e.symm)⟩ hlies)
 simp [execOp, ha.ev hx, ha.ev hy, resolve, invoke, builtin, hr]
end
section
variable {P : Program} {w : World} {R : Ending → World → Prop}
def mkEnv : Nat → List Value → Env
 | _, [] => []
 | k, v :: r => (k, v) :: mkEnv (k + 1) r
theorem mkEnv_get : ∀ (l : List Value) (k t : Nat) (v : Value), lk (mkEnv k l) t = some v → k ≤ t ∧ l[t - k]? = some v
 | [], k, t, v, h => by simp [mkEnv, lk] at h
 | u :: r, k, t, v, h => by
  rw [mkEnv, lk_cons] at h
  split at h
  ·rename_i e; subst e; cases h; simp
  ·obtain ⟨h1, h2⟩ := mkEnv_get r (k + 1) t v h
   refine ⟨by omega, ?_⟩
   rw [show t - k = (t - (k + 1)) + 1 by omega]
   simpa using h2
theorem enter {f : FuncId} {fn : Func} {c : Code} {args : List Value} {n : Nat} (hf : P.funcs[f]? = some fn) (hb : fn.body = some c) (hn : fn.ntmps = n) (ha : Nat.ble args.length n = true)
  (h : E n (mkEnv 0 args) w (c.wp P (bodyPost P fn R))) : Calls P f args.toArray w R := by
 refine calls_of_wp hf hb (h.run _ ⟨rfl, ?_, fun t v ht => ?_⟩)
 ·have : args.length ≤ n := Nat.le_of_ble_eq_true ha
  simp [hn]; omega
 ·obtain ⟨_, h2⟩ := mkEnv_get args 0 t v ht
  have : t < args.length := by
   rcases Nat.lt_or_ge t args.length with h | h
   ·exact h
   ·simp [h] at h2
  rw [Array.getElem?_append_left (by simpa using this)]
  simpa using h2
variable {n : Nat} {env : Env}
theorem ret1 {fn : Func} {t : Tmp} {v : Value} (hr : fn.results = #[.tmp t]) (hv : lk env t = some v) (h : R (.returned v) w) : E n env w (bodyPost P fn R .ret) := ⟨fun a ha =>
 bodyPost_ret (results_tmp hr _ _ _) ha.defers (by have := ha.get t v hv; simpa [this] using h)⟩
theorem ret2 {fn : Func} {t u : Tmp} {v x : Value} (hr : fn.results = #[.tmp t, .tmp u]) (hv : lk env t = some v) (hx : lk env u = some x) (h : R (.returned (.tuple #[v, x])) w) : E n env w (bodyPost P fn R .ret) := ⟨fun a ha =>
 bodyPost_ret (results_tmp2 hr _ _ _) ha.defers (by have h1 := ha.get t v hv; have h2 := ha.get u x hx; simpa [h1, h2] using h)⟩
theorem ret3 {fn : Func} {t u s : Tmp} {v x y : Value} (hr : fn.results = #[.tmp t, .tmp u, .tmp s]) (hv : lk env t = some v) (hx : lk env u = some x) (hy : lk env s = some y) (h : R (.returned (.tuple #[v, x, y])) w) : E n env w (bodyPost P fn R .ret) := ⟨fun a ha =>
 bodyPost_ret (v := .tuple #[v, x, y]) (by have h1 := ha.get t v hv; have h2 := ha.get u x hx; have h3 := ha.get s y hy; simp [results, hr, h1, h2, h3]) ha.defers h⟩
theorem ret0 {fn : Func} (hr : fn.results = #[]) (h : R (.returned (.tuple #[])) w) : E n env w (bodyPost P fn R .ret) := ⟨fun _ ha =>
 bodyPost_ret (results_none hr _ _ _) ha.defers h⟩
theorem end0 {fn : Func} (hr : fn.results = #[]) (h : R (.returned (.tuple #[])) w) : E n env w (bodyPost P fn R .normal) := ⟨fun _ ha =>
 bodyPost_end (results_none hr _ _ _) ha.defers h⟩
end
def isKey (v : Value) (k : Int) : Bool := match v with
 | .int .i64 a => a == k
 | _ => false
@[simp] theorem isKey_int (a k : Int) : isKey (.int .i64 a) k = (a == k) := rfl
def look (k : Int) : List MapEntry → Option Value
 | [] => none
 | e :: r => if isKey e.key k then some e.val else look k r
def MapF (w : World) (b : Nat) (f : Int → Option Value) : Prop :=
 ∃ es clock, w.heap[b]? = some (.map es clock) ∧ (∀ e ∈ es.toList, ∃ k, e.key = .int .i64 k) ∧ ∀ k, look k es.toList = f k
theorem MapF.lt {w : World} {b : Nat} {f : Int → Option Value} (h : MapF w b f) : b < w.heap.size := by
 obtain ⟨es, c, h, _⟩ := h
 exact (Array.getElem?_eq_some_iff.1 h).1
theorem MapF.keep {O : Nat → Prop} {w w' : World} {b : Nat} {f : Int → Option Value} (h : MapF w b f) (hu : Upd O w w') (hb : ¬ O b) : MapF w' b f := by
 have hl := h.lt
 obtain ⟨es, c, h, h2⟩ := h
 exact ⟨es, c, (hu.block b hl hb).trans h, h2⟩
section
variable {P : Program}
theorem findNow_int (k : Int) : ∀ (l : List MapEntry) (i : Nat), (∀ e ∈ l, ∃ k, e.key = .int .i64 k) →
  ∃ r, Instr.findNow (.int .i64) (.int .i64 k) l i = some r ∧ r.map (·.2) = look k l ∧ (∀ j v, r = some (j, v) → ∃ m e, j = i + m ∧ l[m]? = some e ∧ e.key = .int .i64 k ∧ ∀ x, look k (l.modify m fun e => { e with key := .int .i64 k, val := x }) = some x)
 | [], i, _ => ⟨none, rfl, rfl, fun j v h => by cases h⟩
 | e :: r, i, h => by
  obtain ⟨k', hk⟩ := h e (by simp)
  by_cases hkk : k' = k
  ·subst hkk
   refine ⟨some (i, e.val), by simp [Instr.findNow, hk, Instr.sameNow], by simp [look, hk], fun j v hj => ?_⟩
   cases hj
   exact ⟨0, e, rfl, rfl, hk, fun x => by simp [look]⟩
  ·have hne : isKey e.key k = false := by rw [hk]; simp [hkk]
   obtain ⟨r', h1, h2, h3⟩ := findNow_int k r (i + 1) (fun e he => h e (by simp [he]))
   have hb : (k == k') = false := by simpa using fun e => hkk e.symm
   refine ⟨r', by simp [Instr.findNow, hk, Instr.sameNow, hb, h1], by simp [look, hne, h2], fun j v hj => ?_⟩
   obtain ⟨m, e', e1, e2, e3, e4⟩ := h3 j v hj
   exact ⟨m + 1, e', by omega, by simpa using e2, e3, fun x => by simp [look, hne, e4 x]⟩
theorem look_modify {k k' : Int} (hne : k' ≠ k) (x : Value) : ∀ (l : List MapEntry) (m : Nat) (e : MapEntry), l[m]? = some e → e.key = .int .i64 k → look k' (l.modify m fun e => { e with key := .int .i64 k, val := x }) = look k' l
 | [], _, _, h, _ => by simp at h
 | a :: l, 0, e, h, hk => by
  simp at h; subst h
  have : ¬ k = k' := fun e => hne e.symm
  simp [look, hk, this]
 | a :: l, m + 1, e, h, hk => by
  have ih := look_modify hne x l m e (by simpa using h) hk
  simp [look, ih]
theorem look_append (k k' : Int) (x : Value) (c : Nat) : ∀ l : List MapEntry, look k' (l ++ [{ key := .int .i64 k, val := x, born := c }]) = (look k' l).or (if k' = k then some x else none)
 | [] => by
  by_cases h : k' = k
  ·simp [look, h]
  ·simp [look, h, show ¬ k = k' from fun e => h e.symm]
 | e :: r => by
  simp only [List.cons_append, look]
  split
  ·simp
  ·exact look_append k k' x c r
def upd (f : Int → Option Value) (k : Int) (v : Value) : Int → Option Value := fun k' => if k' = k then some v else f k'
variable {n : Nat} {env : Env} {w : World} {S : World → Prop} {Q : Exit → Act → World → Prop} {K : Act → World → Prop}
theorem run_checkKey {t : TypeId} {b : Bool} {k : Int} {d : Nat} (h : P.underlying t = some (.int .i64)) : (Instr.checkKey b (d + 1) t (.int .i64 k)).run P w = .ok () w := by
 simp [Instr.checkKey, run_underlying h]
theorem run_lookup {t k e : TypeId} {b : Nat} {f : Int → Option Value} {i : Int} {z : Value} (ht : P.underlying t = some (.map k e)) (hk : P.underlying k = some (.int .i64)) (hz : (zeroValue e).run P w = .ok z w) (hm : MapF w b f) (ok : Bool) :
  (Instr.lookup t (.map (some b)) (.int .i64 i) ok).run P w = .ok (if ok then .tuple #[(f i).getD z, .bool (f i).isSome] else (f i).getD z) w := by
 obtain ⟨es, c, hb, hkeys, hf⟩ := hm
 obtain ⟨r, h1, h2, _⟩ := findNow_int i es.toList 0 hkeys
 have hc := run_checkKey (P := P) (w := w) (b := es.isEmpty) (k := i) (d := 9999) hk
 have hg : (getObj b).run P w = .ok (.map es c) w := by simp [getObj, Sem.run, hb]
 rw [← hf i, ← h2]
 cases r with
 | none => simp [Instr.lookup, run_underlying ht, hg, hc, Instr.findKey, run_underlying hk, h1, hz]
 | some p => simp [Instr.lookup, run_underlying ht, hg, hc, Instr.findKey, run_underlying hk, h1]
theorem lookup {t k e : TypeId} {x y : Operand} {b : Nat} {f : Int → Option Value} {i : Int} {z : Value} [ht : UMap P t k e] [hk : UInt P k .i64] [hz : UZero P e z] (hx : ev env x = some (.map (some b))) (hy : ev env y = some (.int .i64 i)) (hm : ∀ w, S w → MapF w b f) :
  Soft P n env S (.lookup t x y false) ((f i).getD z) := fun a ha o ho w hw => by
 simp [execOp, ho, ha.ev hx, ha.ev hy, run_lookup ht.u hk.u (hz.z w) (hm w hw)]
theorem makeMap {d : Nat} {ty : TypeId} {pos : String} {aft : Array Edge} {gd : Option (Nat × Bool)} {t k e : TypeId} [UMap P t k e] (hd : Nat.blt d n = true)
  (h : ∀ b w', w.heap.size ≤ b → MapF w' b (fun _ => none) → Upd (fun _ => False) w w' → E n ((d, .map (some b)) :: env) w' K) : OW P n env w ⟨some d, .makeMap t none, ty, pos, aft, gd⟩ K Q := by
 refine eff (v := .map (some w.heap.size)) (w' := w.alloc (.map #[] 0)) (fun a ha => ?_) hd (h _ _ (Nat.le_refl _) ⟨#[], 0, heap_alloc_new w _, by simp, fun k => rfl⟩ ((Upd.refl _ _).alloc _))
 simp [execOp, Instr.makeMap]
theorem mapUpdate {ty : TypeId} {pos : String} {aft : Array Edge} {gd : Option (Nat × Bool)} {t k e : TypeId} {x y z : Operand} {b : Nat} {f : Int → Option Value} {i : Int} {v : Value} [ht : UMap P t k e] [hk : UInt P k .i64]
  (hx : ev env x = some (.map (some b))) (hy : ev env y = some (.int .i64 i)) (hz : ev env z = some v) (hm : MapF w b f)
  (h : ∀ w', MapF w' b (upd f i v) → Upd (fun k => k = b) w w' → E n env w' K) : OW P n env w ⟨none, .mapUpdate t x y z, ty, pos, aft, gd⟩ K Q := by
 have hlt := hm.lt
 obtain ⟨es, c, hb, hkeys, hf⟩ := hm
 obtain ⟨r, h1, h2, h3⟩ := findNow_int i es.toList 0 hkeys
 have hc := run_checkKey (P := P) (w := w) (b := false) (k := i) (d := 9999) hk.u
 have hg : (getObj b).run P w = .ok (.map es c) w := by simp [getObj, Sem.run, hb]
 have hset : ∀ o, (setObj b o).run P w = .ok () { w with heap := w.heap.setIfInBounds b o } := fun o => by simp [setObj, Sem.run, hb]
 have hupd : ∀ o, Upd (fun k => k = b) w { w with heap := w.heap.setIfInBounds b o } := fun o => ⟨rfl, rfl, rfl, by simp, fun j hj hn => Array.getElem?_setIfInBounds_ne (fun e => hn e.symm)⟩
 cases r with
 | none =>
  have hnone : look i es.toList = none := by rw [← h2]; rfl
  refine effU (w' := { w with heap := w.heap.setIfInBounds b (.map (es.push { key := .int .i64 i, val := v, born := c }) (c + 1)) }) (fun a ha => ?_) (h _ ⟨es.push { key := .int .i64 i, val := v, born := c }, c + 1, by simp [hlt], ?_, fun k' => ?_⟩ (hupd _))
  ·simp [execOp, ha.ev hx, ha.ev hy, ha.ev hz, Instr.mapUpdate, run_underlying ht.u, hg, hc, Instr.findKey, run_underlying hk.u, h1, hset]
  ·intro e he
   simp at he
   rcases he with he | rfl
   ·exact hkeys e (by simpa using he)
   ·exact ⟨i, rfl⟩
  ·rw [Array.toList_push, look_append, hf k']
   simp only [upd]
   by_cases hk' : k' = i
   ·subst hk'; rw [← hf k', hnone]; simp
   ·simp [hk']
 | some p =>
  obtain ⟨j, v0⟩ := p
  obtain ⟨m, e0, hj, he0, hkey, hmod⟩ := h3 j v0 rfl
  have hj : j = m := by omega
  subst hj
  have he0' : es[j]? = some e0 := by simpa using he0
  refine effU (w' := { w with heap := w.heap.setIfInBounds b (.map (es.modify j fun e => { e with key := .int .i64 i, val := v }) c) }) (fun a ha => ?_) (h _ ⟨es.modify j fun e => { e with key := .int .i64 i, val := v }, c, by simp [hlt], ?_, fun k' => ?_⟩ (hupd _))
  ·simp [execOp, ha.ev hx, ha.ev hy, ha.ev hz, Instr.mapUpdate, run_underlying ht.u, hg, hc, Instr.findKey, run_underlying hk.u, h1, hset, he0', hkey, Instr.keyThatStays, Instr.sameBits]
  ·intro e he
   rw [Array.toList_modify] at he
   obtain ⟨q, hq⟩ := List.getElem?_of_mem he
   rw [List.getElem?_modify] at hq
   obtain ⟨e1, he1, he2⟩ := Option.map_eq_some_iff.1 hq
   split at he2
   ·exact ⟨i, by rw [← he2]⟩
   ·rw [← he2]; exact hkeys _ (List.mem_of_getElem? he1)
  ·rw [Array.toList_modify]
   simp only [upd]
   by_cases hk' : k' = i
   ·subst hk'; simp [hmod v]
   ·rw [look_modify hk' v _ _ e0 he0 hkey, hf k']; simp [hk']
end
end Go.RX
