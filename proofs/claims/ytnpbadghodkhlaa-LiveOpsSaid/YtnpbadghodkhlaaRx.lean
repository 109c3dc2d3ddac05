/- A walk by explicit rules: what is known of a frame is a list of slots and values; each operation has one rule, whose premises are met by looking. No program in sight. -/
import Derived.WalkKit
import Derived.WalkSpells
import Derived.Orders
import Derived.Deep.LoopGhost
import Derived.Deep.RegionHeld3
import Derived.KernelRfl
import Derived.Test.YtnpbadghodkhlaaLib
namespace Go.RX
open Go Go.RowKit Go.RR

abbrev Env := List (Nat × Value)

/-- What the list says of a slot. -/
def lk : Env → Nat → Option Value
  | [], _ => none
  | (k, v) :: r, t => bif Nat.beq k t then some v else lk r t

theorem lk_cons (k : Nat) (v : Value) (r : Env) (t : Nat) : lk ((k, v) :: r) t = if k = t then some v else lk r t := by
  simp only [lk]
  by_cases h : k = t
  · subst h; simp
  · have : Nat.beq k t = false := by
      cases hb : Nat.beq k t
      · rfl
      · exact absurd (Nat.eq_of_beq_eq_true hb) h
    simp [this, h]

/-- The frame has n slots, of which the list says what some hold. -/
structure Has (n : Nat) (env : Env) (a : Act) : Prop where
  defers : a.defers = []
  size : a.tmps.size = n
  get : ∀ t v, lk env t = some v → a.tmps[t]? = some v

/-- With such a frame, in world w: K. -/
structure E (n : Nat) (env : Env) (w : World) (K : Act → World → Prop) : Prop where
  run : ∀ a, Has n env a → K a w

def ev (env : Env) : Operand → Option Value
  | .tmp t => lk env t
  | .const v => some v
  | .global g => some (.pointer (some ⟨g, 0, none⟩))
  | .func f => some (.func (.func f) #[] #[])

theorem Has.ev {n : Nat} {env : Env} {a : Act} (h : Has n env a) {x : Operand} {v : Value} (hx : ev env x = some v) : a.eval x = v := by
  cases x with
  | tmp t => simp [Act.eval, h.get t v hx]
  | const u => simpa [RX.ev, Act.eval] using hx
  | global g => simpa [RX.ev, Act.eval] using hx
  | func f => simpa [RX.ev, Act.eval] using hx

def evs (env : Env) : List Operand → Option (List Value)
  | [] => some []
  | x :: r => match ev env x, evs env r with
    | some v, some l => some (v :: l)
    | _, _ => none

theorem Has.evs {n : Nat} {env : Env} {a : Act} (h : Has n env a) : ∀ {xs : List Operand} {vs : List Value}, evs env xs = some vs → xs.map a.eval = vs
  | [], vs, hx => by simpa [RX.evs] using hx
  | x :: r, vs, hx => by
    simp only [RX.evs] at hx
    split at hx
    · rename_i v l h1 h2
      cases hx
      simp [h.ev h1, h.evs h2]
    · cases hx


theorem Has.put {n : Nat} {env : Env} {a : Act} (h : Has n env a) {d : Nat} (v : Value) (hd : Nat.blt d n = true) : Has n ((d, v) :: env) (a.put (some d) v) := by
  have hd : d < n := by simpa [Nat.blt_eq] using hd
  refine ⟨h.defers, by simp [Act.put, h.size], fun t u ht => ?_⟩
  simp only [lk_cons] at ht
  simp only [Act.put]
  split at ht
  · rename_i e; subst e; cases ht
    simp [h.size, hd]
  · rename_i e
    rw [Array.getElem?_setIfInBounds_ne (by omega)]
    exact h.get t u ht

theorem Has.sub {n : Nat} {env env' : Env} {a : Act} (h : Has n env a) (hs : ∀ t v, lk env' t = some v → lk env t = some v) : Has n env' a := ⟨h.defers, h.size, fun t v ht => h.get t v (hs t v ht)⟩

/-- A shorter list. -/
def Sub : Env → Env → Prop
  | [], _ => True
  | (k, v) :: r, env => lk env k = some v ∧ Sub r env
theorem Sub.spec : ∀ {env' env : Env}, Sub env' env → ∀ t v, lk env' t = some v → lk env t = some v
  | [], _, _, t, v, h => by simp [lk] at h
  | (k, u) :: r, env, hs, t, v, h => by
    rw [lk_cons] at h
    split at h
    · rename_i e; subst e; cases h; exact hs.1
    · exact hs.2.spec t v h

section rules
variable {P : Program} {n : Nat} {env : Env} {w : World} {Q : Exit → Act → World → Prop} {K : Act → World → Prop}

theorem keep (env' : Env) (hs : Sub env' env) (h : E n env' w K) : E n env w K := ⟨fun a ha => h.run a (ha.sub hs.spec)⟩

theorem seq {x y : Code} (h : E n env w (x.wp P (Exit.then (y.wp P Q) Q))) : E n env w ((Code.seq x y).wp P Q) := ⟨fun a ha => wp_seq (h.run a ha)⟩
theorem skip (h : E n env w (Q .normal)) : E n env w (Code.skip.wp P Q) := ⟨fun a ha => wp_skip (h.run a ha)⟩
theorem block {id : Nat} {c : Code} (h : E n env w (c.wp P (Exit.inBlock id Q))) : E n env w ((Code.block id c).wp P Q) := ⟨fun a ha => wp_block (h.run a ha)⟩
theorem exit {id : Nat} (h : E n env w (Q (.exit id))) : E n env w ((Code.exit id).wp P Q) := ⟨fun a ha => wp_exit (h.run a ha)⟩
theorem ret (h : E n env w (Q .ret)) : E n env w (Code.ret.wp P Q) := ⟨fun a ha => wp_ret (h.run a ha)⟩
theorem then_normal (h : E n env w K) : E n env w (Exit.then K Q .normal) := ⟨h.run⟩
theorem then_exit {id : Nat} (h : E n env w (Q (.exit id))) : E n env w (Exit.then K Q (.exit id)) := ⟨h.run⟩
theorem then_ret (h : E n env w (Q .ret)) : E n env w (Exit.then K Q .ret) := ⟨h.run⟩
theorem inBlock_normal {id : Nat} (h : E n env w (Q .normal)) : E n env w (Exit.inBlock id Q .normal) := ⟨h.run⟩
theorem inBlock_ret {id : Nat} (h : E n env w (Q .ret)) : E n env w (Exit.inBlock id Q .ret) := ⟨h.run⟩
theorem inBlock_exit {id : Nat} (h : E n env w (Q .normal)) : E n env w (Exit.inBlock id Q (.exit id)) := by
  constructor; intro a ha
  simp only [Exit.inBlock, if_true]; exact h.run a ha
theorem inBlock_other {id id' : Nat} (hne : Nat.beq id' id = false) (h : E n env w (Q (.exit id'))) : E n env w (Exit.inBlock id Q (.exit id')) := by
  constructor; intro a ha
  have hne : ¬ id' = id := fun e => by subst e; simp at hne
  simp only [Exit.inBlock, if_neg hne]; exact h.run a ha

theorem cond_true {c : Operand} {x y : Code} {v : Value} (hc : ev env c = some v) (hv : v = .bool true) (h : E n env w (x.wp P Q)) : E n env w ((Code.cond c x y).wp P Q) := ⟨fun a ha => wp_cond_true (ha.ev (hv ▸ hc)) (h.run a ha)⟩
theorem cond_false {c : Operand} {x y : Code} {v : Value} (hc : ev env c = some v) (hv : v = .bool false) (h : E n env w (y.wp P Q)) : E n env w ((Code.cond c x y).wp P Q) := ⟨fun a ha => wp_cond_false (ha.ev (hv ▸ hc)) (h.run a ha)⟩
/-- Both ways. -/
theorem cond {c : Operand} {x y : Code} {p : Prop} [Decidable p] (hc : ev env c = some (.bool (decide p))) (h1 : p → E n env w (x.wp P Q)) (h2 : ¬ p → E n env w (y.wp P Q)) :
    E n env w ((Code.cond c x y).wp P Q) := by
  constructor; intro a ha
  by_cases hp : p
  · exact wp_cond_true ((ha.ev hc).trans (by simp [hp])) ((h1 hp).run a ha)
  · exact wp_cond_false ((ha.ev hc).trans (by simp [hp])) ((h2 hp).run a ha)
theorem cond_bool {c : Operand} {x y : Code} {p : Bool} (hc : ev env c = some (.bool p)) (h1 : p = true → E n env w (x.wp P Q)) (h2 : p = false → E n env w (y.wp P Q)) :
    E n env w ((Code.cond c x y).wp P Q) := by
  constructor; intro a ha
  cases p with
  | true => exact wp_cond_true (ha.ev hc) ((h1 rfl).run a ha)
  | false => exact wp_cond_false (ha.ev hc) ((h2 rfl).run a ha)

/-- A loop: 'I s w' at its head, 'envOf s' the frame there. -/
theorem loop {σ : Type} (envOf : σ → Env) (I : σ → World → Prop) (μ : σ → Nat) {c : Code} (s0 : σ) (h0 : Sub (envOf s0) env) (hI : I s0 w)
    (round : ∀ s w, I s w → E n (envOf s) w (c.wp P (Exit.then (fun a' w' => ∃ s', Has n (envOf s') a' ∧ I s' w' ∧ μ s' < μ s) Q))) : E n env w ((Code.loop c).wp P Q) := by
  constructor; intro a ha
  refine wp_loop_ghost (fun m a w => ∃ s, μ s = m ∧ Has n (envOf s) a ∧ I s w) (μ s0) ⟨s0, rfl, ha.sub h0.spec, hI⟩ ?_
  rintro m a w ⟨s, rfl, hs, hIs⟩
  refine wp_mono ((round s w hIs).run a hs) ?_
  intro e a' w' hq
  cases e <;> first
    | (obtain ⟨s', h1, h2, h3⟩ := hq; exact ⟨_, h3, s', rfl, h1, h2⟩)
    | exact hq
/-- The end of a round. -/
theorem again {σ : Type} {envOf : σ → Env} {I : σ → World → Prop} {μ : σ → Nat} {m : Nat} (s' : σ) (h0 : Sub (envOf s') env) (hI : I s' w) (hμ : μ s' < m) :
    E n env w (fun a' w' => ∃ s', Has n (envOf s') a' ∧ I s' w' ∧ μ s' < m) := ⟨fun _ ha => ⟨s', ha.sub h0.spec, hI, hμ⟩⟩

/-- Where ways meet again: what holds there. -/
theorem cut {σ : Type} (envOf : σ → Env) (I : σ → World → Prop) {x : Code} (h1 : E n env w (x.wp P (Exit.then (fun a w => ∃ s, Has n (envOf s) a ∧ I s w) Q))) (h2 : ∀ s w, I s w → E n (envOf s) w K) : E n env w (x.wp P (Exit.then K Q)) := by
  constructor; intro a ha
  refine wp_mono (h1.run a ha) ?_
  intro e a' w' hq
  cases e <;> first
    | (obtain ⟨s, hs, hI⟩ := hq; exact (h2 s w' hI).run a' hs)
    | exact hq
theorem meet {σ : Type} {envOf : σ → Env} {I : σ → World → Prop} (s : σ) (h0 : Sub (envOf s) env) (hI : I s w) : E n env w (fun a w => ∃ s, Has n (envOf s) a ∧ I s w) := ⟨fun _ ha => ⟨s, ha.sub h0.spec, hI⟩⟩

/-- The k-th, by counting down. -/
def nth {α : Type} : List α → Nat → Option α
  | [], _ => none
  | a :: _, 0 => some a
  | _ :: l, k + 1 => nth l k
theorem nth_eq {α : Type} : ∀ (l : List α) (k : Nat), nth l k = l[k]?
  | [], k => by simp [nth]
  | a :: l, 0 => by simp [nth]
  | a :: l, k + 1 => by simp [nth, nth_eq l k]
theorem nth_array {α : Type} (a : Array α) (k : Nat) : nth a.toList k = a[k]? := by rw [nth_eq]; simp

/-- The slot that guards an operation. -/
def gslot (ops : Array Oper) (o : Oper) : Option Nat :=
  match o.guard with
  | some (j, _) => (nth ops.toList j).bind (·.dst)
  | none => none
/-- The operation is carried out; it is not. -/
def Wanted (n : Nat) (env : Env) (ops : Array Oper) (o : Oper) (b : Bool) : Prop := ∀ a, Has n env a → Region.wanted o (yielded ops a.tmps) = b
theorem plain {ops : Array Oper} {o : Oper} (hg : o.guard = none) : Wanted n env ops o true := fun a _ => by simp [Region.wanted, hg]
theorem guarded {ops : Array Oper} {o : Oper} {j d : Nat} {b : Bool} {v : Value} (hg : o.guard = some (j, b)) (hd : gslot ops o = some d) (hp : lk env d = some v) (hv : v = .bool b) : Wanted n env ops o true := fun a ha => by
  subst hv
  simp only [gslot, hg, nth_array] at hd
  simp [Region.wanted, hg, yielded, hd, ha.get d _ hp]
theorem barred_t {ops : Array Oper} {o : Oper} {j d : Nat} {v : Value} (hg : o.guard = some (j, true)) (hd : gslot ops o = some d) (hp : lk env d = some v) (hv : v = .bool false) : Wanted n env ops o false := fun a ha => by
  subst hv
  simp only [gslot, hg, nth_array] at hd
  simp [Region.wanted, hg, yielded, hd, ha.get d _ hp]
theorem barred_f {ops : Array Oper} {o : Oper} {j d : Nat} {v : Value} (hg : o.guard = some (j, false)) (hd : gslot ops o = some d) (hp : lk env d = some v) (hv : v = .bool true) : Wanted n env ops o false := fun a ha => by
  subst hv
  simp only [gslot, hg, nth_array] at hd
  simp [Region.wanted, hg, yielded, hd, ha.get d _ hp]
theorem barred_u {ops : Array Oper} {o : Oper} {j d : Nat} {b : Bool} {v : Value} (hg : o.guard = some (j, b)) (hd : gslot ops o = some d) (hp : lk env d = some v) (hv : v = undef) : Wanted n env ops o false := fun a ha => by
  subst hv
  simp only [gslot, hg, nth_array] at hd
  simp [Region.wanted, hg, yielded, hd, ha.get d _ hp, undef]

/-- One operation, by itself. -/
structure OW (P : Program) (n : Nat) (env : Env) (w : World) (o : Oper) (K : Act → World → Prop) (Q : Exit → Act → World → Prop) : Prop where
  run : ∀ a, Has n env a → o.wp P a w K Q

theorem region {id : Nat} {l : List Oper} (h : E n env w (wpList P l.toArray Q l)) : E n env w ((Code.region id l.toArray false).wp P Q) := ⟨fun a ha => wp_region_lit (h.run a ha)⟩
theorem nil {ops : Array Oper} (h : E n env w (Q .normal)) : E n env w (wpList P ops Q []) := ⟨h.run⟩
theorem opw {ops : Array Oper} {o : Oper} {rest : List Oper} (hw : Wanted n env ops o true) (h : OW P n env w o (wpList P ops Q rest) Q) : E n env w (wpList P ops Q (o :: rest)) := by
  constructor; intro a ha
  unfold wpList
  rw [if_pos (hw a ha)]
  exact .inl (h.run a ha)
theorem op {ops : Array Oper} {o : Oper} {rest : List Oper} (hg : o.guard = none) (h : OW P n env w o (wpList P ops Q rest) Q) : E n env w (wpList P ops Q (o :: rest)) := opw (plain hg) h
theorem unwanted {ops : Array Oper} {d : Nat} {p : Op} {ty : TypeId} {pos : String} {aft : Array Edge} {gd : Option (Nat × Bool)} {rest : List Oper} (hw : Wanted n env ops ⟨some d, p, ty, pos, aft, gd⟩ false) (hd : Nat.blt d n = true) (h : E n ((d, undef) :: env) w (wpList P ops Q rest)) :
    E n env w (wpList P ops Q (⟨some d, p, ty, pos, aft, gd⟩ :: rest)) := by
  constructor; intro a ha
  unfold wpList
  rw [if_neg (by rw [hw a ha]; simp)]
  exact h.run _ (ha.put (d := d) _ hd)
theorem unwanted_none {ops : Array Oper} {p : Op} {ty : TypeId} {pos : String} {aft : Array Edge} {gd : Option (Nat × Bool)} {rest : List Oper} (hw : Wanted n env ops ⟨none, p, ty, pos, aft, gd⟩ false) (h : E n env w (wpList P ops Q rest)) :
    E n env w (wpList P ops Q (⟨none, p, ty, pos, aft, gd⟩ :: rest)) := by
  constructor; intro a ha
  unfold wpList
  rw [if_neg (by rw [hw a ha]; simp)]
  exact h.run _ ha
theorem relit {d : Nat} {p : Prop} [Decidable p] (hp : lk env d = some (.bool (decide p))) {b : Bool} (hb : decide p = b) (h : E n ((d, .bool b) :: env) w K) : E n env w K := by
  constructor; intro a ha
  refine h.run a ⟨ha.defers, ha.size, fun t v ht => ?_⟩
  rw [lk_cons] at ht
  split at ht
  · rename_i e2; subst e2; cases ht; rw [← hb]; exact ha.get _ _ hp
  · exact ha.get t v ht
/-- A guard that is decided by what is known. -/
theorem guard_true {ops : Array Oper} {o : Oper} {rest : List Oper} {d : Nat} {v : Value} {p : Prop} [Decidable p] (_hd : gslot ops o = some d) (hp : lk env d = some v) (hv : v = .bool (decide p)) (h : p) (k : E n ((d, .bool true) :: env) w (wpList P ops Q (o :: rest))) : E n env w (wpList P ops Q (o :: rest)) :=
  relit (hv ▸ hp) (by simpa using h) k
theorem guard_false {ops : Array Oper} {o : Oper} {rest : List Oper} {d : Nat} {v : Value} {p : Prop} [Decidable p] (_hd : gslot ops o = some d) (hp : lk env d = some v) (hv : v = .bool (decide p)) (h : ¬ p) (k : E n ((d, .bool false) :: env) w (wpList P ops Q (o :: rest))) : E n env w (wpList P ops Q (o :: rest)) :=
  relit (hv ▸ hp) (by simpa using h) k
/-- A guard that is not: both ways. -/
theorem guard_split {ops : Array Oper} {o : Oper} {rest : List Oper} {d : Nat} {p : Prop} [Decidable p] (_hd : gslot ops o = some d) (hp : lk env d = some (.bool (decide p))) (h1 : p → E n ((d, .bool true) :: env) w (wpList P ops Q (o :: rest))) (h2 : ¬ p → E n ((d, .bool false) :: env) w (wpList P ops Q (o :: rest))) : E n env w (wpList P ops Q (o :: rest)) := by
  by_cases h : p
  · exact relit hp (by simpa using h) (h1 h)
  · exact relit hp (by simpa using h) (h2 h)
theorem guard_bool {ops : Array Oper} {o : Oper} {rest : List Oper} {d : Nat} {p : Bool} (_hd : gslot ops o = some d) (hp : lk env d = some (.bool p)) (h1 : p = true → E n ((d, .bool true) :: env) w (wpList P ops Q (o :: rest))) (h2 : p = false → E n ((d, .bool false) :: env) w (wpList P ops Q (o :: rest))) : E n env w (wpList P ops Q (o :: rest)) := by
  have hp' : lk env d = some (.bool (decide (p = true))) := by rw [hp]; cases p <;> rfl
  cases p
  · exact relit hp' rfl (h2 rfl)
  · exact relit hp' rfl (h1 rfl)

/-- In every world of 'S' the operation leaves 'v', and the world as it is. -/
def Soft (P : Program) (n : Nat) (env : Env) (S : World → Prop) (op : Op) (v : Value) : Prop :=
  ∀ a, Has n env a → ∀ o : Oper, o.op = op → ∀ w, S w → (execOp a.eval o).run P w = .ok (.value v) w
theorem soft {d : Nat} {p : Op} {ty : TypeId} {pos : String} {aft : Array Edge} {gd : Option (Nat × Bool)} {v : Value} (hs : Soft P n env (fun w' => w' = w) p v) (hd : Nat.blt d n = true) (h : E n ((d, v) :: env) w K) :
    OW P n env w ⟨some d, p, ty, pos, aft, gd⟩ K Q := by
  constructor; intro a ha
  show Oper.upon P _ a K Q ((execOp a.eval _).run P w)
  rw [hs a ha _ rfl w rfl]
  exact h.run _ (ha.put (d := d) v hd)

/-- Whichever operations leave a value and a world. -/
theorem eff {d : Nat} {p : Op} {ty : TypeId} {pos : String} {aft : Array Edge} {gd : Option (Nat × Bool)} {v : Value} {w' : World} (hs : ∀ a, Has n env a → (execOp a.eval ⟨some d, p, ty, pos, aft, gd⟩).run P w = .ok (.value v) w') (hd : Nat.blt d n = true) (h : E n ((d, v) :: env) w' K) :
    OW P n env w ⟨some d, p, ty, pos, aft, gd⟩ K Q := by
  constructor; intro a ha
  show Oper.upon P _ a K Q ((execOp a.eval _).run P w)
  rw [hs a ha]
  exact h.run _ (ha.put (d := d) v hd)
theorem effU {p : Op} {ty : TypeId} {pos : String} {aft : Array Edge} {gd : Option (Nat × Bool)} {w' : World} (hs : ∀ a, Has n env a → (execOp a.eval ⟨none, p, ty, pos, aft, gd⟩).run P w = .ok .skip w') (h : E n env w' K) : OW P n env w ⟨none, p, ty, pos, aft, gd⟩ K Q := by
  constructor; intro a ha
  show Oper.upon P _ a K Q ((execOp a.eval _).run P w)
  rw [hs a ha]
  exact h.run _ ha
end rules
end Go.RX
