import Derived.Test.YtomadjefdghliaaGreatU2
namespace Go.GX
open Go Go.RowKit Go.RR Go.RX
variable {d : Nat} {ty : TypeId} {pos : String} {aft : Array Edge} {gd : Option (Nat × Bool)}
structure Agree (F : Nat → Prop) (w w' : World) : Prop where
 size : w.heap.size ≤ w'.heap.size
 block : ∀ k, k < w.heap.size → F k → w'.heap[k]? = w.heap[k]?
theorem Agree.refl (F : Nat → Prop) (w : World) : Agree F w w := ⟨Nat.le_refl _, fun _ _ _ => rfl⟩
theorem Agree.trans {F : Nat → Prop} {w w' w2 : World} (h1 : Agree F w w') (h2 : Agree F w' w2) : Agree F w w2 :=
 ⟨Nat.le_trans h1.size h2.size, fun k hk hf => (h2.block k (Nat.lt_of_lt_of_le hk h1.size) hf).trans (h1.block k hk hf)⟩
theorem Agree.mono {F F' : Nat → Prop} {w w' : World} (h : Agree F w w') (hF : ∀ k, k < w.heap.size → F' k → F k) : Agree F' w w' := ⟨h.size, fun k hk hf => h.block k hk (hF k hk hf)⟩
theorem Agree.of_upd {F O : Nat → Prop} {w w' : World} (h : Upd O w w') (hF : ∀ k, k < w.heap.size → F k → ¬ O k) : Agree F w w' := ⟨h.size, fun k hk hf => h.block k hk (hF k hk hf)⟩
theorem cell_lt {w : World} {b o : Nat} {v : Value} (h : w.cell? ⟨b, o, none⟩ = some v) : b < w.heap.size := World.block_lt_of_cell? w ⟨b, o, none⟩ h
theorem Agree.cell {F : Nat → Prop} {w w' : World} {b o : Nat} {v : Value} (h : Agree F w w') (hF : F b) (hc : w.cell? ⟨b, o, none⟩ = some v) : w'.cell? ⟨b, o, none⟩ = some v := by
 rw [← hc]; exact World.cell?_of_block (a := ⟨b, o, none⟩) (h.block b (cell_lt hc) hF)
structure Pf where
 says : (Nat → Prop) → World → Prop
 move : ∀ {F F' : Nat → Prop} {w w' : World}, says F w → (∀ k, k < w.heap.size → F k → F' k) → Agree F w w' → says F' w'
structure Res where
 on : Nat → Prop
 says : (Nat → Prop) → World → Prop
 inn : ∀ {F : Nat → Prop} {w : World} {k : Nat}, says F w → on k → k < w.heap.size
 move : ∀ {F F' : Nat → Prop} {w w' : World}, says F w → (∀ k, k < w.heap.size → F k → F' k) → Agree F w w' → Agree on w w' → says F' w'
def AllP (F : Nat → Prop) (w : World) (l : List Pf) : Prop := ∀ p ∈ l, p.says F w
def AllR (F : Nat → Prop) (w : World) (l : List Res) : Prop := ∀ r ∈ l, r.says F w
def Apart (r s : Res) : Prop := ∀ k, r.on k → ¬ s.on k
theorem Apart.symm {r s : Res} (h : Apart r s) : Apart s r := fun k h1 h2 => h k h2 h1
def feet (l : List Res) (k : Nat) : Prop := ∃ r ∈ l, r.on k
theorem feet_nil {k : Nat} : ¬ feet [] k := by rintro ⟨s, hs, _⟩; simp at hs
structure Base where
 w : World
 O : Nat → Prop
 F : Nat → Prop
structure St (b : Base) (F : Nat → Prop) (ps : List Pf) (hp : List Res) (w : World) : Prop where
 upd : Upd b.O b.w w
 lt : ∀ k, F k → k < w.heap.size
 old : ∀ k, F k → k < b.w.heap.size → b.F k ∨ b.O k
 fs : AllP F w ps
 rs : AllR F w hp
 apF : ∀ r ∈ hp, ∀ k, r.on k → ¬ F k
 apart : hp.Pairwise Apart
 on : ∀ r ∈ hp, ∀ k, r.on k → k < b.w.heap.size → b.O k
def Ok (b : Base) (ps : List Pf) (hp : List Res) (w : World) : Prop := ∃ F, St b F ps hp w
theorem St.perm {b : Base} {F : Nat → Prop} {ps : List Pf} {hp hp' : List Res} {w : World} (h : St b F ps hp w) (hl : hp.Perm hp') : St b F ps hp' w :=
 ⟨h.upd, h.lt, h.old, h.fs, fun r hr => h.rs r (hl.mem_iff.2 hr), fun r hr => h.apF r (hl.mem_iff.2 hr), (hl.pairwise_iff (fun h => h.symm)).1 h.apart, fun r hr => h.on r (hl.mem_iff.2 hr)⟩
theorem St.less {b : Base} {F : Nat → Prop} {ps ps' : List Pf} {hp hp' : List Res} {w : World} (h : St b F ps hp w) (h1 : ∀ p ∈ ps', p ∈ ps) (h2 : hp'.Sublist hp) : St b F ps' hp' w :=
 ⟨h.upd, h.lt, h.old, fun p hp => h.fs p (h1 p hp), fun r hr => h.rs r (h2.subset hr), fun r hr => h.apF r (h2.subset hr), h.apart.sublist h2, fun r hr => h.on r (h2.subset hr)⟩
theorem St.drew {b : Base} {F : Nat → Prop} {ps : List Pf} {hp : List Res} {w : World} (h : St b F ps hp w) : St b F ps hp w.drew := by
 have a : ∀ F', Agree F' w w.drew := fun F' => ⟨Nat.le_refl _, fun _ _ _ => rfl⟩
 exact ⟨h.upd.drew, h.lt, h.old, fun p hp => p.move (h.fs p hp) (fun _ _ h => h) (a _), fun r hr => r.move (h.rs r hr) (fun _ _ h => h) (a _) (a _), h.apF, h.apart, h.on⟩
theorem St.act {b : Base} {F : Nat → Prop} {ps ps2 : List Pf} {hp1 hp2 rest : List Res} {w w' : World} (h : St b F ps (hp1 ++ rest) w) (h2 : Ok ⟨w, feet hp1, F⟩ ps2 hp2 w') :
  ∃ F', (∀ k, F k → F' k) ∧ Agree F w w' ∧ Agree (feet rest) w w' ∧ St b F' (ps2 ++ ps) (hp2 ++ rest) w' := by
 obtain ⟨F2, s⟩ := h2
 have hd : ∀ k, k < w.heap.size → F k → ¬ feet hp1 k := fun k _ hf ⟨r, hr, hk⟩ => h.apF r (by simp [hr]) k hk hf
 have hr : ∀ r ∈ rest, ∀ k, r.on k → ¬ feet hp1 k := fun r hr k hk ⟨r1, hr1, hk1⟩ => (List.pairwise_append.1 h.apart).2.2 r1 hr1 r hr k hk1 hk
 have aF : Agree F w w' := Agree.of_upd s.upd hd
 have aR : Agree (feet rest) w w' := Agree.of_upd s.upd (fun k _ ⟨r, hr', hk⟩ => hr r hr' k hk)
 have sz := s.upd.size
 have e2 : ∀ k, F2 k → k < w.heap.size → F k ∨ feet hp1 k := s.old
 have rl : ∀ r ∈ rest, ∀ k, r.on k → k < w.heap.size := fun r hr k hk => r.inn (h.rs r (by simp [hr])) hk
 have rF2 : ∀ r ∈ rest, ∀ k, r.on k → ¬ F2 k := fun r hr' k hk hf => by
  rcases e2 k hf (rl r hr' k hk) with h3 | h3
  ·exact h.apF r (by simp [hr']) k hk h3
  ·exact hr r hr' k hk h3
 have nF : ∀ r ∈ hp2, ∀ k, r.on k → ¬ F k := fun r hr' k hk hf => hd k (h.lt k hf) hf (s.on r hr' k hk (h.lt k hf))
 refine ⟨fun k => F k ∨ F2 k, fun k hk => .inl hk, aF, aR, ?_, ?_, ?_, ?_, ?_, ?_, ?_, ?_⟩
 ·refine h.upd.trans s.upd (fun _ _ h => h) (fun k hk ⟨r, hr', hk'⟩ => h.on r (by simp [hr']) k hk' hk)
 ·rintro k (hk | hk)
  ·exact Nat.lt_of_lt_of_le (h.lt k hk) sz
  ·exact s.lt k hk
 ·rintro k (hk | hk) hlt
  ·exact h.old k hk hlt
  ·rcases e2 k hk (Nat.lt_of_lt_of_le hlt h.upd.size) with h3 | ⟨r, hr', h3⟩
   ·exact h.old k h3 hlt
   ·exact .inr (h.on r (by simp [hr']) k h3 hlt)
 ·intro p hp
  rw [List.mem_append] at hp
  rcases hp with hp | hp
  ·exact p.move (s.fs p hp) (fun _ _ h => .inr h) (Agree.refl _ _)
  ·exact p.move (h.fs p hp) (fun _ _ h => .inl h) aF
 ·intro r hr'
  rw [List.mem_append] at hr'
  rcases hr' with hr' | hr'
  ·exact r.move (s.rs r hr') (fun _ _ h => .inr h) (Agree.refl _ _) (Agree.refl _ _)
  ·exact r.move (h.rs r (by simp [hr'])) (fun _ _ h => .inl h) aF (aR.mono fun k _ hk => ⟨r, hr', hk⟩)
 ·intro r hr' k hk
  rw [List.mem_append] at hr'
  rcases hr' with hr' | hr'
  ·rintro (h3 | h3)
   ·exact nF r hr' k hk h3
   ·exact s.apF r hr' k hk h3
  ·rintro (h3 | h3)
   ·exact h.apF r (by simp [hr']) k hk h3
   ·exact rF2 r hr' k hk h3
 ·rw [List.pairwise_append]
  refine ⟨s.apart, (List.pairwise_append.1 h.apart).2.1, fun r1 h1 r2 h2 k hk1 hk2 => ?_⟩
  exact hr r2 h2 k hk2 (s.on r1 h1 k hk1 (rl r2 h2 k hk2))
 ·intro r hr' k hk hlt
  rw [List.mem_append] at hr'
  rcases hr' with hr' | hr'
  ·obtain ⟨r1, hr1, h4⟩ := s.on r hr' k hk (Nat.lt_of_lt_of_le hlt h.upd.size)
   exact h.on r1 (by simp [hr1]) k h4 hlt
  ·exact h.on r (by simp [hr']) k hk hlt
structure G (n : Nat) (env : Env) (b : Base) (ps : List Pf) (hp : List Res) (K : Act → World → Prop) : Prop where
 run : ∀ w, Ok b ps hp w → E n env w K
structure GO (P : Program) (n : Nat) (env : Env) (b : Base) (ps : List Pf) (hp : List Res) (o : Oper) (K : Act → World → Prop) (Q : Exit → Act → World → Prop) : Prop where
 run : ∀ w, Ok b ps hp w → OW P n env w o K Q
section rules
variable {P : Program} {n : Nat} {env : Env} {b : Base} {ps : List Pf} {hp : List Res} {Q : Exit → Act → World → Prop} {K : Act → World → Prop}
theorem less (env' : Env) (ps' : List Pf) (hp' : List Res) (h0 : RX.Sub env' env) (h1 : ∀ p ∈ ps', p ∈ ps) (h2 : hp'.Sublist hp) (h : G n env' b ps' hp' K) : G n env b ps hp K :=
 ⟨fun w ⟨F, s⟩ => RX.keep env' h0 (h.run w ⟨F, s.less h1 h2⟩)⟩
theorem keep (env' : Env) (h0 : RX.Sub env' env) (h : G n env' b ps hp K) : G n env b ps hp K := ⟨fun w s => RX.keep env' h0 (h.run w s)⟩
theorem perm {hp' : List Res} (hl : hp.Perm hp') (h : G n env b ps hp' K) : G n env b ps hp K := ⟨fun w ⟨F, s⟩ => h.run w ⟨F, s.perm hl⟩⟩
theorem seq {x y : Code} (h : G n env b ps hp (x.wp P (Exit.then (y.wp P Q) Q))) : G n env b ps hp ((Code.seq x y).wp P Q) := ⟨fun w s => RX.seq (h.run w s)⟩
theorem skip (h : G n env b ps hp (Q .normal)) : G n env b ps hp (Code.skip.wp P Q) := ⟨fun w s => RX.skip (h.run w s)⟩
theorem block {id : Nat} {c : Code} (h : G n env b ps hp (c.wp P (Exit.inBlock id Q))) : G n env b ps hp ((Code.block id c).wp P Q) := ⟨fun w s => RX.block (h.run w s)⟩
theorem exit {id : Nat} (h : G n env b ps hp (Q (.exit id))) : G n env b ps hp ((Code.exit id).wp P Q) := ⟨fun w s => RX.exit (h.run w s)⟩
theorem ret (h : G n env b ps hp (Q .ret)) : G n env b ps hp (Code.ret.wp P Q) := ⟨fun w s => RX.ret (h.run w s)⟩
theorem then_normal (h : G n env b ps hp K) : G n env b ps hp (Exit.then K Q .normal) := ⟨fun w s => RX.then_normal (h.run w s)⟩
theorem then_exit {id : Nat} (h : G n env b ps hp (Q (.exit id))) : G n env b ps hp (Exit.then K Q (.exit id)) := ⟨fun w s => RX.then_exit (h.run w s)⟩
theorem then_ret (h : G n env b ps hp (Q .ret)) : G n env b ps hp (Exit.then K Q .ret) := ⟨fun w s => RX.then_ret (h.run w s)⟩
theorem inBlock_normal {id : Nat} (h : G n env b ps hp (Q .normal)) : G n env b ps hp (Exit.inBlock id Q .normal) := ⟨fun w s => RX.inBlock_normal (h.run w s)⟩
theorem inBlock_ret {id : Nat} (h : G n env b ps hp (Q .ret)) : G n env b ps hp (Exit.inBlock id Q .ret) := ⟨fun w s => RX.inBlock_ret (h.run w s)⟩
theorem inBlock_exit {id : Nat} (h : G n env b ps hp (Q .normal)) : G n env b ps hp (Exit.inBlock id Q (.exit id)) := ⟨fun w s => RX.inBlock_exit (h.run w s)⟩
theorem ibo {id id' : Nat} (h : G n env b ps hp (Q (.exit id'))) (hne : Nat.beq id' id = false := by exact rfl) : G n env b ps hp (Exit.inBlock id Q (.exit id')) := ⟨fun w s => RX.inBlock_other hne (h.run w s)⟩
theorem ct {c : Operand} {x y : Code} {v : Value} (h : G n env b ps hp (x.wp P Q)) (hc : ev env c = some v := by exact rfl) (hv : v = .bool true := by with_reducible rfl) : G n env b ps hp ((Code.cond c x y).wp P Q) := ⟨fun w s => RX.cond_true hc hv (h.run w s)⟩
theorem cf {c : Operand} {x y : Code} {v : Value} (h : G n env b ps hp (y.wp P Q)) (hc : ev env c = some v := by exact rfl) (hv : v = .bool false := by with_reducible rfl) : G n env b ps hp ((Code.cond c x y).wp P Q) := ⟨fun w s => RX.cond_false hc hv (h.run w s)⟩
theorem cdt {c : Operand} {x y : Code} {v : Value} {p : Prop} [Decidable p] (h : G n env b ps hp (x.wp P Q)) (hc : ev env c = some v := by exact rfl) (hv : v = .bool (decide p) := by with_reducible rfl) (hp' : p := by first | omega | (with_reducible assumption)) : G n env b ps hp ((Code.cond c x y).wp P Q) :=
 ⟨fun w s => RX.cond_true hc (hv.trans (by simp [hp'])) (h.run w s)⟩
theorem cdf {c : Operand} {x y : Code} {v : Value} {p : Prop} [Decidable p] (h : G n env b ps hp (y.wp P Q)) (hc : ev env c = some v := by exact rfl) (hv : v = .bool (decide p) := by with_reducible rfl) (hp' : ¬ p := by first | omega | (with_reducible assumption)) : G n env b ps hp ((Code.cond c x y).wp P Q) :=
 ⟨fun w s => RX.cond_false hc (hv.trans (by simp [hp'])) (h.run w s)⟩
theorem cs {c : Operand} {x y : Code} {v : Value} {p : Prop} [Decidable p] (h1 : p → G n env b ps hp (x.wp P Q)) (h2 : ¬ p → G n env b ps hp (y.wp P Q)) (hc : ev env c = some v := by exact rfl) (hv : v = .bool (decide p) := by with_reducible rfl) : G n env b ps hp ((Code.cond c x y).wp P Q) :=
 ⟨fun w s => RX.cond (hv ▸ hc) (fun h => (h1 h).run w s) (fun h => (h2 h).run w s)⟩
theorem csb {c : Operand} {x y : Code} {p : Bool} (h1 : p = true → G n env b ps hp (x.wp P Q)) (h2 : p = false → G n env b ps hp (y.wp P Q)) (hc : ev env c = some (.bool p) := by exact rfl) : G n env b ps hp ((Code.cond c x y).wp P Q) :=
 ⟨fun w s => RX.cond_bool hc (fun h => (h1 h).run w s) (fun h => (h2 h).run w s)⟩
theorem cbt {c : Operand} {x y : Code} {p : Bool} (h : G n env b ps hp (x.wp P Q)) (hc : ev env c = some (.bool p) := by exact rfl) (hp' : p = true := by with_reducible assumption) : G n env b ps hp ((Code.cond c x y).wp P Q) := ⟨fun w s => RX.cond_true hc (by rw [hp']) (h.run w s)⟩
theorem cbf {c : Operand} {x y : Code} {p : Bool} (h : G n env b ps hp (y.wp P Q)) (hc : ev env c = some (.bool p) := by exact rfl) (hp' : p = false := by with_reducible assumption) : G n env b ps hp ((Code.cond c x y).wp P Q) := ⟨fun w s => RX.cond_false hc (by rw [hp']) (h.run w s)⟩
theorem region {id : Nat} {l : List Oper} (h : G n env b ps hp (wpList P l.toArray Q l)) : G n env b ps hp ((Code.region id l.toArray false).wp P Q) := ⟨fun w s => RX.region (h.run w s)⟩
theorem nil {ops : Array Oper} (h : G n env b ps hp (Q .normal)) : G n env b ps hp (wpList P ops Q []) := ⟨fun w s => RX.nil (h.run w s)⟩
theorem o {ops : Array Oper} {o : Oper} {rest : List Oper} (h : GO P n env b ps hp o (wpList P ops Q rest) Q) (hw : Wanted n env ops o true := by first | exact Go.RX.plain rfl | exact Go.RX.guarded rfl rfl rfl (by with_reducible rfl)) : G n env b ps hp (wpList P ops Q (o :: rest)) := ⟨fun w s => RX.opw hw (h.run w s)⟩
theorem un {ops : Array Oper} {d : Nat} {p : Op} {rest : List Oper} (h : G n ((d, undef) :: env) b ps hp (wpList P ops Q rest))
  (hw : Wanted n env ops ⟨some d, p, ty, pos, aft, gd⟩ false := by first | exact Go.RX.barred_t rfl rfl rfl (by with_reducible rfl) | exact Go.RX.barred_f rfl rfl rfl (by with_reducible rfl) | exact Go.RX.barred_u rfl rfl rfl (by with_reducible rfl)) (hd : Nat.blt d n = true := by exact rfl) : G n env b ps hp (wpList P ops Q (⟨some d, p, ty, pos, aft, gd⟩ :: rest)) := ⟨fun w s => RX.unwanted hw hd (h.run w s)⟩
theorem un0 {ops : Array Oper} {p : Op} {rest : List Oper} (h : G n env b ps hp (wpList P ops Q rest))
  (hw : Wanted n env ops ⟨none, p, ty, pos, aft, gd⟩ false := by first | exact Go.RX.barred_t rfl rfl rfl (by with_reducible rfl) | exact Go.RX.barred_f rfl rfl rfl (by with_reducible rfl) | exact Go.RX.barred_u rfl rfl rfl (by with_reducible rfl)) : G n env b ps hp (wpList P ops Q (⟨none, p, ty, pos, aft, gd⟩ :: rest)) := ⟨fun w s => RX.unwanted_none hw (h.run w s)⟩
theorem gt {ops : Array Oper} {o : Oper} {rest : List Oper} {d : Nat} {v : Value} {p : Prop} [Decidable p] (k : G n ((d, .bool true) :: env) b ps hp (wpList P ops Q (o :: rest))) (hd : gslot ops o = some d := by exact rfl) (hp' : lk env d = some v := by exact rfl) (hv : v = .bool (decide p) := by with_reducible rfl)
  (h : p := by first | omega | (with_reducible assumption)) : G n env b ps hp (wpList P ops Q (o :: rest)) := ⟨fun w s => RX.guard_true hd hp' hv h (k.run w s)⟩
theorem gf {ops : Array Oper} {o : Oper} {rest : List Oper} {d : Nat} {v : Value} {p : Prop} [Decidable p] (k : G n ((d, .bool false) :: env) b ps hp (wpList P ops Q (o :: rest))) (hd : gslot ops o = some d := by exact rfl) (hp' : lk env d = some v := by exact rfl) (hv : v = .bool (decide p) := by with_reducible rfl)
  (h : ¬ p := by first | omega | (with_reducible assumption)) : G n env b ps hp (wpList P ops Q (o :: rest)) := ⟨fun w s => RX.guard_false hd hp' hv h (k.run w s)⟩
theorem gs {ops : Array Oper} {o : Oper} {rest : List Oper} {d : Nat} {v : Value} {p : Prop} [Decidable p] (h1 : p → G n ((d, .bool true) :: env) b ps hp (wpList P ops Q (o :: rest))) (h2 : ¬ p → G n ((d, .bool false) :: env) b ps hp (wpList P ops Q (o :: rest)))
  (hd : gslot ops o = some d := by exact rfl) (hp' : lk env d = some v := by exact rfl) (hv : v = .bool (decide p) := by with_reducible rfl) : G n env b ps hp (wpList P ops Q (o :: rest)) := ⟨fun w s => RX.guard_split hd (hv ▸ hp') (fun h => (h1 h).run w s) (fun h => (h2 h).run w s)⟩
theorem gsb {ops : Array Oper} {o : Oper} {rest : List Oper} {d : Nat} {p : Bool} (h1 : p = true → G n ((d, .bool true) :: env) b ps hp (wpList P ops Q (o :: rest))) (h2 : p = false → G n ((d, .bool false) :: env) b ps hp (wpList P ops Q (o :: rest)))
  (hd : gslot ops o = some d := by exact rfl) (hp' : lk env d = some (.bool p) := by exact rfl) : G n env b ps hp (wpList P ops Q (o :: rest)) := ⟨fun w s => RX.guard_bool hd hp' (fun h => (h1 h).run w s) (fun h => (h2 h).run w s)⟩
theorem gbt {ops : Array Oper} {o : Oper} {rest : List Oper} {d : Nat} {p : Bool} (k : G n ((d, .bool true) :: env) b ps hp (wpList P ops Q (o :: rest))) (hd : gslot ops o = some d := by exact rfl) (hp' : lk env d = some (.bool p) := by exact rfl) (h : p = true := by with_reducible assumption) : G n env b ps hp (wpList P ops Q (o :: rest)) :=
 ⟨fun w s => RX.guard_bool hd hp' (fun _ => k.run w s) (fun h' => absurd (h.symm.trans h') (by simp))⟩
theorem gbf {ops : Array Oper} {o : Oper} {rest : List Oper} {d : Nat} {p : Bool} (k : G n ((d, .bool false) :: env) b ps hp (wpList P ops Q (o :: rest))) (hd : gslot ops o = some d := by exact rfl) (hp' : lk env d = some (.bool p) := by exact rfl) (h : p = false := by with_reducible assumption) : G n env b ps hp (wpList P ops Q (o :: rest)) :=
 ⟨fun w s => RX.guard_bool hd hp' (fun h' => absurd (h.symm.trans h') (by simp)) (fun _ => k.run w s)⟩
def Rd (P : Program) (n : Nat) (env : Env) (ps : List Pf) (hp : List Res) (op : Op) {ι : Type} (val : ι → Value) (pf : ι → List Pf) : Prop :=
 ∀ (F : Nat → Prop) (w : World), AllP F w ps → AllR F w hp → ∃ i, AllP F w (pf i) ∧ Soft P n env (fun w' => Agree (fun k => F k ∨ feet hp k) w w') op (val i)
theorem rd {d : Nat} {p : Op} {ι : Type} {val : ι → Value} {pf : ι → List Pf} (hr : Rd P n env ps hp p val pf) (hd : Nat.blt d n = true) (h : ∀ i, G n ((d, val i) :: env) b (pf i ++ ps) hp K) :
  GO P n env b ps hp ⟨some d, p, ty, pos, aft, gd⟩ K Q := by
 constructor
 rintro w ⟨F, s⟩
 obtain ⟨i, h1, h2⟩ := hr F w s.fs s.rs
 refine RX.soft (v := val i) (fun a ha o ho w' hw => h2 a ha o ho w' (by subst hw; exact Agree.refl _ _)) hd ((h i).run w ⟨F, s.upd, s.lt, s.old, ?_, s.rs, s.apF, s.apart, s.on⟩)
 intro q hq
 rw [List.mem_append] at hq
 exact hq.elim (h1 q) (s.fs q)
theorem rd1 {d : Nat} {p : Op} {v : Value} (hr : Soft P n env (fun _ => True) p v) (hd : Nat.blt d n = true) (h : G n ((d, v) :: env) b ps hp K) : GO P n env b ps hp ⟨some d, p, ty, pos, aft, gd⟩ K Q :=
 ⟨fun w s => RX.soft (fun a ha o ho w' _ => hr a ha o ho w' trivial) hd (h.run w s)⟩
def Acts (P : Program) (n : Nat) (env : Env) (ps : List Pf) (hp1 : List Res) (o : Oper) {ι : Type} (val : ι → Value) (pf : ι → List Pf) (hr : ι → List Res) : Prop :=
 ∀ (F : Nat → Prop) (w : World) (K : Act → World → Prop) (Q : Exit → Act → World → Prop) (b : Base), St b F ps hp1 w → (∀ i w', Ok ⟨w, feet hp1, F⟩ (pf i) (hr i) w' → E n (match o.dst with | some d => (d, val i) :: env | none => env) w' K) → OW P n env w o K Q
theorem act {o : Oper} {ι : Type} {val : ι → Value} {pf : ι → List Pf} {hr : ι → List Res} {hp1 rest : List Res} (ha : Acts P n env ps hp1 o val pf hr) (hl : hp.Perm (hp1 ++ rest))
  (h : ∀ i, G n (match o.dst with | some d => (d, val i) :: env | none => env) b (pf i ++ ps) (hr i ++ rest) K) : GO P n env b ps hp o K Q := by
 constructor
 rintro w ⟨F, s⟩
 have s := s.perm hl
 refine ha F w K Q b (s.less (fun _ h => h) (List.sublist_append_left _ _)) (fun i w' h' => ?_)
 obtain ⟨F', _, _, _, s'⟩ := s.act h'
 exact (h i).run w' ⟨F', s'⟩
structure Does (P : Program) (f : FuncId) (args : List Value) (ps : List Pf) (hp : List Res) {σ : Type} (val : σ → Value) (ps' : σ → List Pf) (hp' : σ → List Res) : Prop where
 run : ∀ w F b, St b F ps hp w → Calls P f args.toArray w fun e w' => ∃ s, e = .returned (val s) ∧ Ok ⟨w, feet hp, F⟩ (ps' s) (hp' s) w'
def Post (P : Program) (fn : Func) (b : Base) {σ : Type} (val : σ → Value) (ps' : σ → List Pf) (hp' : σ → List Res) : Exit → Act → World → Prop := bodyPost P fn fun e w' => ∃ s, e = .returned (val s) ∧ Ok b (ps' s) (hp' s) w'
theorem call {d : Nat} {f : FuncId} {xs : List Operand} {ts : Array TypeId} {vs : List Value} [hf : UFunc P f] {ps1 : List Pf} {hp1 rest : List Res} {σ : Type} {val : σ → Value} {ps' : σ → List Pf} {hp' : σ → List Res}
  (hc : Does P f vs ps1 hp1 val ps' hp') (hxs : evs env xs = some vs) (hps : ∀ p ∈ ps1, p ∈ ps) (hl : hp.Perm (hp1 ++ rest)) (hd : Nat.blt d n = true) (h : ∀ s, G n ((d, val s) :: env) b (ps' s ++ ps) (hp' s ++ rest) K) :
  GO P n env b ps hp ⟨some d, .call { callee := .value (.func f), args := xs.toArray, argTypes := ts }, ty, pos, aft, gd⟩ K Q := by
 constructor
 rintro w ⟨F, s⟩
 have s := s.perm hl
 refine RX.call hxs (hc.run w F b (s.less hps (List.sublist_append_left _ _))) hd ?_
 rintro e w' ⟨i, rfl, h'⟩
 obtain ⟨F', _, _, _, s'⟩ := s.act h'
 exact ⟨_, rfl, (h i).run w' ⟨F', s'⟩⟩
theorem enter {f : FuncId} {fn : Func} {c : Code} {args : List Value} {ps0 : List Pf} {hp0 : List Res} {σ : Type} {val : σ → Value} {ps' : σ → List Pf} {hp' : σ → List Res} (hf : P.funcs[f]? = some fn) (hb : fn.body = some c) (hn : fn.ntmps = n) (ha : Nat.ble args.length n = true)
  (h : ∀ b, G n (mkEnv 0 args) b ps0 hp0 (c.wp P (Post P fn b val ps' hp'))) : Does P f args ps0 hp0 val ps' hp' := by
 constructor
 intro w F b s
 refine RX.enter hf hb hn ha ((h ⟨w, feet hp0, F⟩).run w ⟨F, Upd.refl _ _, s.lt, fun k hk _ => .inl hk, s.fs, s.rs, s.apF, s.apart, fun r hr k hk _ => ⟨r, hr, hk⟩⟩)
end rules
end Go.GX
