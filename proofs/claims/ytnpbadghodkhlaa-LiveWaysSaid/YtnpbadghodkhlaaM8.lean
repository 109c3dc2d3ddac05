import Derived.Test.YtnpbadghodkhlaaM7
/- Calls of values that are functions. No program in sight. -/
namespace Go.GX
open Go Go.RowKit Go.RR Go.RX
theorem get_lt {α : Type} {xs : List α} {i : Nat} (h : i < xs.length) : ∃ x, xs[i]? = some x := ⟨xs[i], List.getElem?_eq_getElem h⟩
section
variable {P : Program} {n : Nat} {env : Env} {b : Base} {ps : List Pf} {hp : List Res} {Q : Exit → Act → World → Prop} {K : Act → World → Prop}
section shapes
theorem s_list {ops : Array Oper} {l : List Oper} (h_ : G n env b ps hp (wpList P ops Q l)) : G n env b ps hp (wpList P ops Q l) := h_
theorem s_cond {c : Operand} {x y : Code} (h_ : G n env b ps hp ((Code.cond c x y).wp P Q)) : G n env b ps hp ((Code.cond c x y).wp P Q) := h_
theorem s_take {ops : Array Oper} {S : World → Prop} {hold : Nat → Bool} {i : Nat} {r : List (Nat × Bool)} (h_ : G n env b ps hp (wpPlan P ops Q S hold ((i, true) :: r))) : G n env b ps hp (wpPlan P ops Q S hold ((i, true) :: r)) := h_
theorem s_go {ops : Array Oper} {S : World → Prop} {hold : Nat → Bool} {i : Nat} {r : List (Nat × Bool)} (h_ : G n env b ps hp (wpPlan P ops Q S hold ((i, false) :: r))) : G n env b ps hp (wpPlan P ops Q S hold ((i, false) :: r)) := h_
theorem s_went {S : World → Prop} {hold : Nat → Bool} {i : Nat} (h_ : G n env b ps hp (Went S hold i K)) : G n env b ps hp (Went S hold i K) := h_
end shapes
/-- What comes behind is put out of sight, and is brought back when it is reached. -/
theorem seqK {x y : Code} (h : ∀ K0 : Act → World → Prop, K0 = y.wp P Q → G n env b ps hp (x.wp P (Exit.then K0 Q))) : G n env b ps hp ((Code.seq x y).wp P Q) := GX.seq (h _ rfl)
theorem reveal {K K' : Act → World → Prop} (h : G n env b ps hp K') (hk : K = K') : G n env b ps hp K := by rw [hk]; exact h
/-- How long a list is that is written out. -/
class IsLen {α : Type} (m : Nat) (xs : List α) : Prop where
  eq : m = xs.length
instance {α : Type} : IsLen 0 ([] : List α) := ⟨rfl⟩
instance {α : Type} (m : Nat) (x : α) (xs : List α) [h : IsLen m xs] : IsLen (m + 1) (x :: xs) := ⟨by rw [List.length_cons, h.eq]⟩
instance (priority := 500) {ps : List Pf} {α : Type} (ao : Option Addr) (cap m : Nat) (e : Ty α) (xs : List α) [FSl ao ps e cap xs] [h : IsLen m xs] : Rds ps (.slice ao m cap) (Ty.slice e) xs := ⟨.slice h.eq⟩
/-- A call of a function value, by the contract of the function behind it. -/
theorem callv {w : World} {d : Nat} {f : FuncId} {x : Operand} {xs : List Operand} {ts : Array TypeId} {ty : TypeId} {pos : String} {aft : Array Edge} {gd : Option (Nat × Bool)} {vs fs cs : List Value} {R : Ending → World → Prop} [hf : UFunc P f]
    (hx : ev env x = some (.func (.func f) fs.toArray cs.toArray)) (hxs : evs env xs = some vs) (hc : Calls P f (fs ++ (vs ++ cs)).toArray w R) (hd : Nat.blt d n = true) (h : ∀ e w', R e w' → ∃ v, e = .returned v ∧ E n ((d, v) :: env) w' K) :
    OW P n env w ⟨some d, .call { callee := .value x, args := xs.toArray, argTypes := ts }, ty, pos, aft, gd⟩ K Q := by
  constructor; intro a ha
  show Oper.upon P _ a K Q ((execOp a.eval _).run P w)
  have hr : (execOp a.eval ⟨some d, .call { callee := .value x, args := xs.toArray, argTypes := ts }, ty, pos, aft, gd⟩).run P w = .ok (.enter f (fs ++ (vs ++ cs)).toArray) w := by
    have he : (xs.toArray.map a.eval) = vs.toArray := by simp [ha.evs hxs]
    simp only [execOp, resolve, ha.ev hx, he]
    simp [Deferred.ofValue, invoke, hf.c]
  rw [hr]
  refine Calls.mono hc fun e w' hR => ?_
  obtain ⟨v, rfl, hk⟩ := h e w' hR
  exact hk.run _ (ha.put (d := d) v hd)
theorem callvG {d : Nat} {f : FuncId} {x : Operand} {xs : List Operand} {ts : Array TypeId} {ty : TypeId} {pos : String} {aft : Array Edge} {gd : Option (Nat × Bool)} {vs fs cs : List Value} [hf : UFunc P f] {ps1 : List Pf} {hp1 rest : List Res} {σ : Type} {val : σ → Value} {ps' : σ → List Pf} {hp' : σ → List Res}
    (hc : Does P f (fs ++ (vs ++ cs)) ps1 hp1 val ps' hp') (hx : ev env x = some (.func (.func f) fs.toArray cs.toArray)) (hxs : evs env xs = some vs) (hps : ∀ p ∈ ps1, p ∈ ps) (hl : hp.Perm (hp1 ++ rest)) (hd : Nat.blt d n = true) (h : ∀ s, G n ((d, val s) :: env) b (ps' s ++ ps) (hp' s ++ rest) K) :
    GO P n env b ps hp ⟨some d, .call { callee := .value x, args := xs.toArray, argTypes := ts }, ty, pos, aft, gd⟩ K Q := by
  constructor
  rintro w ⟨F, s⟩
  have s := s.perm hl
  refine callv hx hxs (hc.run w F b (s.less hps (List.sublist_append_left _ _))) hd ?_
  rintro e w' ⟨i, rfl, h'⟩
  obtain ⟨F', _, _, _, s'⟩ := s.act h'
  exact ⟨_, rfl, (h i).run w' ⟨F', s'⟩⟩
theorem clv {d : Nat} {f : FuncId} {x : Operand} {xs : List Operand} {ts : Array TypeId} {ty : TypeId} {pos : String} {aft : Array Edge} {gd : Option (Nat × Bool)} {vs fs cs : List Value} [hf : UFunc P f] {ps1 : List Pf} {hp1 rest : List Res} {σ : Type} {val : σ → Value} {ps' : σ → List Pf} {hp' : σ → List Res}
    {pz : σ → List Pf} {hz : σ → List Res} (hc : Does P f (fs ++ (vs ++ cs)) ps1 hp1 val ps' hp') (h : ∀ s, G n ((d, val s) :: env) b (pz s) (hz s) K)
    (hx : ev env x = some (.func (.func f) fs.toArray cs.toArray) := by exact rfl) (hxs : evs env xs = some vs := by exact rfl)
    (hps : AllIn ps1 ps := by first | ((repeat (first | apply Go.GX.AllIn.nil | apply Go.GX.AllIn.cons | (with_reducible apply Go.GX.InP.head) | apply Go.GX.InP.tail)); done) | (repeat (first | apply Go.GX.AllIn.nil | apply Go.GX.AllIn.cons | apply Go.GX.InP.head | apply Go.GX.InP.tail)))
    (hl : SelR hp1 hp rest := by first | ((repeat (first | apply Go.GX.SelR.nil | apply Go.GX.SelR.cons | (with_reducible apply Go.GX.TakeR.head) | apply Go.GX.TakeR.tail)); done) | (repeat (first | apply Go.GX.SelR.nil | apply Go.GX.SelR.cons | apply Go.GX.TakeR.head | apply Go.GX.TakeR.tail)))
    (a1 : ∀ s, App (ps' s) ps (pz s) := by intro s; exact inferInstance) (a2 : ∀ s, App (hp' s) rest (hz s) := by intro s; exact inferInstance) (hd : Nat.blt d n = true := by exact rfl) :
    GO P n env b ps hp ⟨some d, .call { callee := .value x, args := xs.toArray, argTypes := ts }, ty, pos, aft, gd⟩ K Q := callvG hc hx hxs hps.sub hl.perm hd (fun s => by rw [← (a1 s).eq, ← (a2 s).eq]; exact h s)
/-- Where all that is one's own is handed on, and comes back as it was; the facts that are wanted stand at the end. -/
theorem clvA {d : Nat} {f : FuncId} {x : Operand} {xs : List Operand} {ts : Array TypeId} {ty : TypeId} {pos : String} {aft : Array Edge} {gd : Option (Nat × Bool)} {vs fs cs : List Value} [hf : UFunc P f] {ps1 : List Pf} {σ : Type} {val : σ → Value}
    (hc : Does P f (fs ++ (vs ++ cs)) ps1 hp val (fun _ => []) (fun _ => hp)) (h : ∀ s, G n ((d, val s) :: env) b ps hp K)
    (hx : ev env x = some (.func (.func f) fs.toArray cs.toArray) := by exact rfl) (hxs : evs env xs = some vs := by exact rfl)
    (hps : Suf ps1 ps := by repeat (first | (with_reducible apply Go.GX.Suf.refl) | apply Go.GX.Suf.tail)) (hd : Nat.blt d n = true := by exact rfl) :
    GO P n env b ps hp ⟨some d, .call { callee := .value x, args := xs.toArray, argTypes := ts }, ty, pos, aft, gd⟩ K Q :=
  callvG (rest := []) hc hx hxs hps.sub (by rw [List.append_nil]) hd (fun s => by rw [List.nil_append, List.append_nil]; exact h s)
theorem clA {d : Nat} {f : FuncId} {xs : List Operand} {ts : Array TypeId} {ty : TypeId} {pos : String} {aft : Array Edge} {gd : Option (Nat × Bool)} {vs : List Value} [hf : UFunc P f] {ps1 : List Pf} {σ : Type} {val : σ → Value}
    (hc : Does P f vs ps1 hp val (fun _ => []) (fun _ => hp)) (h : ∀ s, G n ((d, val s) :: env) b ps hp K) (hxs : evs env xs = some vs := by exact rfl)
    (hps : Suf ps1 ps := by repeat (first | (with_reducible apply Go.GX.Suf.refl) | apply Go.GX.Suf.tail)) (hd : Nat.blt d n = true := by exact rfl) :
    GO P n env b ps hp ⟨some d, .call { callee := .value (.func f), args := xs.toArray, argTypes := ts }, ty, pos, aft, gd⟩ K Q :=
  call hc hxs hps.sub (rest := []) (by rw [List.append_nil]) hd (fun s => by rw [List.nil_append, List.append_nil]; exact h s)
/-- Nothing is a slice that stays. -/
theorem slNil {α : Type} (e : Ty α) (h : G n env b (Sl e none 0 [] :: ps) hp K) : G n env b ps hp K := by
  constructor
  rintro w ⟨F, s⟩
  refine h.run w ⟨F, s.upd, s.lt, s.old, fun p hp => ?_, s.rs, s.apF, s.apart, s.on⟩
  rcases List.mem_cons.1 hp with rfl | hp
  · exact ⟨by simp, by omega, nil_at⟩
  · exact s.fs p hp
/-- A number in a variable that is not turned from now on. -/
theorem frzN (bl : Nat) {t : TypeId} {vs : List Value} {k : IntKind} {m : Int} {rest : List Res} [hf : FRow bl hp t vs rest] (h : G n env b (Pt (Ty.num k) bl 0 m :: ps) rest K) (hv : vs = [.int k m] := by exact rfl) : G n env b ps hp K := frz_st hf.p (fun F w h => by
  have h1 : Row w bl t vs := h
  subst hv
  exact ⟨.inr rfl, h1.lt, _, fun j c hj => by rw [Nat.zero_add]; exact h1.cell_some hj, rfl⟩) h
/-- A new variable, zero, as a row of cells. -/
theorem alR {d : Nat} {ty : TypeId} {pos : String} {aft : Array Edge} {gd : Option (Nat × Bool)} {t : TypeId} {z : Value} {vs : List Value} [hz : UZero P t z] (h : ∀ bl, G n ((d, .pointer (some ⟨bl, 0, none⟩)) :: env) b ps (RowR bl t vs :: hp) K) (hv : z.cells.toList = vs := by exact rfl) (hd : Nat.blt d n = true := by exact rfl) : GO P n env b ps hp ⟨some d, .alloc t, ty, pos, aft, gd⟩ K Q := by
  subst hv
  refine Acts.use (hp1 := []) (rest := hp) (ι := Nat) (val := fun bl => .pointer (some ⟨bl, 0, none⟩)) (pf := fun bl => []) (hr := fun bl => [RowR bl t z.cells.toList]) ?_ (List.Perm.refl _) h
  intro F w K Q b s hk
  exact RX.alloc hd (fun bl w' hb hr hu => hk bl w' (mkOkN s hu hr (fun k hk => by have hk : k = bl := hk; omega)))
/-- Over a whole row of cells. -/
theorem stRW {bl sz : Nat} {ty : TypeId} {pos : String} {aft : Array Edge} {gd : Option (Nat × Bool)} {t te : TypeId} {x y : Operand} {cs vs : List Value} {rest : List Res} [hs : USize P t sz] (h : G n env b ps (RowR bl te cs :: rest) K)
    (hx : ev env x = some (.pointer (some ⟨bl, 0, none⟩)) := by exact rfl) (hy : ev env y = some (.agg cs.toArray) := by exact rfl) (hf : FRow bl hp te vs rest := by exact inferInstance) (hl : cs.length = sz := by exact rfl) (hl2 : vs.length = sz := by exact rfl) (h1 : cs.all (·.oneCell') = true := by exact rfl) : GO P n env b ps hp ⟨none, .store t x y, ty, pos, aft, gd⟩ K Q := by
  subst hl
  refine Acts.use (hp1 := [RowR bl te vs]) (ι := Unit) (val := fun _ => undef) (pf := fun _ => []) (hr := fun _ => [RowR bl te cs]) ?_ hf.p (fun _ => h)
  intro F w K Q b s hk
  have h2 : Row w bl te vs := s.rs (RowR bl te vs) (by simp)
  refine store_cells hx hy (by simp [Value.cells]) h2 (fun u hu => List.all_eq_true.1 h1 u hu) (by omega) (fun w' hrow hu => hk () w' (mkOk1 s hu ?_ (fun k hk _ => hk)))
  have e : over vs 0 cs = cs := by unfold over; rw [List.drop_of_length_le (by omega)]; simp
  rw [e] at hrow; exact hrow
/-- What some cells read as, as a fact. -/
theorem agI {α : Type} {e : Ty α} {cs : List Value} {y : α} (h : G n env b (Ag e cs y :: ps) hp K) (hr : Reads ps (.agg cs.toArray) e y := by first | exact Go.GX.Rds.r) : G n env b ps hp K := by
  constructor
  rintro w ⟨F, s⟩
  refine h.run w ⟨F, s.upd, s.lt, s.old, ?_, s.rs, s.apF, s.apart, s.on⟩
  intro p hp
  rcases List.mem_cons.1 hp with rfl | hp
  · have h1 : e.rd F w (Value.agg cs.toArray).cells.toList y := hr.as F w s.fs
    have h2 : (Value.agg cs.toArray).cells.toList = cs := by simp [Value.cells]
    rw [h2] at h1; exact h1
  · exact s.fs p hp
/-- The same, of a slot. -/
theorem agT (t : Nat) {α : Type} {e : Ty α} {cs : List Value} {y : α} (h : G n env b (Ag e cs y :: ps) hp K) (hk : RX.lk env t = some (.agg cs.toArray) := by exact rfl) (hr : Reads ps (.agg cs.toArray) e y := by first | exact Go.GX.Rds.r) : G n env b ps hp K :=
  have _ := hk
  agI h hr
/-- Names for what a slot holds. -/
theorem nmP (t : Nat) {bl o : Nat} {q : Option Addr} (h : ∀ b' : Nat, b' = bl → G n env b ps hp K) (hk : RX.lk env t = some (.pointer q) := by exact rfl) (hq : q = some ⟨bl, o, none⟩ := by exact rfl) : G n env b ps hp K :=
  have _ := hk
  have _ := hq
  h bl rfl
theorem nmS (t : Nat) {ao : Option Addr} {len cap : Nat} (h : ∀ (a' : Option Addr) (c' : Nat), a' = ao → c' = cap → G n env b ps hp K) (hk : RX.lk env t = some (.slice ao len cap) := by exact rfl) : G n env b ps hp K :=
  have _ := hk
  h ao cap rfl rfl
theorem nmA (t : Nat) {cs : List Value} (h : ∀ c' : List Value, c' = cs → G n env b ps hp K) (hk : RX.lk env t = some (.agg cs.toArray) := by exact rfl) : G n env b ps hp K :=
  have _ := hk
  h cs rfl
theorem nmB (t : Nat) {bl o len cap : Nat} {q : Option Addr} (h : ∀ b' : Nat, b' = bl → G n env b ps hp K) (hk : RX.lk env t = some (.slice q len cap) := by exact rfl) (hq : q = some ⟨bl, o, none⟩ := by exact rfl) : G n env b ps hp K :=
  have _ := hk
  have _ := hq
  h bl rfl
/-- The same, under another name. -/
theorem agZ (t : Nat) {α : Type} {e : Ty α} {cs : List Value} {y : α} (z : α) (h : G n env b (Ag e cs z :: ps) hp K) (hk : RX.lk env t = some (.agg cs.toArray) := by exact rfl) (hr : Reads ps (.agg cs.toArray) e y := by first | exact Go.GX.Rds.r) (hz : y = z := by exact rfl) : G n env b ps hp K :=
  agT t (hz ▸ h) hk hr
section leave
variable {fn : Func} {σ : Type} {val : σ → Value} {ps' : σ → List Pf} {hp' : σ → List Res}
theorem run_cell {w : World} {t : TypeId} {bl sz : Nat} {cs : List Value} [h : UAgg P t] [hs : USize P t sz] (hl : cs.length = sz) (hc : CellsAt w bl 0 cs) : (loadVar t ⟨bl, 0, none⟩).run P w = .ok (.agg cs.toArray) w := by
  subst hl
  have := run_loadCells_list (P := P) w ⟨bl, 0, none⟩ cs (fun j v hj => by rw [Addr.add_lit]; exact hc j v hj)
  simp [loadVar, h.a, hs.s, this]
/-- A struct that lies in a variable, and a value, are handed back. -/
theorem rt2B {α : Type} {e : Ty α} {y : α} {rest : List Res} {a u : Tmp} {t : TypeId} {bl sz : Nat} {x : Value} [UAgg P t] [USize P t sz] (s : List Value → σ) (hv : ∀ cs, val (s cs) = .tuple #[.agg cs.toArray, x])
    (hr : fn.results = #[.cell a t, .tmp u] := by exact rfl) (hk : RX.lk env a = some (.pointer (some ⟨bl, 0, none⟩)) := by exact rfl) (hk2 : RX.lk env u = some x := by exact rfl) (hl : Look bl 0 ps hp e 0 y := by exact inferInstance) (hsz : e.size = sz := by exact rfl)
    (h1 : ∀ cs, AllIn (ps' (s cs)) (Ag e cs y :: ps) := by intro cs; first | ((repeat (first | apply Go.GX.AllIn.nil | apply Go.GX.AllIn.cons | (with_reducible apply Go.GX.InP.head) | apply Go.GX.InP.tail)); done) | (repeat (first | apply Go.GX.AllIn.nil | apply Go.GX.AllIn.cons | apply Go.GX.InP.head | apply Go.GX.InP.tail)))
    (h2 : ∀ cs, SelR (hp' (s cs)) hp rest := by intro cs; first | ((repeat (first | apply Go.GX.SelR.nil | apply Go.GX.SelR.cons | (with_reducible apply Go.GX.TakeR.head) | apply Go.GX.TakeR.tail)); done) | (repeat (first | apply Go.GX.SelR.nil | apply Go.GX.SelR.cons | apply Go.GX.TakeR.head | apply Go.GX.TakeR.tail))) : G n env b ps hp (Post P fn b val ps' hp' .ret) := by
  constructor
  rintro w ⟨F, st⟩
  obtain ⟨o, cs, ho, hc, hrd, _⟩ := hl.look st.fs st.rs
  have ho : o = 0 := by omega
  subst ho
  have hrun := run_cell (P := P) (t := t) (sz := sz) (by rw [e.len hrd, hsz]) hc
  refine ⟨fun a' ha => bodyPost_ret (v := .tuple #[.agg cs.toArray, x]) ?_ ha.defers ⟨s cs, by rw [hv], F, St.sel (ps := Ag e cs y :: ps) ⟨st.upd, st.lt, st.old, ?_, st.rs, st.apF, st.apart, st.on⟩ (h1 cs) (h2 cs)⟩⟩
  · have g1 := ha.get _ _ hk
    have g2 := ha.get _ _ hk2
    simp [results, hr, g1, g2, asAddr, hrun]
  · intro p hp
    rcases List.mem_cons.1 hp with rfl | hp
    · exact hrd
    · exact st.fs p hp
/-- A struct that lies in a variable is handed back. -/
theorem rt1B {α : Type} {e : Ty α} {y : α} {rest : List Res} {a : Tmp} {t : TypeId} {bl sz : Nat} [UAgg P t] [USize P t sz] (s : List Value → σ) (hv : ∀ cs, val (s cs) = .agg cs.toArray)
    (hr : fn.results = #[.cell a t] := by exact rfl) (hk : RX.lk env a = some (.pointer (some ⟨bl, 0, none⟩)) := by exact rfl) (hl : Look bl 0 ps hp e 0 y := by exact inferInstance) (hsz : e.size = sz := by exact rfl)
    (h1 : ∀ cs, AllIn (ps' (s cs)) (Ag e cs y :: ps) := by intro cs; first | ((repeat (first | apply Go.GX.AllIn.nil | apply Go.GX.AllIn.cons | (with_reducible apply Go.GX.InP.head) | apply Go.GX.InP.tail)); done) | (repeat (first | apply Go.GX.AllIn.nil | apply Go.GX.AllIn.cons | apply Go.GX.InP.head | apply Go.GX.InP.tail)))
    (h2 : ∀ cs, SelR (hp' (s cs)) hp rest := by intro cs; first | ((repeat (first | apply Go.GX.SelR.nil | apply Go.GX.SelR.cons | (with_reducible apply Go.GX.TakeR.head) | apply Go.GX.TakeR.tail)); done) | (repeat (first | apply Go.GX.SelR.nil | apply Go.GX.SelR.cons | apply Go.GX.TakeR.head | apply Go.GX.TakeR.tail))) : G n env b ps hp (Post P fn b val ps' hp' .ret) := by
  constructor
  rintro w ⟨F, st⟩
  obtain ⟨o, cs, ho, hc, hrd, _⟩ := hl.look st.fs st.rs
  have ho : o = 0 := by omega
  subst ho
  have hrun := run_cell (P := P) (t := t) (sz := sz) (by rw [e.len hrd, hsz]) hc
  refine ⟨fun a' ha => bodyPost_ret (v := .agg cs.toArray) ?_ ha.defers ⟨s cs, by rw [hv], F, St.sel (ps := Ag e cs y :: ps) ⟨st.upd, st.lt, st.old, ?_, st.rs, st.apF, st.apart, st.on⟩ (h1 cs) (h2 cs)⟩⟩
  · have g1 := ha.get _ _ hk
    simp [results, hr, g1, asAddr, hrun]
  · intro p hp
    rcases List.mem_cons.1 hp with rfl | hp
    · exact hrd
    · exact st.fs p hp
end leave
/-- All of it, at the end. -/
theorem SelR.all (l : List Res) : SelR l l [] := by
  induction l with
  | nil => exact .nil
  | cons r l ih => exact .cons .head ih
theorem AllIn.refl (l : List Pf) : AllIn l l := by
  have key : ∀ m l : List Pf, (∀ p, InP p m → InP p l) → AllIn m l := by
    intro m
    induction m with
    | nil => intro l _; exact .nil
    | cons p m ih => intro l h; exact .cons (h p .head) (ih l fun q hq => h q (.tail hq))
  exact key l l (fun _ h => h)
/-- A fact that is at hand, kept for later use as one of its own. -/
theorem Does.morep {f : FuncId} {args : List Value} {ps1 : List Pf} {hp1 : List Res} {σ : Type} {val : σ → Value} {ps' : σ → List Pf} {hp' : σ → List Res} (hc : Does P f args ps1 hp1 val ps' hp') {ps2 : List Pf} (h : ∀ p ∈ ps1, p ∈ ps2) : Does P f args ps2 hp1 val ps' hp' :=
  ⟨fun w F b s => hc.run w F b (s.less h (List.Sublist.refl _))⟩
end
end Go.GX

/- Regions in which two that act may come up in either order. No program in sight. -/
namespace Go.RX
open Go Go.RowKit Go.RR
section
variable {P : Program} {ops : Array Oper} {S : World → Prop} {hold : Nat → Bool}
/-- Behind what is taken first: either one, then the other. -/
def Fork (P : Program) (ops : Array Oper) (Q : Exit → Act → World → Prop) (S : World → Prop) (hold : Nat → Bool) (la lb : List (Nat × Bool)) : Exit → Act → World → Prop
  | .normal, a, w => wpPlan P ops Q S hold la a w ∧ wpPlan P ops Q S hold lb a w
  | e, a, w => Q e a w
def forkOk (ops : Array Oper) (hold : Nat → Bool) (la lb : List (Nat × Bool)) : List (Nat × Bool) → Array Bool → Bool
  | [], listed => match la, lb with
    | (i, false) :: ra, (j, false) :: rb => (Region.ready .any ops listed) == [i, j] && Nat.beq ra.length rb.length && planOk ops hold ra (listed.setIfInBounds i true) && planOk ops hold rb (listed.setIfInBounds j true)
    | _, _ => false
  | (i, true) :: r, listed => (Region.ready .any ops listed).contains i && freeX ops hold listed i && forkOk ops hold la lb r (listed.setIfInBounds i true)
  | (_, false) :: _, _ => false
theorem wpAnyX_of_fork {Q : Exit → Act → World → Prop} (hs : Region.noSelect ops = true) (hQ : ∀ c a d v w, Q (.panic c) (Act.put a d v) w → Q (.panic c) a w) {la lb : List (Nat × Bool)} : ∀ (pre : List (Nat × Bool)) (listed : Array Bool) (a : Act) (w : World),
    forkOk ops hold la lb pre listed = true → wpPlan P ops (Fork P ops Q S hold la lb) S hold pre a w → wpAnyX P ops Q S hold (pre.length + la.length) listed a w
  | [], listed, a, w, hp, h => by
    unfold forkOk at hp
    split at hp
    · rename_i i ra j rb
      simp only [Bool.and_eq_true, beq_iff] at hp
      obtain ⟨⟨⟨h1, h2⟩, h3⟩, h4⟩ := hp
      have hr : Region.ready .any ops listed = [i, j] := by simpa using h1
      obtain ⟨ha, hb⟩ : wpPlan P ops Q S hold ((i, false) :: ra) a w ∧ wpPlan P ops Q S hold ((j, false) :: rb) a w := h
      rw [List.length_nil, Nat.zero_add, List.length_cons]
      refine ⟨fun h0 => absurd (hr ▸ h0) (by simp), fun k hk => ?_⟩
      rw [hr] at hk
      rcases List.mem_cons.1 hk with rfl | hk
      · exact wpOp_mono (fun a' w' h5 => ⟨h5.1, wpAnyX_of_plan hs hQ ra _ a' w' h3 h5.2⟩) ha
      · obtain rfl : k = j := by simpa using hk
        rw [h2]
        exact wpOp_mono (fun a' w' h5 => ⟨h5.1, wpAnyX_of_plan hs hQ rb _ a' w' h4 h5.2⟩) hb
    · simp at hp
  | (i, true) :: r, listed, a, w, hp, ⟨oi, v, hi, hy, hS, h⟩ => by
    simp only [forkOk, Bool.and_eq_true] at hp
    have := wpAnyX_first (P := P) (Q := Q) hi (Region.noSelect_spec hs) (fun c a w => hQ c a oi.dst v w) _ (Tame oi S) (r.length + la.length) listed a w (waits_spec (List.range ops.size) [] (fun j oj _ h => by simp at h)) (freeX_spec hi hp.1.2) (by simpa using hp.1.1) hy hS (wpAnyX_of_fork hs hQ r _ _ w hp.2 h)
    rw [List.length_cons, Nat.add_right_comm]; exact this
  | (_, false) :: _, _, _, _, hp, _ => by simp [forkOk] at hp
end
theorem drawnF {P : Program} {n : Nat} {env : Env} {w : World} {Q : Exit → Act → World → Prop} {id : Nat} {l : List Oper} (S : World → Prop) (hold : Nat → Bool) (pre la lb : List (Nat × Bool)) [hm : Mixed P] (hlen : Nat.beq l.length (pre.length + la.length) = true) (hs : Region.noSelect l.toArray = true)
    (hp : forkOk l.toArray hold la lb pre (Array.replicate (pre.length + la.length) false) = true)
    (h : E n env w.drew (wpPlan P l.toArray (Fork P l.toArray (NoPanic Q) S hold la lb) S hold pre)) : E n env w ((Code.region id l.toArray true).wp P Q) := by
  constructor; intro a ha
  refine wp_region_noPanic (wp_region_any hm.m (wpAny_of_X (S := S) (hold := hold) _ _ _ _ ?_))
  have hlen : l.toArray.size = pre.length + la.length := by simpa using beq_iff.1 hlen
  rw [hlen]
  exact wpAnyX_of_fork hs (fun c a d v w h => h) pre _ a _ hp (h.run a ha)
end Go.RX
namespace Go.GX
open Go Go.RowKit Go.RR Go.RX
section
variable {P : Program} {n : Nat} {env : Env} {b : Base} {ps : List Pf} {hp hpS : List Res} {Q : Exit → Act → World → Prop} {K : Act → World → Prop}
/-- Either order: nothing of one's own is held. -/
theorem drawnF {id : Nat} {l : List Oper} (hold : Nat → Bool) (pre la lb : List (Nat × Bool)) [hm : Mixed P] (hlen : Nat.beq l.length (pre.length + la.length) = true) (hs : Region.noSelect l.toArray = true) (hpl : forkOk l.toArray hold la lb pre (Array.replicate (pre.length + la.length) false) = true)
    (h : ∀ wd F, AllP F wd ps → AllR F wd [] → G n env b (Kept wd F :: ps) hp (wpPlan P l.toArray (Fork P l.toArray (NoPanic Q) (SS wd F []) hold la lb) (SS wd F []) hold pre)) : G n env b ps hp ((Code.region id l.toArray true).wp P Q) := by
  constructor
  rintro w ⟨F, s⟩
  have s := s.drew
  refine RX.drawnF (SS w.drew F []) hold pre la lb hlen hs hpl ((h w.drew F s.fs no_r).run w.drew ⟨F, s.upd, s.lt, s.old, fun p hp => ?_, s.rs, s.apF, s.apart, s.on⟩)
  rcases List.mem_cons.1 hp with rfl | hp
  · exact ⟨Agree.refl _ _, fun _ _ h => h⟩
  · exact s.fs p hp
theorem fork {ops : Array Oper} {S : World → Prop} {hold : Nat → Bool} {la lb : List (Nat × Bool)} (ha : G n env b ps hp (wpPlan P ops Q S hold la)) (hb : G n env b ps hp (wpPlan P ops Q S hold lb)) : G n env b ps hp (wpPlan P ops (Fork P ops Q S hold la lb) S hold []) :=
  ⟨fun w s => ⟨fun a h => ⟨(ha.run w s).run a h, (hb.run w s).run a h⟩⟩⟩
end
end Go.GX

/- Parts of slices of one's own: cutting, and the built-in clear, for elements of one cell. No program in sight. -/
namespace Go.GX
open Go Go.RowKit Go.RR Go.RX
section
variable {P : Program} {n : Nat} {env : Env} {b : Base} {ps : List Pf} {hp : List Res} {Q : Exit → Act → World → Prop} {K : Act → World → Prop}
variable {ty : TypeId} {pos : String} {aft : Array Edge} {gd : Option (Nat × Bool)} {α : Type} {e : Ty α}

theorem els_take {F : Nat → Prop} {w : World} : ∀ {xs : List α} {cs : List Value} (j : Nat), Els e F w cs xs → Els e F w (cs.take (j * e.size)) (xs.take j)
  | [], cs, j, h => by
    have h : cs = [] := h
    subst h; simp; rfl
  | x :: xs, cs, 0, h => by simp; rfl
  | x :: xs, cs, j + 1, ⟨c1, c2, h1, h2, h3⟩ => by
    have hl := e.len h2
    refine ⟨c1, c2.take (j * e.size), ?_, h2, els_take j h3⟩
    rw [h1, Nat.add_mul, Nat.one_mul, Nat.add_comm, ← hl, List.take_length_add_append]
/-- Fewer of them. -/
theorem ownTake (ao : Option Addr) (j : Nat) {t : TypeId} {cap : Nat} {xs : List α} {rest : List Res} [hf : FOwn ao hp t e cap xs rest] (h : G n env b ps (Own t e ao cap (xs.take j) :: rest) K) : G n env b ps hp K := by
  refine alter (hp1 := [Own t e ao cap xs]) (hp2 := [Own t e ao cap (xs.take j)]) hf.p ?_ ?_ h
  · intro F w h1 _
    refine ⟨fun r hr => ?_, by simp⟩
    obtain rfl : r = _ := by simpa using hr
    obtain ⟨cs, g1, g2⟩ : (Own t e ao cap xs).says F w := h1 _ (by simp)
    have hlen := els_take j g2
    rcases g1.2 with ⟨h3, h4⟩ | ⟨g, cap', cur, h3, hb, hg, h5, h6, h7, h8⟩
    · simp at h3
      obtain ⟨rfl, hx, rfl⟩ := h3
      subst hx
      have : cs = [] := g2
      subst this
      simp; exact own_none
    · simp at h3
      obtain ⟨rfl, rfl⟩ := h3
      refine ⟨cs.take (j * e.size), ⟨hlen.len, .inr ⟨g, cap, cur, rfl, hb, hg, ?_, h6, h7, ?_⟩⟩, hlen⟩
      · rw [List.length_take]; omega
      · have h8 : cur.toList.take (xs.length * e.size) = cs := h8
        show cur.toList.take ((xs.take j).length * e.size) = cs.take (j * e.size)
        rw [← h8, List.take_take, List.length_take, Nat.mul_min_mul_right]
  · rintro k ⟨r, hr, hk⟩
    obtain rfl : r = _ := by simpa using hr
    refine ⟨Own t e ao cap xs, by simp, ?_⟩
    have hk : Value.ownBlock (.slice ao (xs.take j).length cap) = some k := hk
    show Value.ownBlock (.slice ao xs.length cap) = some k
    cases ao <;> exact hk
section cutting
variable {t et : TypeId} {x y : Operand} {k : IntKind} {d : Nat}
/-- 's[:j]' of a slice of one's own, as a value. -/
theorem oh {ao : Option Addr} {m cap j sz : Nat} [ht : USlice P t et] [hs : USize P et sz] (h : G n ((d, .slice ao j cap) :: env) b ps hp K) (hx : ev env x = some (.slice ao m cap) := by exact rfl) (hy : ev env y = some (.int k (j : Int)) := by exact rfl) (hj : j ≤ cap := by omega) (hao : ∀ a, ao = some a → a.spot = none := by intro a ha; cases ha; rfl) (hd : Nat.blt d n = true := by exact rfl) :
    GO P n env b ps hp ⟨some d, .slice t x none (some y) none, ty, pos, aft, gd⟩ K Q := by
  refine rd1 (fun a ha o ho w _ => ?_) hd h
  have hb1 := sliceBound_run (P := P) (k := k) (i := (j : Int)) (y := cap) (c := .sliceAcap) (w := w) ⟨by omega, by omega⟩
  have e0 : (if cap = 0 then ao else ao.map (·.add (0 * sz))) = ao := by
    split
    · rfl
    · cases ao with
      | none => rfl
      | some a =>
        have := hao a rfl
        obtain ⟨b, o, sp⟩ := a
        dsimp only at this; subst this
        simp [Addr.add_lit]
  simp [execOp, ho, ha.ev hx, ha.ev hy, Instr.sliceAt, Instr.slice, run_underlying ht.u, Instr.sliceBounds, hb1, hs.s]
  simpa using e0
/-- 's[j:]', likewise. -/
theorem ol {g o m cap j sz : Nat} [ht : USlice P t et] [hs : USize P et sz] (h : ∀ o2, (j < cap → o2 = o + j * sz) → G n ((d, .slice (some ⟨g, o2, none⟩) (m - j) (cap - j)) :: env) b ps hp K) (hx : ev env x = some (.slice (some ⟨g, o, none⟩) m cap) := by exact rfl) (hy : ev env y = some (.int k (j : Int)) := by exact rfl) (hj : j ≤ m := by omega) (hm : m ≤ cap := by omega) (hd : Nat.blt d n = true := by exact rfl) :
    GO P n env b ps hp ⟨some d, .slice t x (some y) none none, ty, pos, aft, gd⟩ K Q := by
  refine rd1 (v := .slice (some ⟨g, if cap = j then o else o + j * sz, none⟩) (m - j) (cap - j)) (fun a ha o' ho w _ => ?_) hd (h _ (fun hlt => by rw [if_neg (by omega)]))
  have hb1 := sliceBound_run (P := P) (k := k) (i := (j : Int)) (y := m) (c := .sliceB) (w := w) ⟨by omega, by omega⟩
  by_cases hc : cap = j
  · simp [execOp, ho, ha.ev hx, ha.ev hy, Instr.sliceAt, Instr.slice, run_underlying ht.u, Instr.sliceBounds, hb1, hs.s, hc]
  · simp [execOp, ho, ha.ev hx, ha.ev hy, Instr.sliceAt, Instr.slice, run_underlying ht.u, Instr.sliceBounds, hb1, hs.s, hc, Addr.add_lit]

theorem effC {w w' : World} {c : Call} {v : Value} (hs : ∀ a, Has n env a → (execOp a.eval ⟨none, .call c, ty, pos, aft, gd⟩).run P w = .ok (.value v) w') (h : E n env w' K) : OW P n env w ⟨none, .call c, ty, pos, aft, gd⟩ K Q := by
  constructor; intro a ha
  show Oper.upon P _ a K Q ((execOp a.eval _).run P w)
  rw [hs a ha]
  exact h.run _ ha
/-- 'clear(s[k:])': what lies ahead stays. -/
theorem clr {z : α} {zv : Value} {g o m c cap k0 : Nat} {xs : List α} {rest : List Res} [ht : USlice P t et] [hz : UTy P et e z zv] [hf : FOwn (some ⟨g, 0, none⟩) hp et e cap xs rest] (h : ∀ ys, ys.length = xs.length → ys.take k0 = xs.take k0 → G n env b ps (Own et e (some ⟨g, 0, none⟩) cap ys :: rest) K)
    (hx : ev env x = some (.slice (some ⟨g, o, none⟩) m c)) (hes : e.size = 1) (hzs : zv.cells = #[zv]) (h1 : zv.oneCell' = true) (ho : m = 0 ∨ (k0 ≤ o ∧ o + m ≤ xs.length)) : GO P n env b ps hp ⟨none, .call { callee := .builtin .clear, args := #[x], argTypes := #[t] }, ty, pos, aft, gd⟩ K Q := by
  refine Acts.use (hp1 := [Own et e (some ⟨g, 0, none⟩) cap xs]) (ι := { ys : List α // ys.length = xs.length ∧ ys.take k0 = xs.take k0 }) (val := fun _ => undef) (pf := fun _ => []) (hr := fun ys => [Own et e (some ⟨g, 0, none⟩) cap ys.1]) ?_ hf.p (fun ys => h ys.1 ys.2.1 ys.2.2)
  intro F w K Q b s hk
  rcases Nat.eq_zero_or_pos m with hm | hm
  · subst hm
    refine effC (v := .tuple #[]) (w' := w) (fun a ha => ?_) (hk ⟨xs, rfl, rfl⟩ w (mkOk1 s (Upd.refl _ _) (s.rs (Own et e (some ⟨g, 0, none⟩) cap xs) (by simp)) (fun k hk _ => hk)))
    simp [execOp, ha.ev hx, resolve, invoke, builtin, Builtin.clear_, run_underlying ht.u]
  · obtain ⟨ho1, ho2⟩ : k0 ≤ o ∧ o + m ≤ xs.length := by omega
    obtain ⟨cs, tl, g1, g2, g3, g4, g5⟩ := own_open (s.rs (Own et e (some ⟨g, 0, none⟩) cap xs) (by simp))
    have hcl := g2.len
    rw [hes, Nat.mul_one] at hcl
    obtain ⟨w', k1, k2, k3⟩ := run_storeAll (P := P) (bl := g) (o := o) (te := et) (List.replicate m zv) (cs ++ tl) w 0 g1 (by simp; omega) (fun u hu => by rw [List.eq_of_mem_replicate hu]; exact h1)
    have hzc : (Builtin.zeroCells zv.cells m).toList = List.replicate m zv := by
      rw [hzs]
      simp [Builtin.zeroCells]
      apply List.ext_getElem
      · simp
      · intro i h1 h2; simp [Nat.mod_one]
    have hrd : e.rd F w [zv] z := by have := hz.rd F w; rw [hzs] at this; exact this
    refine effC (v := .tuple #[]) (w' := w') (fun a ha => ?_) (hk ⟨xs.take o ++ (List.replicate m z ++ xs.drop (o + m)), by simp; omega, by rw [List.take_append_of_le_length (by simp; omega), List.take_take, Nat.min_eq_left ho1]⟩ w' (mkOk1 s (k3.mono fun k _ hk => by subst hk; rfl) (own_close (cs := cs.take o ++ (List.replicate m zv ++ cs.drop (o + m))) (tl := tl) ?_ ?_ ?_ (by simp; omega) g5) (fun k hk _ => hk)))
    · obtain ⟨m', rfl⟩ : ∃ m', m = m' + 1 := ⟨m - 1, by omega⟩
      simp [execOp, ha.ev hx, resolve, invoke, builtin, Builtin.clear_, run_underlying ht.u, hz.zero, hzc, k1]
    · have e1 : over (cs ++ tl) (o + 0) (List.replicate m zv) = cs.take o ++ (List.replicate m zv ++ cs.drop (o + m)) ++ tl := by
        unfold over
        rw [Nat.add_zero, List.length_replicate, List.take_append_of_le_length (by omega), List.drop_append_of_le_length (by omega)]
        simp
      rw [e1] at k2; exact k2
    · have hu' : Upd (feet [Own et e (some ⟨g, 0, none⟩) cap xs]) w w' := k3.mono fun k _ hk => ⟨Own et e (some ⟨g, 0, none⟩) cap xs, by simp, by subst hk; rfl⟩
      have a1 := els_take o g2
      rw [hes, Nat.mul_one] at a1
      have a3 : Els e F w (cs.drop (o + m)) (xs.drop (o + m)) := by
        have key : ∀ (j : Nat) (xs : List α) (cs : List Value), Els e F w cs xs → Els e F w (cs.drop j) (xs.drop j) := by
          intro j
          induction j with
          | zero => intro xs cs h; simpa using h
          | succ j ih =>
            intro xs cs h
            cases xs with
            | nil => have h : cs = [] := h
                     subst h; simp; rfl
            | cons x xs =>
              obtain ⟨c1, c2, q1, q2, q3⟩ := h
              have hl := e.len q2
              rw [q1, List.drop_succ_cons, show j + 1 = c1.length + j by omega, ← List.drop_drop, List.drop_left]
              exact ih xs c2 q3
        exact key _ _ _ g2
      have a2 : Els e F w (List.replicate m zv) (List.replicate m z) := by
        have := els_rep hrd m
        simpa using this
      exact (a1.append (a2.append a3)).move (fun _ _ h => h) (agF s hu')
    · rw [← g3]; simp; omega
end cutting

/-- A call of a function value; one thing more is one's own, and is not touched. -/
theorem clvR {d : Nat} {f : FuncId} {x : Operand} {xs : List Operand} {ts : Array TypeId} {vs fs cs : List Value} {r : Res} {hpC : List Res} [hf : UFunc P f] {ps1 : List Pf} {σ : Type} {val : σ → Value}
    (hc : Does P f (fs ++ (vs ++ cs)) ps1 hpC val (fun _ => []) (fun _ => hpC)) (h : ∀ s, G n ((d, val s) :: env) b ps (r :: hpC) K)
    (hx : ev env x = some (.func (.func f) fs.toArray cs.toArray) := by exact rfl) (hxs : evs env xs = some vs := by exact rfl)
    (hps : Suf ps1 ps := by repeat (first | (with_reducible apply Go.GX.Suf.refl) | apply Go.GX.Suf.tail)) (hd : Nat.blt d n = true := by exact rfl) :
    GO P n env b ps (r :: hpC) ⟨some d, .call { callee := .value x, args := xs.toArray, argTypes := ts }, ty, pos, aft, gd⟩ K Q :=
  callvG (rest := [r]) hc hx hxs hps.sub (List.perm_append_comm (l₁ := [r])) hd (fun s => perm (List.perm_append_comm (l₂ := [r])) (by rw [List.nil_append]; exact h s))
theorem clR {d : Nat} {f : FuncId} {xs : List Operand} {ts : Array TypeId} {vs : List Value} [hf : UFunc P f] {ps1 : List Pf} {σ : Type} {val : σ → Value} {hp' : σ → List Res}
    (hc : Does P f vs ps1 hp val (fun _ => []) hp') (h : ∀ s, G n ((d, val s) :: env) b ps (hp' s) K) (hxs : evs env xs = some vs := by exact rfl)
    (hps : Suf ps1 ps := by repeat (first | (with_reducible apply Go.GX.Suf.refl) | apply Go.GX.Suf.tail)) (hd : Nat.blt d n = true := by exact rfl) :
    GO P n env b ps hp ⟨some d, .call { callee := .value (.func f), args := xs.toArray, argTypes := ts }, ty, pos, aft, gd⟩ K Q :=
  call hc hxs hps.sub (rest := []) (by rw [List.append_nil]) hd (fun s => by rw [List.nil_append, List.append_nil]; exact h s)
end
end Go.GX
