/- Calls of values that are functions. No program in sight. -/
import Derived.Test.YtnpbadghodkhlaaGShort
namespace Go.GX
open Go Go.RowKit Go.RR Go.RX
theorem get_lt {α : Type} {xs : List α} {i : Nat} (h : i < xs.length) : ∃ x, xs[i]? = some x := ⟨xs[i], List.getElem?_eq_getElem h⟩
section
variable {P : Program} {n : Nat} {env : Env} {b : Base} {ps : List Pf} {hp : List Res} {Q : Exit → Act → World → Prop} {K : Act → World → Prop}
section shapes
theorem s_list {ops : Array Oper} {l : List Oper} (h_ : G n env b ps hp (wpList P ops Q l)) : G n env b ps hp (wpList P ops Q l) := h_
theorem s_cond {c : Operand} {x y : Code} (h_ : G n env b ps hp ((Code.cond c x y).wp P Q)) : G n env b ps hp ((Code.cond c x y).wp P Q) := h_
theorem s_take {ops : Array Oper} {S : World → Prop} {hold : Nat → Bool} {i : Nat} {r : List (Nat × Bool)} (h_ : G n env b ps hp (wpPlan P ops Q S hold ((i, true) :: r))) : G n env b ps hp (wpPlan P ops Q S hold ((i, true) :: r)) := h_
theorem s_go {ops : Array Oper} {S : World → Prop} {hold : Nat → Bool} {i : Nat} {r : List (Nat × Bool)} (h_ : G n env b ps hp (wpPlan P ops Q S hold ((i, false) :: r))) : G n env b ps hp (wpPlan P ops Q S hold ((i, false) :: r)) := h_
theorem s_went {S : World → Prop} {hold : Nat → Bool} {i : Nat} (h_ : G n env b ps hp (Went S hold i K)) : G n env b ps hp (Went S hold i K) := h_
end shapes
/-- What comes behind is put out of sight, and is brought back when it is reached. -/
theorem seqK {x y : Code} (h : ∀ K0 : Act → World → Prop, K0 = y.wp P Q → G n env b ps hp (x.wp P (Exit.then K0 Q))) : G n env b ps hp ((Code.seq x y).wp P Q) := GX.seq (h _ rfl)
theorem reveal {K K' : Act → World → Prop} (h : G n env b ps hp K') (hk : K = K') : G n env b ps hp K := by rw [hk]; exact h
/-- How long a list is that is written out. -/
class IsLen {α : Type} (m : Nat) (xs : List α) : Prop where
  eq : m = xs.length
instance {α : Type} : IsLen 0 ([] : List α) := ⟨rfl⟩
instance {α : Type} (m : Nat) (x : α) (xs : List α) [h : IsLen m xs] : IsLen (m + 1) (x :: xs) := ⟨by rw [List.length_cons, h.eq]⟩
instance (priority := 500) {ps : List Pf} {α : Type} (ao : Option Addr) (cap m : Nat) (e : Ty α) (xs : List α) [FSl ao ps e cap xs] [h : IsLen m xs] : Rds ps (.slice ao m cap) (Ty.slice e) xs := ⟨.slice h.eq⟩
/-- A call of a function value, by the contract of the function behind it. -/
theorem callv {w : World} {d : Nat} {f : FuncId} {x : Operand} {xs : List Operand} {ts : Array TypeId} {ty : TypeId} {pos : String} {aft : Array Edge} {gd : Option (Nat × Bool)} {vs fs cs : List Value} {R : Ending → World → Prop} [hf : UFunc P f]
    (hx : ev env x = some (.func (.func f) fs.toArray cs.toArray)) (hxs : evs env xs = some vs) (hc : Calls P f (fs ++ (vs ++ cs)).toArray w R) (hd : Nat.blt d n = true) (h : ∀ e w', R e w' → ∃ v, e = .returned v ∧ E n ((d, v) :: env) w' K) :
    OW P n env w ⟨some d, .call { callee := .value x, args := xs.toArray, argTypes := ts }, ty, pos, aft, gd⟩ K Q := by
  constructor; intro a ha
  show Oper.upon P _ a K Q ((execOp a.eval _).run P w)
  have hr : (execOp a.eval ⟨some d, .call { callee := .value x, args := xs.toArray, argTypes := ts }, ty, pos, aft, gd⟩).run P w = .ok (.enter f (fs ++ (vs ++ cs)).toArray) w := by
    have he : (xs.toArray.map a.eval) = vs.toArray := by simp [ha.evs hxs]
    simp only [execOp, resolve, ha.ev hx, he]
    simp [Deferred.ofValue, invoke, hf.c]
  rw [hr]
  refine Calls.mono hc fun e w' hR => ?_
  obtain ⟨v, rfl, hk⟩ := h e w' hR
  exact hk.run _ (ha.put (d := d) v hd)
theorem callvG {d : Nat} {f : FuncId} {x : Operand} {xs : List Operand} {ts : Array TypeId} {ty : TypeId} {pos : String} {aft : Array Edge} {gd : Option (Nat × Bool)} {vs fs cs : List Value} [hf : UFunc P f] {ps1 : List Pf} {hp1 rest : List Res} {σ : Type} {val : σ → Value} {ps' : σ → List Pf} {hp' : σ → List Res}
    (hc : Does P f (fs ++ (vs ++ cs)) ps1 hp1 val ps' hp') (hx : ev env x = some (.func (.func f) fs.toArray cs.toArray)) (hxs : evs env xs = some vs) (hps : ∀ p ∈ ps1, p ∈ ps) (hl : hp.Perm (hp1 ++ rest)) (hd : Nat.blt d n = true) (h : ∀ s, G n ((d, val s) :: env) b (ps' s ++ ps) (hp' s ++ rest) K) :
    GO P n env b ps hp ⟨some d, .call { callee := .value x, args := xs.toArray, argTypes := ts }, ty, pos, aft, gd⟩ K Q := by
  constructor
  rintro w ⟨F, s⟩
  have s := s.perm hl
  refine callv hx hxs (hc.run w F b (s.less hps (List.sublist_append_left _ _))) hd ?_
  rintro e w' ⟨i, rfl, h'⟩
  obtain ⟨F', _, _, _, s'⟩ := s.act h'
  exact ⟨_, rfl, (h i).run w' ⟨F', s'⟩⟩
theorem clv {d : Nat} {f : FuncId} {x : Operand} {xs : List Operand} {ts : Array TypeId} {ty : TypeId} {pos : String} {aft : Array Edge} {gd : Option (Nat × Bool)} {vs fs cs : List Value} [hf : UFunc P f] {ps1 : List Pf} {hp1 rest : List Res} {σ : Type} {val : σ → Value} {ps' : σ → List Pf} {hp' : σ → List Res}
    {pz : σ → List Pf} {hz : σ → List Res} (hc : Does P f (fs ++ (vs ++ cs)) ps1 hp1 val ps' hp') (h : ∀ s, G n ((d, val s) :: env) b (pz s) (hz s) K)
    (hx : ev env x = some (.func (.func f) fs.toArray cs.toArray) := by exact rfl) (hxs : evs env xs = some vs := by exact rfl)
    (hps : AllIn ps1 ps := by first | ((repeat (first | apply Go.GX.AllIn.nil | apply Go.GX.AllIn.cons | (with_reducible apply Go.GX.InP.head) | apply Go.GX.InP.tail)); done) | (repeat (first | apply Go.GX.AllIn.nil | apply Go.GX.AllIn.cons | apply Go.GX.InP.head | apply Go.GX.InP.tail)))
    (hl : SelR hp1 hp rest := by first | ((repeat (first | apply Go.GX.SelR.nil | apply Go.GX.SelR.cons | (with_reducible apply Go.GX.TakeR.head) | apply Go.GX.TakeR.tail)); done) | (repeat (first | apply Go.GX.SelR.nil | apply Go.GX.SelR.cons | apply Go.GX.TakeR.head | apply Go.GX.TakeR.tail)))
    (a1 : ∀ s, App (ps' s) ps (pz s) := by intro s; exact inferInstance) (a2 : ∀ s, App (hp' s) rest (hz s) := by intro s; exact inferInstance) (hd : Nat.blt d n = true := by exact rfl) :
    GO P n env b ps hp ⟨some d, .call { callee := .value x, args := xs.toArray, argTypes := ts }, ty, pos, aft, gd⟩ K Q := callvG hc hx hxs hps.sub hl.perm hd (fun s => by rw [← (a1 s).eq, ← (a2 s).eq]; exact h s)
/-- Where all that is one's own is handed on, and comes back as it was; the facts that are wanted stand at the end. -/
theorem clvA {d : Nat} {f : FuncId} {x : Operand} {xs : List Operand} {ts : Array TypeId} {ty : TypeId} {pos : String} {aft : Array Edge} {gd : Option (Nat × Bool)} {vs fs cs : List Value} [hf : UFunc P f] {ps1 : List Pf} {σ : Type} {val : σ → Value}
    (hc : Does P f (fs ++ (vs ++ cs)) ps1 hp val (fun _ => []) (fun _ => hp)) (h : ∀ s, G n ((d, val s) :: env) b ps hp K)
    (hx : ev env x = some (.func (.func f) fs.toArray cs.toArray) := by exact rfl) (hxs : evs env xs = some vs := by exact rfl)
    (hps : Suf ps1 ps := by repeat (first | (with_reducible apply Go.GX.Suf.refl) | apply Go.GX.Suf.tail)) (hd : Nat.blt d n = true := by exact rfl) :
    GO P n env b ps hp ⟨some d, .call { callee := .value x, args := xs.toArray, argTypes := ts }, ty, pos, aft, gd⟩ K Q :=
  callvG (rest := []) hc hx hxs hps.sub (by rw [List.append_nil]) hd (fun s => by rw [List.nil_append, List.append_nil]; exact h s)
theorem clA {d : Nat} {f : FuncId} {xs : List Operand} {ts : Array TypeId} {ty : TypeId} {pos : String} {aft : Array Edge} {gd : Option (Nat × Bool)} {vs : List Value} [hf : UFunc P f] {ps1 : List Pf} {σ : Type} {val : σ → Value}
    (hc : Does P f vs ps1 hp val (fun _ => []) (fun _ => hp)) (h : ∀ s, G n ((d, val s) :: env) b ps hp K) (hxs : evs env xs = some vs := by exact rfl)
    (hps : Suf ps1 ps := by repeat (first | (with_reducible apply Go.GX.Suf.refl) | apply Go.GX.Suf.tail)) (hd : Nat.blt d n = true := by exact rfl) :
    GO P n env b ps hp ⟨some d, .call { callee := .value (.func f), args := xs.toArray, argTypes := ts }, ty, pos, aft, gd⟩ K Q :=
  call hc hxs hps.sub (rest := []) (by rw [List.append_nil]) hd (fun s => by rw [List.nil_append, List.append_nil]; exact h s)
/-- Nothing is a slice that stays. -/
theorem slNil {α : Type} (e : Ty α) (h : G n env b (Sl e none 0 [] :: ps) hp K) : G n env b ps hp K := by
  constructor
  rintro w ⟨F, s⟩
  refine h.run w ⟨F, s.upd, s.lt, s.old, fun p hp => ?_, s.rs, s.apF, s.apart, s.on⟩
  rcases List.mem_cons.1 hp with rfl | hp
  · exact ⟨by simp, by omega, nil_at⟩
  · exact s.fs p hp
/-- A number in a variable that is not turned from now on. -/
theorem frzN (bl : Nat) {t : TypeId} {vs : List Value} {k : IntKind} {m : Int} {rest : List Res} [hf : FRow bl hp t vs rest] (h : G n env b (Pt (Ty.num k) bl 0 m :: ps) rest K) (hv : vs = [.int k m] := by exact rfl) : G n env b ps hp K := frz_st hf.p (fun F w h => by
  have h1 : Row w bl t vs := h
  subst hv
  exact ⟨.inr rfl, h1.lt, _, fun j c hj => by rw [Nat.zero_add]; exact h1.cell_some hj, rfl⟩) h
/-- A new variable, zero, as a row of cells. -/
theorem alR {d : Nat} {ty : TypeId} {pos : String} {aft : Array Edge} {gd : Option (Nat × Bool)} {t : TypeId} {z : Value} {vs : List Value} [hz : UZero P t z] (h : ∀ bl, G n ((d, .pointer (some ⟨bl, 0, none⟩)) :: env) b ps (RowR bl t vs :: hp) K) (hv : z.cells.toList = vs := by exact rfl) (hd : Nat.blt d n = true := by exact rfl) : GO P n env b ps hp ⟨some d, .alloc t, ty, pos, aft, gd⟩ K Q := by
  subst hv
  refine Acts.use (hp1 := []) (rest := hp) (ι := Nat) (val := fun bl => .pointer (some ⟨bl, 0, none⟩)) (pf := fun bl => []) (hr := fun bl => [RowR bl t z.cells.toList]) ?_ (List.Perm.refl _) h
  intro F w K Q b s hk
  exact RX.alloc hd (fun bl w' hb hr hu => hk bl w' (mkOkN s hu hr (fun k hk => by have hk : k = bl := hk; omega)))
/-- Over a whole row of cells. -/
theorem stRW {bl sz : Nat} {ty : TypeId} {pos : String} {aft : Array Edge} {gd : Option (Nat × Bool)} {t te : TypeId} {x y : Operand} {cs vs : List Value} {rest : List Res} [hs : USize P t sz] (h : G n env b ps (RowR bl te cs :: rest) K)
    (hx : ev env x = some (.pointer (some ⟨bl, 0, none⟩)) := by exact rfl) (hy : ev env y = some (.agg cs.toArray) := by exact rfl) (hf : FRow bl hp te vs rest := by exact inferInstance) (hl : cs.length = sz := by exact rfl) (hl2 : vs.length = sz := by exact rfl) (h1 : cs.all (·.oneCell') = true := by exact rfl) : GO P n env b ps hp ⟨none, .store t x y, ty, pos, aft, gd⟩ K Q := by
  subst hl
  refine Acts.use (hp1 := [RowR bl te vs]) (ι := Unit) (val := fun _ => undef) (pf := fun _ => []) (hr := fun _ => [RowR bl te cs]) ?_ hf.p (fun _ => h)
  intro F w K Q b s hk
  have h2 : Row w bl te vs := s.rs (RowR bl te vs) (by simp)
  refine store_cells hx hy (by simp [Value.cells]) h2 (fun u hu => List.all_eq_true.1 h1 u hu) (by omega) (fun w' hrow hu => hk () w' (mkOk1 s hu ?_ (fun k hk _ => hk)))
  have e : over vs 0 cs = cs := by unfold over; rw [List.drop_of_length_le (by omega)]; simp
  rw [e] at hrow; exact hrow
/-- What some cells read as, as a fact. -/
theorem agI {α : Type} {e : Ty α} {cs : List Value} {y : α} (h : G n env b (Ag e cs y :: ps) hp K) (hr : Reads ps (.agg cs.toArray) e y := by first | exact Go.GX.Rds.r) : G n env b ps hp K := by
  constructor
  rintro w ⟨F, s⟩
  refine h.run w ⟨F, s.upd, s.lt, s.old, ?_, s.rs, s.apF, s.apart, s.on⟩
  intro p hp
  rcases List.mem_cons.1 hp with rfl | hp
  · have h1 : e.rd F w (Value.agg cs.toArray).cells.toList y := hr.as F w s.fs
    have h2 : (Value.agg cs.toArray).cells.toList = cs := by simp [Value.cells]
    rw [h2] at h1; exact h1
  · exact s.fs p hp
/-- The same, of a slot. -/
theorem agT (t : Nat) {α : Type} {e : Ty α} {cs : List Value} {y : α} (h : G n env b (Ag e cs y :: ps) hp K) (hk : RX.lk env t = some (.agg cs.toArray) := by exact rfl) (hr : Reads ps (.agg cs.toArray) e y := by first | exact Go.GX.Rds.r) : G n env b ps hp K :=
  have _ := hk
  agI h hr
/-- Names for what a slot holds. -/
theorem nmP (t : Nat) {bl o : Nat} {q : Option Addr} (h : ∀ b' : Nat, b' = bl → G n env b ps hp K) (hk : RX.lk env t = some (.pointer q) := by exact rfl) (hq : q = some ⟨bl, o, none⟩ := by exact rfl) : G n env b ps hp K :=
  have _ := hk
  have _ := hq
  h bl rfl
theorem nmS (t : Nat) {ao : Option Addr} {len cap : Nat} (h : ∀ (a' : Option Addr) (c' : Nat), a' = ao → c' = cap → G n env b ps hp K) (hk : RX.lk env t = some (.slice ao len cap) := by exact rfl) : G n env b ps hp K :=
  have _ := hk
  h ao cap rfl rfl
theorem nmA (t : Nat) {cs : List Value} (h : ∀ c' : List Value, c' = cs → G n env b ps hp K) (hk : RX.lk env t = some (.agg cs.toArray) := by exact rfl) : G n env b ps hp K :=
  have _ := hk
  h cs rfl
theorem nmB (t : Nat) {bl o len cap : Nat} {q : Option Addr} (h : ∀ b' : Nat, b' = bl → G n env b ps hp K) (hk : RX.lk env t = some (.slice q len cap) := by exact rfl) (hq : q = some ⟨bl, o, none⟩ := by exact rfl) : G n env b ps hp K :=
  have _ := hk
  have _ := hq
  h bl rfl
/-- The same, under another name. -/
theorem agZ (t : Nat) {α : Type} {e : Ty α} {cs : List Value} {y : α} (z : α) (h : G n env b (Ag e cs z :: ps) hp K) (hk : RX.lk env t = some (.agg cs.toArray) := by exact rfl) (hr : Reads ps (.agg cs.toArray) e y := by first | exact Go.GX.Rds.r) (hz : y = z := by exact rfl) : G n env b ps hp K :=
  agT t (hz ▸ h) hk hr
section leave
variable {fn : Func} {σ : Type} {val : σ → Value} {ps' : σ → List Pf} {hp' : σ → List Res}
theorem run_cell {w : World} {t : TypeId} {bl sz : Nat} {cs : List Value} [h : UAgg P t] [hs : USize P t sz] (hl : cs.length = sz) (hc : CellsAt w bl 0 cs) : (loadVar t ⟨bl, 0, none⟩).run P w = .ok (.agg cs.toArray) w := by
  subst hl
  have := run_loadCells_list (P := P) w ⟨bl, 0, none⟩ cs (fun j v hj => by rw [Addr.add_lit]; exact hc j v hj)
  simp [loadVar, h.a, hs.s, this]
/-- A struct that lies in a variable, and a value, are handed back. -/
theorem rt2B {α : Type} {e : Ty α} {y : α} {rest : List Res} {a u : Tmp} {t : TypeId} {bl sz : Nat} {x : Value} [UAgg P t] [USize P t sz] (s : List Value → σ) (hv : ∀ cs, val (s cs) = .tuple #[.agg cs.toArray, x])
    (hr : fn.results = #[.cell a t, .tmp u] := by exact rfl) (hk : RX.lk env a = some (.pointer (some ⟨bl, 0, none⟩)) := by exact rfl) (hk2 : RX.lk env u = some x := by exact rfl) (hl : Look bl 0 ps hp e 0 y := by exact inferInstance) (hsz : e.size = sz := by exact rfl)
    (h1 : ∀ cs, AllIn (ps' (s cs)) (Ag e cs y :: ps) := by intro cs; first | ((repeat (first | apply Go.GX.AllIn.nil | apply Go.GX.AllIn.cons | (with_reducible apply Go.GX.InP.head) | apply Go.GX.InP.tail)); done) | (repeat (first | apply Go.GX.AllIn.nil | apply Go.GX.AllIn.cons | apply Go.GX.InP.head | apply Go.GX.InP.tail)))
    (h2 : ∀ cs, SelR (hp' (s cs)) hp rest := by intro cs; first | ((repeat (first | apply Go.GX.SelR.nil | apply Go.GX.SelR.cons | (with_reducible apply Go.GX.TakeR.head) | apply Go.GX.TakeR.tail)); done) | (repeat (first | apply Go.GX.SelR.nil | apply Go.GX.SelR.cons | apply Go.GX.TakeR.head | apply Go.GX.TakeR.tail))) : G n env b ps hp (Post P fn b val ps' hp' .ret) := by
  constructor
  rintro w ⟨F, st⟩
  obtain ⟨o, cs, ho, hc, hrd, _⟩ := hl.look st.fs st.rs
  have ho : o = 0 := by omega
  subst ho
  have hrun := run_cell (P := P) (t := t) (sz := sz) (by rw [e.len hrd, hsz]) hc
  refine ⟨fun a' ha => bodyPost_ret (v := .tuple #[.agg cs.toArray, x]) ?_ ha.defers ⟨s cs, by rw [hv], F, St.sel (ps := Ag e cs y :: ps) ⟨st.upd, st.lt, st.old, ?_, st.rs, st.apF, st.apart, st.on⟩ (h1 cs) (h2 cs)⟩⟩
  · have g1 := ha.get _ _ hk
    have g2 := ha.get _ _ hk2
    simp [results, hr, g1, g2, asAddr, hrun]
  · intro p hp
    rcases List.mem_cons.1 hp with rfl | hp
    · exact hrd
    · exact st.fs p hp
/-- A struct that lies in a variable is handed back. -/
theorem rt1B {α : Type} {e : Ty α} {y : α} {rest : List Res} {a : Tmp} {t : TypeId} {bl sz : Nat} [UAgg P t] [USize P t sz] (s : List Value → σ) (hv : ∀ cs, val (s cs) = .agg cs.toArray)
    (hr : fn.results = #[.cell a t] := by exact rfl) (hk : RX.lk env a = some (.pointer (some ⟨bl, 0, none⟩)) := by exact rfl) (hl : Look bl 0 ps hp e 0 y := by exact inferInstance) (hsz : e.size = sz := by exact rfl)
    (h1 : ∀ cs, AllIn (ps' (s cs)) (Ag e cs y :: ps) := by intro cs; first | ((repeat (first | apply Go.GX.AllIn.nil | apply Go.GX.AllIn.cons | (with_reducible apply Go.GX.InP.head) | apply Go.GX.InP.tail)); done) | (repeat (first | apply Go.GX.AllIn.nil | apply Go.GX.AllIn.cons | apply Go.GX.InP.head | apply Go.GX.InP.tail)))
    (h2 : ∀ cs, SelR (hp' (s cs)) hp rest := by intro cs; first | ((repeat (first | apply Go.GX.SelR.nil | apply Go.GX.SelR.cons | (with_reducible apply Go.GX.TakeR.head) | apply Go.GX.TakeR.tail)); done) | (repeat (first | apply Go.GX.SelR.nil | apply Go.GX.SelR.cons | apply Go.GX.TakeR.head | apply Go.GX.TakeR.tail))) : G n env b ps hp (Post P fn b val ps' hp' .ret) := by
  constructor
  rintro w ⟨F, st⟩
  obtain ⟨o, cs, ho, hc, hrd, _⟩ := hl.look st.fs st.rs
  have ho : o = 0 := by omega
  subst ho
  have hrun := run_cell (P := P) (t := t) (sz := sz) (by rw [e.len hrd, hsz]) hc
  refine ⟨fun a' ha => bodyPost_ret (v := .agg cs.toArray) ?_ ha.defers ⟨s cs, by rw [hv], F, St.sel (ps := Ag e cs y :: ps) ⟨st.upd, st.lt, st.old, ?_, st.rs, st.apF, st.apart, st.on⟩ (h1 cs) (h2 cs)⟩⟩
  · have g1 := ha.get _ _ hk
    simp [results, hr, g1, asAddr, hrun]
  · intro p hp
    rcases List.mem_cons.1 hp with rfl | hp
    · exact hrd
    · exact st.fs p hp
end leave
/-- All of it, at the end. -/
theorem SelR.all (l : List Res) : SelR l l [] := by
  induction l with
  | nil => exact .nil
  | cons r l ih => exact .cons .head ih
theorem AllIn.refl (l : List Pf) : AllIn l l := by
  have key : ∀ m l : List Pf, (∀ p, InP p m → InP p l) → AllIn m l := by
    intro m
    induction m with
    | nil => intro l _; exact .nil
    | cons p m ih => intro l h; exact .cons (h p .head) (ih l fun q hq => h q (.tail hq))
  exact key l l (fun _ h => h)
/-- A fact that is at hand, kept for later use as one of its own. -/
theorem Does.morep {f : FuncId} {args : List Value} {ps1 : List Pf} {hp1 : List Res} {σ : Type} {val : σ → Value} {ps' : σ → List Pf} {hp' : σ → List Res} (hc : Does P f args ps1 hp1 val ps' hp') {ps2 : List Pf} (h : ∀ p ∈ ps1, p ∈ ps2) : Does P f args ps2 hp1 val ps' hp' :=
  ⟨fun w F b s => hc.run w F b (s.less h (List.Sublist.refl _))⟩
end
end Go.GX
