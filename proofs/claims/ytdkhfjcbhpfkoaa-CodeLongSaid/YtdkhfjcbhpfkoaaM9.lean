import Derived.Test.YtdkhfjcbhpfkoaaM8
import Derived.Laws.BytesArg
import Derived.Laws.Strings
/- Calls of values that are functions. No program in sight. -/
namespace Go.GX
open Go Go.RowKit Go.RR Go.RX
theorem get_lt {α : Type} {xs : List α} {i : Nat} (h : i < xs.length) : ∃ x, xs[i]? = some x := ⟨xs[i], List.getElem?_eq_getElem h⟩
section
variable {P : Program} {n : Nat} {env : Env} {b : Base} {ps : List Pf} {hp : List Res} {Q : Exit → Act → World → Prop} {K : Act → World → Prop}
section shapes
theorem s_list {ops : Array Oper} {l : List Oper} (h_ : G n env b ps hp (wpList P ops Q l)) : G n env b ps hp (wpList P ops Q l) := h_
theorem s_cond {c : Operand} {x y : Code} (h_ : G n env b ps hp ((Code.cond c x y).wp P Q)) : G n env b ps hp ((Code.cond c x y).wp P Q) := h_
theorem s_take {ops : Array Oper} {S : World → Prop} {hold : Nat → Bool} {i : Nat} {r : List (Nat × Bool)} (h_ : G n env b ps hp (wpPlan P ops Q S hold ((i, true) :: r))) : G n env b ps hp (wpPlan P ops Q S hold ((i, true) :: r)) := h_
theorem s_go {ops : Array Oper} {S : World → Prop} {hold : Nat → Bool} {i : Nat} {r : List (Nat × Bool)} (h_ : G n env b ps hp (wpPlan P ops Q S hold ((i, false) :: r))) : G n env b ps hp (wpPlan P ops Q S hold ((i, false) :: r)) := h_
theorem s_went {S : World → Prop} {hold : Nat → Bool} {i : Nat} (h_ : G n env b ps hp (Went S hold i K)) : G n env b ps hp (Went S hold i K) := h_
end shapes
/-- What comes behind is put out of sight, and is brought back when it is reached. -/
theorem seqK {x y : Code} (h : ∀ K0 : Act → World → Prop, K0 = y.wp P Q → G n env b ps hp (x.wp P (Exit.then K0 Q))) : G n env b ps hp ((Code.seq x y).wp P Q) := GX.seq (h _ rfl)
theorem reveal {K K' : Act → World → Prop} (h : G n env b ps hp K') (hk : K = K') : G n env b ps hp K := by rw [hk]; exact h
/-- How long a list is that is written out. -/
class IsLen {α : Type} (m : Nat) (xs : List α) : Prop where
  eq : m = xs.length
instance {α : Type} : IsLen 0 ([] : List α) := ⟨rfl⟩
instance {α : Type} (m : Nat) (x : α) (xs : List α) [h : IsLen m xs] : IsLen (m + 1) (x :: xs) := ⟨by rw [List.length_cons, h.eq]⟩
instance (priority := 500) {ps : List Pf} {α : Type} (ao : Option Addr) (cap m : Nat) (e : Ty α) (xs : List α) [FSl ao ps e cap xs] [h : IsLen m xs] : Rds ps (.slice ao m cap) (Ty.slice e) xs := ⟨.slice h.eq⟩
/-- A call of a function value, by the contract of the function behind it. -/
theorem callv {w : World} {d : Nat} {f : FuncId} {x : Operand} {xs : List Operand} {ts : Array TypeId} {ty : TypeId} {pos : String} {aft : Array Edge} {gd : Option (Nat × Bool)} {vs fs cs : List Value} {R : Ending → World → Prop} [hf : UFunc P f]
    (hx : ev env x = some (.func (.func f) fs.toArray cs.toArray)) (hxs : evs env xs = some vs) (hc : Calls P f (fs ++ (vs ++ cs)).toArray w R) (hd : Nat.blt d n = true) (h : ∀ e w', R e w' → ∃ v, e = .returned v ∧ E n ((d, v) :: env) w' K) :
    OW P n env w ⟨some d, .call { callee := .value x, args := xs.toArray, argTypes := ts }, ty, pos, aft, gd⟩ K Q := by
  constructor; intro a ha
  show Oper.upon P _ a K Q ((execOp a.eval _).run P w)
  have hr : (execOp a.eval ⟨some d, .call { callee := .value x, args := xs.toArray, argTypes := ts }, ty, pos, aft, gd⟩).run P w = .ok (.enter f (fs ++ (vs ++ cs)).toArray) w := by
    have he : (xs.toArray.map a.eval) = vs.toArray := by simp [ha.evs hxs]
    simp only [execOp, resolve, ha.ev hx, he]
    simp [Deferred.ofValue, invoke, hf.c]
  rw [hr]
  refine Calls.mono hc fun e w' hR => ?_
  obtain ⟨v, rfl, hk⟩ := h e w' hR
  exact hk.run _ (ha.put (d := d) v hd)
theorem callvG {d : Nat} {f : FuncId} {x : Operand} {xs : List Operand} {ts : Array TypeId} {ty : TypeId} {pos : String} {aft : Array Edge} {gd : Option (Nat × Bool)} {vs fs cs : List Value} [hf : UFunc P f] {ps1 : List Pf} {hp1 rest : List Res} {σ : Type} {val : σ → Value} {ps' : σ → List Pf} {hp' : σ → List Res}
    (hc : Does P f (fs ++ (vs ++ cs)) ps1 hp1 val ps' hp') (hx : ev env x = some (.func (.func f) fs.toArray cs.toArray)) (hxs : evs env xs = some vs) (hps : ∀ p ∈ ps1, p ∈ ps) (hl : hp.Perm (hp1 ++ rest)) (hd : Nat.blt d n = true) (h : ∀ s, G n ((d, val s) :: env) b (ps' s ++ ps) (hp' s ++ rest) K) :
    GO P n env b ps hp ⟨some d, .call { callee := .value x, args := xs.toArray, argTypes := ts }, ty, pos, aft, gd⟩ K Q := by
  constructor
  rintro w ⟨F, s⟩
  have s := s.perm hl
  refine callv hx hxs (hc.run w F b (s.less hps (List.sublist_append_left _ _))) hd ?_
  rintro e w' ⟨i, rfl, h'⟩
  obtain ⟨F', _, _, _, s'⟩ := s.act h'
  exact ⟨_, rfl, (h i).run w' ⟨F', s'⟩⟩
theorem clv {d : Nat} {f : FuncId} {x : Operand} {xs : List Operand} {ts : Array TypeId} {ty : TypeId} {pos : String} {aft : Array Edge} {gd : Option (Nat × Bool)} {vs fs cs : List Value} [hf : UFunc P f] {ps1 : List Pf} {hp1 rest : List Res} {σ : Type} {val : σ → Value} {ps' : σ → List Pf} {hp' : σ → List Res}
    {pz : σ → List Pf} {hz : σ → List Res} (hc : Does P f (fs ++ (vs ++ cs)) ps1 hp1 val ps' hp') (h : ∀ s, G n ((d, val s) :: env) b (pz s) (hz s) K)
    (hx : ev env x = some (.func (.func f) fs.toArray cs.toArray) := by exact rfl) (hxs : evs env xs = some vs := by exact rfl)
    (hps : AllIn ps1 ps := by first | ((repeat (first | apply Go.GX.AllIn.nil | apply Go.GX.AllIn.cons | (with_reducible apply Go.GX.InP.head) | apply Go.GX.InP.tail)); done) | (repeat (first | apply Go.GX.AllIn.nil | apply Go.GX.AllIn.cons | apply Go.GX.InP.head | apply Go.GX.InP.tail)))
    (hl : SelR hp1 hp rest := by first | ((repeat (first | apply Go.GX.SelR.nil | apply Go.GX.SelR.cons | (with_reducible apply Go.GX.TakeR.head) | apply Go.GX.TakeR.tail)); done) | (repeat (first | apply Go.GX.SelR.nil | apply Go.GX.SelR.cons | apply Go.GX.TakeR.head | apply Go.GX.TakeR.tail)))
    (a1 : ∀ s, App (ps' s) ps (pz s) := by intro s; exact inferInstance) (a2 : ∀ s, App (hp' s) rest (hz s) := by intro s; exact inferInstance) (hd : Nat.blt d n = true := by exact rfl) :
    GO P n env b ps hp ⟨some d, .call { callee := .value x, args := xs.toArray, argTypes := ts }, ty, pos, aft, gd⟩ K Q := callvG hc hx hxs hps.sub hl.perm hd (fun s => by rw [← (a1 s).eq, ← (a2 s).eq]; exact h s)
/-- Where all that is one's own is handed on, and comes back as it was; the facts that are wanted stand at the end. -/
theorem clvA {d : Nat} {f : FuncId} {x : Operand} {xs : List Operand} {ts : Array TypeId} {ty : TypeId} {pos : String} {aft : Array Edge} {gd : Option (Nat × Bool)} {vs fs cs : List Value} [hf : UFunc P f] {ps1 : List Pf} {σ : Type} {val : σ → Value}
    (hc : Does P f (fs ++ (vs ++ cs)) ps1 hp val (fun _ => []) (fun _ => hp)) (h : ∀ s, G n ((d, val s) :: env) b ps hp K)
    (hx : ev env x = some (.func (.func f) fs.toArray cs.toArray) := by exact rfl) (hxs : evs env xs = some vs := by exact rfl)
    (hps : Suf ps1 ps := by repeat (first | (with_reducible apply Go.GX.Suf.refl) | apply Go.GX.Suf.tail)) (hd : Nat.blt d n = true := by exact rfl) :
    GO P n env b ps hp ⟨some d, .call { callee := .value x, args := xs.toArray, argTypes := ts }, ty, pos, aft, gd⟩ K Q :=
  callvG (rest := []) hc hx hxs hps.sub (by rw [List.append_nil]) hd (fun s => by rw [List.nil_append, List.append_nil]; exact h s)
theorem clA {d : Nat} {f : FuncId} {xs : List Operand} {ts : Array TypeId} {ty : TypeId} {pos : String} {aft : Array Edge} {gd : Option (Nat × Bool)} {vs : List Value} [hf : UFunc P f] {ps1 : List Pf} {σ : Type} {val : σ → Value}
    (hc : Does P f vs ps1 hp val (fun _ => []) (fun _ => hp)) (h : ∀ s, G n ((d, val s) :: env) b ps hp K) (hxs : evs env xs = some vs := by exact rfl)
    (hps : Suf ps1 ps := by repeat (first | (with_reducible apply Go.GX.Suf.refl) | apply Go.GX.Suf.tail)) (hd : Nat.blt d n = true := by exact rfl) :
    GO P n env b ps hp ⟨some d, .call { callee := .value (.func f), args := xs.toArray, argTypes := ts }, ty, pos, aft, gd⟩ K Q :=
  call hc hxs hps.sub (rest := []) (by rw [List.append_nil]) hd (fun s => by rw [List.nil_append, List.append_nil]; exact h s)
/-- Nothing is a slice that stays. -/
theorem slNil {α : Type} (e : Ty α) (h : G n env b (Sl e none 0 [] :: ps) hp K) : G n env b ps hp K := by
  constructor
  rintro w ⟨F, s⟩
  refine h.run w ⟨F, s.upd, s.lt, s.old, fun p hp => ?_, s.rs, s.apF, s.apart, s.on⟩
  rcases List.mem_cons.1 hp with rfl | hp
  · exact ⟨by simp, by omega, nil_at⟩
  · exact s.fs p hp
/-- A number in a variable that is not turned from now on. -/
theorem frzN (bl : Nat) {t : TypeId} {vs : List Value} {k : IntKind} {m : Int} {rest : List Res} [hf : FRow bl hp t vs rest] (h : G n env b (Pt (Ty.num k) bl 0 m :: ps) rest K) (hv : vs = [.int k m] := by exact rfl) : G n env b ps hp K := frz_st hf.p (fun F w h => by
  have h1 : Row w bl t vs := h
  subst hv
  exact ⟨.inr rfl, h1.lt, _, fun j c hj => by rw [Nat.zero_add]; exact h1.cell_some hj, rfl⟩) h
/-- A new variable, zero, as a row of cells. -/
theorem alR {d : Nat} {ty : TypeId} {pos : String} {aft : Array Edge} {gd : Option (Nat × Bool)} {t : TypeId} {z : Value} {vs : List Value} [hz : UZero P t z] (h : ∀ bl, G n ((d, .pointer (some ⟨bl, 0, none⟩)) :: env) b ps (RowR bl t vs :: hp) K) (hv : z.cells.toList = vs := by exact rfl) (hd : Nat.blt d n = true := by exact rfl) : GO P n env b ps hp ⟨some d, .alloc t, ty, pos, aft, gd⟩ K Q := by
  subst hv
  refine Acts.use (hp1 := []) (rest := hp) (ι := Nat) (val := fun bl => .pointer (some ⟨bl, 0, none⟩)) (pf := fun bl => []) (hr := fun bl => [RowR bl t z.cells.toList]) ?_ (List.Perm.refl _) h
  intro F w K Q b s hk
  exact RX.alloc hd (fun bl w' hb hr hu => hk bl w' (mkOkN s hu hr (fun k hk => by have hk : k = bl := hk; omega)))
/-- Over a whole row of cells. -/
theorem stRW {bl sz : Nat} {ty : TypeId} {pos : String} {aft : Array Edge} {gd : Option (Nat × Bool)} {t te : TypeId} {x y : Operand} {cs vs : List Value} {rest : List Res} [hs : USize P t sz] (h : G n env b ps (RowR bl te cs :: rest) K)
    (hx : ev env x = some (.pointer (some ⟨bl, 0, none⟩)) := by exact rfl) (hy : ev env y = some (.agg cs.toArray) := by exact rfl) (hf : FRow bl hp te vs rest := by exact inferInstance) (hl : cs.length = sz := by exact rfl) (hl2 : vs.length = sz := by exact rfl) (h1 : cs.all (·.oneCell') = true := by exact rfl) : GO P n env b ps hp ⟨none, .store t x y, ty, pos, aft, gd⟩ K Q := by
  subst hl
  refine Acts.use (hp1 := [RowR bl te vs]) (ι := Unit) (val := fun _ => undef) (pf := fun _ => []) (hr := fun _ => [RowR bl te cs]) ?_ hf.p (fun _ => h)
  intro F w K Q b s hk
  have h2 : Row w bl te vs := s.rs (RowR bl te vs) (by simp)
  refine store_cells hx hy (by simp [Value.cells]) h2 (fun u hu => List.all_eq_true.1 h1 u hu) (by omega) (fun w' hrow hu => hk () w' (mkOk1 s hu ?_ (fun k hk _ => hk)))
  have e : over vs 0 cs = cs := by unfold over; rw [List.drop_of_length_le (by omega)]; simp
  rw [e] at hrow; exact hrow
/-- What some cells read as, as a fact. -/
theorem agI {α : Type} {e : Ty α} {cs : List Value} {y : α} (h : G n env b (Ag e cs y :: ps) hp K) (hr : Reads ps (.agg cs.toArray) e y := by first | exact Go.GX.Rds.r) : G n env b ps hp K := by
  constructor
  rintro w ⟨F, s⟩
  refine h.run w ⟨F, s.upd, s.lt, s.old, ?_, s.rs, s.apF, s.apart, s.on⟩
  intro p hp
  rcases List.mem_cons.1 hp with rfl | hp
  · have h1 : e.rd F w (Value.agg cs.toArray).cells.toList y := hr.as F w s.fs
    have h2 : (Value.agg cs.toArray).cells.toList = cs := by simp [Value.cells]
    rw [h2] at h1; exact h1
  · exact s.fs p hp
/-- The same, of a slot. -/
theorem agT (t : Nat) {α : Type} {e : Ty α} {cs : List Value} {y : α} (h : G n env b (Ag e cs y :: ps) hp K) (hk : RX.lk env t = some (.agg cs.toArray) := by exact rfl) (hr : Reads ps (.agg cs.toArray) e y := by first | exact Go.GX.Rds.r) : G n env b ps hp K :=
  have _ := hk
  agI h hr
/-- Names for what a slot holds. -/
theorem nmP (t : Nat) {bl o : Nat} {q : Option Addr} (h : ∀ b' : Nat, b' = bl → G n env b ps hp K) (hk : RX.lk env t = some (.pointer q) := by exact rfl) (hq : q = some ⟨bl, o, none⟩ := by exact rfl) : G n env b ps hp K :=
  have _ := hk
  have _ := hq
  h bl rfl
theorem nmS (t : Nat) {ao : Option Addr} {len cap : Nat} (h : ∀ (a' : Option Addr) (c' : Nat), a' = ao → c' = cap → G n env b ps hp K) (hk : RX.lk env t = some (.slice ao len cap) := by exact rfl) : G n env b ps hp K :=
  have _ := hk
  h ao cap rfl rfl
theorem nmA (t : Nat) {cs : List Value} (h : ∀ c' : List Value, c' = cs → G n env b ps hp K) (hk : RX.lk env t = some (.agg cs.toArray) := by exact rfl) : G n env b ps hp K :=
  have _ := hk
  h cs rfl
theorem nmB (t : Nat) {bl o len cap : Nat} {q : Option Addr} (h : ∀ b' : Nat, b' = bl → G n env b ps hp K) (hk : RX.lk env t = some (.slice q len cap) := by exact rfl) (hq : q = some ⟨bl, o, none⟩ := by exact rfl) : G n env b ps hp K :=
  have _ := hk
  have _ := hq
  h bl rfl
/-- The same, under another name. -/
theorem agZ (t : Nat) {α : Type} {e : Ty α} {cs : List Value} {y : α} (z : α) (h : G n env b (Ag e cs z :: ps) hp K) (hk : RX.lk env t = some (.agg cs.toArray) := by exact rfl) (hr : Reads ps (.agg cs.toArray) e y := by first | exact Go.GX.Rds.r) (hz : y = z := by exact rfl) : G n env b ps hp K :=
  agT t (hz ▸ h) hk hr
section leave
variable {fn : Func} {σ : Type} {val : σ → Value} {ps' : σ → List Pf} {hp' : σ → List Res}
theorem run_cell {w : World} {t : TypeId} {bl sz : Nat} {cs : List Value} [h : UAgg P t] [hs : USize P t sz] (hl : cs.length = sz) (hc : CellsAt w bl 0 cs) : (loadVar t ⟨bl, 0, none⟩).run P w = .ok (.agg cs.toArray) w := by
  subst hl
  have := run_loadCells_list (P := P) w ⟨bl, 0, none⟩ cs (fun j v hj => by rw [Addr.add_lit]; exact hc j v hj)
  simp [loadVar, h.a, hs.s, this]
/-- A struct that lies in a variable, and a value, are handed back. -/
theorem rt2B {α : Type} {e : Ty α} {y : α} {rest : List Res} {a u : Tmp} {t : TypeId} {bl sz : Nat} {x : Value} [UAgg P t] [USize P t sz] (s : List Value → σ) (hv : ∀ cs, val (s cs) = .tuple #[.agg cs.toArray, x])
    (hr : fn.results = #[.cell a t, .tmp u] := by exact rfl) (hk : RX.lk env a = some (.pointer (some ⟨bl, 0, none⟩)) := by exact rfl) (hk2 : RX.lk env u = some x := by exact rfl) (hl : Look bl 0 ps hp e 0 y := by exact inferInstance) (hsz : e.size = sz := by exact rfl)
    (h1 : ∀ cs, AllIn (ps' (s cs)) (Ag e cs y :: ps) := by intro cs; first | ((repeat (first | apply Go.GX.AllIn.nil | apply Go.GX.AllIn.cons | (with_reducible apply Go.GX.InP.head) | apply Go.GX.InP.tail)); done) | (repeat (first | apply Go.GX.AllIn.nil | apply Go.GX.AllIn.cons | apply Go.GX.InP.head | apply Go.GX.InP.tail)))
    (h2 : ∀ cs, SelR (hp' (s cs)) hp rest := by intro cs; first | ((repeat (first | apply Go.GX.SelR.nil | apply Go.GX.SelR.cons | (with_reducible apply Go.GX.TakeR.head) | apply Go.GX.TakeR.tail)); done) | (repeat (first | apply Go.GX.SelR.nil | apply Go.GX.SelR.cons | apply Go.GX.TakeR.head | apply Go.GX.TakeR.tail))) : G n env b ps hp (Post P fn b val ps' hp' .ret) := by
  constructor
  rintro w ⟨F, st⟩
  obtain ⟨o, cs, ho, hc, hrd, _⟩ := hl.look st.fs st.rs
  have ho : o = 0 := by omega
  subst ho
  have hrun := run_cell (P := P) (t := t) (sz := sz) (by rw [e.len hrd, hsz]) hc
  refine ⟨fun a' ha => bodyPost_ret (v := .tuple #[.agg cs.toArray, x]) ?_ ha.defers ⟨s cs, by rw [hv], F, St.sel (ps := Ag e cs y :: ps) ⟨st.upd, st.lt, st.old, ?_, st.rs, st.apF, st.apart, st.on⟩ (h1 cs) (h2 cs)⟩⟩
  · have g1 := ha.get _ _ hk
    have g2 := ha.get _ _ hk2
    simp [results, hr, g1, g2, asAddr, hrun]
  · intro p hp
    rcases List.mem_cons.1 hp with rfl | hp
    · exact hrd
    · exact st.fs p hp
/-- A struct that lies in a variable is handed back. -/
theorem rt1B {α : Type} {e : Ty α} {y : α} {rest : List Res} {a : Tmp} {t : TypeId} {bl sz : Nat} [UAgg P t] [USize P t sz] (s : List Value → σ) (hv : ∀ cs, val (s cs) = .agg cs.toArray)
    (hr : fn.results = #[.cell a t] := by exact rfl) (hk : RX.lk env a = some (.pointer (some ⟨bl, 0, none⟩)) := by exact rfl) (hl : Look bl 0 ps hp e 0 y := by exact inferInstance) (hsz : e.size = sz := by exact rfl)
    (h1 : ∀ cs, AllIn (ps' (s cs)) (Ag e cs y :: ps) := by intro cs; first | ((repeat (first | apply Go.GX.AllIn.nil | apply Go.GX.AllIn.cons | (with_reducible apply Go.GX.InP.head) | apply Go.GX.InP.tail)); done) | (repeat (first | apply Go.GX.AllIn.nil | apply Go.GX.AllIn.cons | apply Go.GX.InP.head | apply Go.GX.InP.tail)))
    (h2 : ∀ cs, SelR (hp' (s cs)) hp rest := by intro cs; first | ((repeat (first | apply Go.GX.SelR.nil | apply Go.GX.SelR.cons | (with_reducible apply Go.GX.TakeR.head) | apply Go.GX.TakeR.tail)); done) | (repeat (first | apply Go.GX.SelR.nil | apply Go.GX.SelR.cons | apply Go.GX.TakeR.head | apply Go.GX.TakeR.tail))) : G n env b ps hp (Post P fn b val ps' hp' .ret) := by
  constructor
  rintro w ⟨F, st⟩
  obtain ⟨o, cs, ho, hc, hrd, _⟩ := hl.look st.fs st.rs
  have ho : o = 0 := by omega
  subst ho
  have hrun := run_cell (P := P) (t := t) (sz := sz) (by rw [e.len hrd, hsz]) hc
  refine ⟨fun a' ha => bodyPost_ret (v := .agg cs.toArray) ?_ ha.defers ⟨s cs, by rw [hv], F, St.sel (ps := Ag e cs y :: ps) ⟨st.upd, st.lt, st.old, ?_, st.rs, st.apF, st.apart, st.on⟩ (h1 cs) (h2 cs)⟩⟩
  · have g1 := ha.get _ _ hk
    simp [results, hr, g1, asAddr, hrun]
  · intro p hp
    rcases List.mem_cons.1 hp with rfl | hp
    · exact hrd
    · exact st.fs p hp
end leave
/-- All of it, at the end. -/
theorem SelR.all (l : List Res) : SelR l l [] := by
  induction l with
  | nil => exact .nil
  | cons r l ih => exact .cons .head ih
theorem AllIn.refl (l : List Pf) : AllIn l l := by
  have key : ∀ m l : List Pf, (∀ p, InP p m → InP p l) → AllIn m l := by
    intro m
    induction m with
    | nil => intro l _; exact .nil
    | cons p m ih => intro l h; exact .cons (h p .head) (ih l fun q hq => h q (.tail hq))
  exact key l l (fun _ h => h)
/-- A fact that is at hand, kept for later use as one of its own. -/
theorem Does.morep {f : FuncId} {args : List Value} {ps1 : List Pf} {hp1 : List Res} {σ : Type} {val : σ → Value} {ps' : σ → List Pf} {hp' : σ → List Res} (hc : Does P f args ps1 hp1 val ps' hp') {ps2 : List Pf} (h : ∀ p ∈ ps1, p ∈ ps2) : Does P f args ps2 hp1 val ps' hp' :=
  ⟨fun w F b s => hc.run w F b (s.less h (List.Sublist.refl _))⟩
end
end Go.GX

/- Shifts, bits and conversions of numbers. Written by wip/gbit.py. No program in sight. -/
namespace Go.GX
open Go Go.RowKit Go.RR Go.RX
def shlV (k : IntKind) (i c : Int) : Int := k.wrap (i * 2 ^ (min c.toNat k.bits))
def shrV (k : IntKind) (i c : Int) : Int := i.fdiv (2 ^ (min c.toNat k.bits))
def bAnd (k : IntKind) (i j : Int) : Int := k.wrap ((BitVec.ofInt k.bits i &&& BitVec.ofInt k.bits j).toNat)
def bOr (k : IntKind) (i j : Int) : Int := k.wrap ((BitVec.ofInt k.bits i ||| BitVec.ofInt k.bits j).toNat)
def bNot (k : IntKind) (i j : Int) : Int := k.wrap ((BitVec.ofInt k.bits i &&& ~~~(BitVec.ofInt k.bits j)).toNat)
def cplV (k : IntKind) (i : Int) : Int := k.wrap ((BitVec.ofInt k.bits (if k.signed then -1 else k.max) ^^^ BitVec.ofInt k.bits i).toNat)
def strEq (u v : ByteArray) : Bool := u.toList == v.toList
def strNe (u v : ByteArray) : Bool := !strEq u v
theorem strEq_self (u : ByteArray) : strEq u u = true := by unfold strEq; simp
theorem strNe_self (u : ByteArray) : strNe u u = false := by unfold strNe; rw [strEq_self]; rfl
theorem strEq_nums {xs ys : List Int} (hx : ∀ x ∈ xs, 0 ≤ x ∧ x ≤ 255) (hy : ∀ x ∈ ys, 0 ≤ x ∧ x ≤ 255) : strEq (strOfNums xs) (strOfNums ys) = decide (xs = ys) := by
  unfold strEq
  rw [ByteArray.toList_eq, ByteArray.toList_eq, strOfNums_data, strOfNums_data, Bool.eq_iff_iff, beq_iff_eq, decide_eq_true_iff]
  constructor
  · intro h
    have inj : ∀ (l m : List Int), (∀ x ∈ l, 0 ≤ x ∧ x ≤ 255) → (∀ x ∈ m, 0 ≤ x ∧ x ≤ 255) → (l.map fun n => UInt8.ofNat n.toNat) = (m.map fun n => UInt8.ofNat n.toNat) → l = m := by
      intro l
      induction l with
      | nil => intro m _ _ h; simpa using h.symm
      | cons x l ih =>
        intro m hl hm h
        cases m with
        | nil => simp at h
        | cons y m =>
          simp only [List.map_cons, List.cons.injEq] at h
          have h1 := congrArg UInt8.toNat h.1
          have hx := hl x (by simp)
          have hy := hm y (by simp)
          simp only [UInt8.toNat_ofNat'] at h1
          have : x = y := by omega
          rw [this, ih m (fun z hz => hl z (by simp [hz])) (fun z hz => hm z (by simp [hz])) h.2]
    exact inj _ _ hx hy h
  · intro h; rw [h]
section
variable {P : Program} {n : Nat} {env : Env} {b : Base} {ps : List Pf} {hp : List Res} {Q : Exit → Act → World → Prop} {K : Act → World → Prop}
section sems
variable {S : World → Prop} {t t' : TypeId} {x y : Operand}
theorem shl_v {k k2 : IntKind} {i c : Int} (hx : ev env x = some (.int k i)) (hy : ev env y = some (.int k2 c)) (hb : 0 ≤ c) : Soft P n env S (.binOp .shl t x y t') (.int k (shlV k i c)) := fun a ha o ho w _ => by
  simp [execOp, ho, ha.ev hx, ha.ev hy, eqGuard, binOp, Op.shift, shlV, Int.not_lt.2 hb]
theorem shr_v {k k2 : IntKind} {i c : Int} (hx : ev env x = some (.int k i)) (hy : ev env y = some (.int k2 c)) (hb : 0 ≤ c) : Soft P n env S (.binOp .shr t x y t') (.int k (shrV k i c)) := fun a ha o ho w _ => by
  simp [execOp, ho, ha.ev hx, ha.ev hy, eqGuard, binOp, Op.shift, shrV, Int.not_lt.2 hb]
theorem and_v {k : IntKind} {i j : Int} (hx : ev env x = some (.int k i)) (hy : ev env y = some (.int k j)) : Soft P n env S (.binOp .and t x y t') (.int k (bAnd k i j)) := fun a ha o ho w _ => by
  simp [execOp, ho, ha.ev hx, ha.ev hy, eqGuard_at_int, binOp, Op.intBits, bAnd]
theorem or_v {k : IntKind} {i j : Int} (hx : ev env x = some (.int k i)) (hy : ev env y = some (.int k j)) : Soft P n env S (.binOp .or t x y t') (.int k (bOr k i j)) := fun a ha o ho w _ => by
  simp [execOp, ho, ha.ev hx, ha.ev hy, eqGuard_at_int, binOp, Op.intBits, bOr]
theorem andNot_v {k : IntKind} {i j : Int} (hx : ev env x = some (.int k i)) (hy : ev env y = some (.int k j)) : Soft P n env S (.binOp .andNot t x y t') (.int k (bNot k i j)) := fun a ha o ho w _ => by
  simp [execOp, ho, ha.ev hx, ha.ev hy, eqGuard_at_int, binOp, Op.intBits, bNot]
theorem cpl_v {k : IntKind} {i : Int} (hx : ev env x = some (.int k i)) : Soft P n env S (.unOp .xor t x) (.int k (cplV k i)) := fun a ha o ho w _ => by
  simp [execOp, ho, ha.ev hx, Op.unary, Op.intBits, cplV]
theorem cv_v {k0 k1 k : IntKind} {i : Int} [h0 : UInt P t k0] [h1 : UInt P t' k] (hx : ev env x = some (.int k1 i)) : Soft P n env S (.convert t t' x) (.int k (k.wrap i)) := fun a ha o ho w _ => by
  simp [execOp, ho, ha.ev hx, convert, run_underlying h0.u, run_underlying h1.u, Conv.intToInt]
theorem seql_v {u v : ByteArray} [h : UString P t] (hx : ev env x = some (.string u)) (hy : ev env y = some (.string v)) : Soft P n env S (.binOp .eql t x y t') (.bool (strEq u v)) := fun a ha o ho w _ => by
  simp [execOp, ho, ha.ev hx, ha.ev hy, eqGuard, binOp, Op.stringOp, strEq]
theorem sneq_v {u v : ByteArray} [h : UString P t] (hx : ev env x = some (.string u)) (hy : ev env y = some (.string v)) : Soft P n env S (.binOp .neq t x y t') (.bool (strNe u v)) := fun a ha o ho w _ => by
  simp [execOp, ho, ha.ev hx, ha.ev hy, eqGuard, binOp, Op.stringOp, bne, strNe, strEq]
theorem cvs_rd {ao : Option Addr} {cap cap' m : Nat} {xs : List Int} {et : TypeId} [ht : USlice P t et] [he : UInt P et .u8] [hs : UString P t'] [hf : FSl ao ps Ty.byte cap xs] (hx : ev env x = some (.slice ao m cap')) (hm : m = xs.length) :
    Rd P n env ps hp (.convert t t' x) (fun _ : Unit => .string (strOfNums xs)) (fun _ => []) := fun F w h1 h2 => by
  subst hm
  obtain ⟨hc, hb, hsl⟩ : (Sl Ty.byte ao cap xs).says F w := h1 _ hf.mem
  refine ⟨(), fun p hp => by simp at hp, fun a ha o ho w' hag => ?_⟩
  have h3 : SlAt Ty.byte (fun k => F k ∨ feet hp k) w' ao xs := (hsl.move (fun _ _ h => .inl h) (Agree.refl _ _)).move (fun _ _ h => h) hag
  have key : (convert t t' (.slice ao xs.length cap')).run P w' = .ok (.string (strOfNums xs)) w' := by
    cases ao with
    | none =>
      have hx0 : xs = [] := by
        cases xs with
        | nil => rfl
        | cons x l => obtain ⟨b, o, cs, h, _⟩ := h3 0 x (by simp); cases h
      subst hx0
      exact run_convert_bytes_nil w' t et ht.u he.u _ _ t' hs.u
    | some a =>
      have hl : (loadCells a xs.length).run P w' = .ok (xs.map (Value.int .u8)).toArray w' := by
        have := run_loadCells_list (P := P) w' a (xs.map (Value.int .u8)) (fun j v hj => by
          rw [List.getElem?_map] at hj
          obtain ⟨x, hxj, rfl⟩ := Option.map_eq_some_iff.1 hj
          obtain ⟨b, o, cs, h4, h5, h6, h7, h8⟩ := h3 j x hxj
          have h8 : cs = [.int .u8 x] := h8
          cases h4
          have hone : (Ty.byte).size = 1 := rfl
          rw [hone, Nat.mul_one, h8] at h7
          have hplain : (⟨b, o, none⟩ : Addr).add j = ⟨b, o + j, none⟩ := Addr.add_lit _ _ _
          rw [hplain]
          have := h7 0 _ rfl
          simpa using this)
        simpa using this
      rw [run_convert_bytes_string w' t t' et _ _ _ ht.u he.u hs.u, run_bytesToString w' _ _ _ xs hl, foldl_push_bytes]
      simp [strOfNums, ByteArray.empty, ByteArray.emptyWithCapacity]
      rfl
  simp [execOp, ho, ha.ev hx, key]
end sems
theorem b_shl {t t' : TypeId} {x y : Operand} {k k2 : IntKind} {i c : Int} {d : Nat} {ty : TypeId} {pos : String} {aft : Array Edge} {gd : Option (Nat × Bool)} (h : G n ((d, .int k (shlV k i c)) :: env) b ps hp K) (hx : ev env x = some (.int k i) := by exact rfl) (hy : ev env y = some (.int k2 c) := by exact rfl) (hb : 0 ≤ c := by omega)  (hd : Nat.blt d n = true := by exact rfl) : GO P n env b ps hp ⟨some d, .binOp .shl t x y t', ty, pos, aft, gd⟩ K Q := rd1 (shl_v hx hy hb) hd h
theorem tb_shl {t t' : TypeId} {x y : Operand} {k k2 : IntKind} {i c : Int} {d : Nat} {ty : TypeId} {pos : String} {aft : Array Edge} {gd : Option (Nat × Bool)} (h : G n ((d, .int k (shlV k i c)) :: env) b ps hp K) (hx : ev env x = some (.int k i) := by exact rfl) (hy : ev env y = some (.int k2 c) := by exact rfl) (hb : 0 ≤ c := by omega)  (hd : Nat.blt d n = true := by exact rfl) : GT P n env b ps hp ⟨some d, .binOp .shl t x y t', ty, pos, aft, gd⟩ K := tp1 (shl_v hx hy hb) hd h
theorem rb_shl {t t' : TypeId} {x y : Operand} {k k2 : IntKind} {i c : Int} {d : Nat} {ty : TypeId} {pos : String} {aft : Array Edge} {gd : Option (Nat × Bool)} {psW : List Pf} {hpS : List Res} {wd : World} {F : Nat → Prop} (h : G n ((d, .int k (shlV k i c)) :: env) b ps hp K) (hx : ev env x = some (.int k i) := by exact rfl) (hy : ev env y = some (.int k2 c) := by exact rfl) (hb : 0 ≤ c := by omega)  (hd : Nat.blt d n = true := by exact rfl) : GTR P n env psW hpS wd F b ps hp K ⟨some d, .binOp .shl t x y t', ty, pos, aft, gd⟩ := .v (.of_soft fun _ => shl_v hx hy hb) hd h
theorem b_shr {t t' : TypeId} {x y : Operand} {k k2 : IntKind} {i c : Int} {d : Nat} {ty : TypeId} {pos : String} {aft : Array Edge} {gd : Option (Nat × Bool)} (h : G n ((d, .int k (shrV k i c)) :: env) b ps hp K) (hx : ev env x = some (.int k i) := by exact rfl) (hy : ev env y = some (.int k2 c) := by exact rfl) (hb : 0 ≤ c := by omega)  (hd : Nat.blt d n = true := by exact rfl) : GO P n env b ps hp ⟨some d, .binOp .shr t x y t', ty, pos, aft, gd⟩ K Q := rd1 (shr_v hx hy hb) hd h
theorem tb_shr {t t' : TypeId} {x y : Operand} {k k2 : IntKind} {i c : Int} {d : Nat} {ty : TypeId} {pos : String} {aft : Array Edge} {gd : Option (Nat × Bool)} (h : G n ((d, .int k (shrV k i c)) :: env) b ps hp K) (hx : ev env x = some (.int k i) := by exact rfl) (hy : ev env y = some (.int k2 c) := by exact rfl) (hb : 0 ≤ c := by omega)  (hd : Nat.blt d n = true := by exact rfl) : GT P n env b ps hp ⟨some d, .binOp .shr t x y t', ty, pos, aft, gd⟩ K := tp1 (shr_v hx hy hb) hd h
theorem rb_shr {t t' : TypeId} {x y : Operand} {k k2 : IntKind} {i c : Int} {d : Nat} {ty : TypeId} {pos : String} {aft : Array Edge} {gd : Option (Nat × Bool)} {psW : List Pf} {hpS : List Res} {wd : World} {F : Nat → Prop} (h : G n ((d, .int k (shrV k i c)) :: env) b ps hp K) (hx : ev env x = some (.int k i) := by exact rfl) (hy : ev env y = some (.int k2 c) := by exact rfl) (hb : 0 ≤ c := by omega)  (hd : Nat.blt d n = true := by exact rfl) : GTR P n env psW hpS wd F b ps hp K ⟨some d, .binOp .shr t x y t', ty, pos, aft, gd⟩ := .v (.of_soft fun _ => shr_v hx hy hb) hd h
theorem b_andv {t t' : TypeId} {x y : Operand} {k : IntKind} {i j : Int} {d : Nat} {ty : TypeId} {pos : String} {aft : Array Edge} {gd : Option (Nat × Bool)} (h : G n ((d, .int k (bAnd k i j)) :: env) b ps hp K) (hx : ev env x = some (.int k i) := by exact rfl) (hy : ev env y = some (.int k j) := by exact rfl)  (hd : Nat.blt d n = true := by exact rfl) : GO P n env b ps hp ⟨some d, .binOp .and t x y t', ty, pos, aft, gd⟩ K Q := rd1 (and_v hx hy) hd h
theorem tb_andv {t t' : TypeId} {x y : Operand} {k : IntKind} {i j : Int} {d : Nat} {ty : TypeId} {pos : String} {aft : Array Edge} {gd : Option (Nat × Bool)} (h : G n ((d, .int k (bAnd k i j)) :: env) b ps hp K) (hx : ev env x = some (.int k i) := by exact rfl) (hy : ev env y = some (.int k j) := by exact rfl)  (hd : Nat.blt d n = true := by exact rfl) : GT P n env b ps hp ⟨some d, .binOp .and t x y t', ty, pos, aft, gd⟩ K := tp1 (and_v hx hy) hd h
theorem rb_andv {t t' : TypeId} {x y : Operand} {k : IntKind} {i j : Int} {d : Nat} {ty : TypeId} {pos : String} {aft : Array Edge} {gd : Option (Nat × Bool)} {psW : List Pf} {hpS : List Res} {wd : World} {F : Nat → Prop} (h : G n ((d, .int k (bAnd k i j)) :: env) b ps hp K) (hx : ev env x = some (.int k i) := by exact rfl) (hy : ev env y = some (.int k j) := by exact rfl)  (hd : Nat.blt d n = true := by exact rfl) : GTR P n env psW hpS wd F b ps hp K ⟨some d, .binOp .and t x y t', ty, pos, aft, gd⟩ := .v (.of_soft fun _ => and_v hx hy) hd h
theorem b_orv {t t' : TypeId} {x y : Operand} {k : IntKind} {i j : Int} {d : Nat} {ty : TypeId} {pos : String} {aft : Array Edge} {gd : Option (Nat × Bool)} (h : G n ((d, .int k (bOr k i j)) :: env) b ps hp K) (hx : ev env x = some (.int k i) := by exact rfl) (hy : ev env y = some (.int k j) := by exact rfl)  (hd : Nat.blt d n = true := by exact rfl) : GO P n env b ps hp ⟨some d, .binOp .or t x y t', ty, pos, aft, gd⟩ K Q := rd1 (or_v hx hy) hd h
theorem tb_orv {t t' : TypeId} {x y : Operand} {k : IntKind} {i j : Int} {d : Nat} {ty : TypeId} {pos : String} {aft : Array Edge} {gd : Option (Nat × Bool)} (h : G n ((d, .int k (bOr k i j)) :: env) b ps hp K) (hx : ev env x = some (.int k i) := by exact rfl) (hy : ev env y = some (.int k j) := by exact rfl)  (hd : Nat.blt d n = true := by exact rfl) : GT P n env b ps hp ⟨some d, .binOp .or t x y t', ty, pos, aft, gd⟩ K := tp1 (or_v hx hy) hd h
theorem rb_orv {t t' : TypeId} {x y : Operand} {k : IntKind} {i j : Int} {d : Nat} {ty : TypeId} {pos : String} {aft : Array Edge} {gd : Option (Nat × Bool)} {psW : List Pf} {hpS : List Res} {wd : World} {F : Nat → Prop} (h : G n ((d, .int k (bOr k i j)) :: env) b ps hp K) (hx : ev env x = some (.int k i) := by exact rfl) (hy : ev env y = some (.int k j) := by exact rfl)  (hd : Nat.blt d n = true := by exact rfl) : GTR P n env psW hpS wd F b ps hp K ⟨some d, .binOp .or t x y t', ty, pos, aft, gd⟩ := .v (.of_soft fun _ => or_v hx hy) hd h
theorem b_andNotv {t t' : TypeId} {x y : Operand} {k : IntKind} {i j : Int} {d : Nat} {ty : TypeId} {pos : String} {aft : Array Edge} {gd : Option (Nat × Bool)} (h : G n ((d, .int k (bNot k i j)) :: env) b ps hp K) (hx : ev env x = some (.int k i) := by exact rfl) (hy : ev env y = some (.int k j) := by exact rfl)  (hd : Nat.blt d n = true := by exact rfl) : GO P n env b ps hp ⟨some d, .binOp .andNot t x y t', ty, pos, aft, gd⟩ K Q := rd1 (andNot_v hx hy) hd h
theorem tb_andNotv {t t' : TypeId} {x y : Operand} {k : IntKind} {i j : Int} {d : Nat} {ty : TypeId} {pos : String} {aft : Array Edge} {gd : Option (Nat × Bool)} (h : G n ((d, .int k (bNot k i j)) :: env) b ps hp K) (hx : ev env x = some (.int k i) := by exact rfl) (hy : ev env y = some (.int k j) := by exact rfl)  (hd : Nat.blt d n = true := by exact rfl) : GT P n env b ps hp ⟨some d, .binOp .andNot t x y t', ty, pos, aft, gd⟩ K := tp1 (andNot_v hx hy) hd h
theorem rb_andNotv {t t' : TypeId} {x y : Operand} {k : IntKind} {i j : Int} {d : Nat} {ty : TypeId} {pos : String} {aft : Array Edge} {gd : Option (Nat × Bool)} {psW : List Pf} {hpS : List Res} {wd : World} {F : Nat → Prop} (h : G n ((d, .int k (bNot k i j)) :: env) b ps hp K) (hx : ev env x = some (.int k i) := by exact rfl) (hy : ev env y = some (.int k j) := by exact rfl)  (hd : Nat.blt d n = true := by exact rfl) : GTR P n env psW hpS wd F b ps hp K ⟨some d, .binOp .andNot t x y t', ty, pos, aft, gd⟩ := .v (.of_soft fun _ => andNot_v hx hy) hd h
theorem u_cpl {t : TypeId} {x : Operand} {k : IntKind} {i : Int} {d : Nat} {ty : TypeId} {pos : String} {aft : Array Edge} {gd : Option (Nat × Bool)} (h : G n ((d, .int k (cplV k i)) :: env) b ps hp K) (hx : ev env x = some (.int k i) := by exact rfl)  (hd : Nat.blt d n = true := by exact rfl) : GO P n env b ps hp ⟨some d, .unOp .xor t x, ty, pos, aft, gd⟩ K Q := rd1 (cpl_v hx) hd h
theorem tu_cpl {t : TypeId} {x : Operand} {k : IntKind} {i : Int} {d : Nat} {ty : TypeId} {pos : String} {aft : Array Edge} {gd : Option (Nat × Bool)} (h : G n ((d, .int k (cplV k i)) :: env) b ps hp K) (hx : ev env x = some (.int k i) := by exact rfl)  (hd : Nat.blt d n = true := by exact rfl) : GT P n env b ps hp ⟨some d, .unOp .xor t x, ty, pos, aft, gd⟩ K := tp1 (cpl_v hx) hd h
theorem ru_cpl {t : TypeId} {x : Operand} {k : IntKind} {i : Int} {d : Nat} {ty : TypeId} {pos : String} {aft : Array Edge} {gd : Option (Nat × Bool)} {psW : List Pf} {hpS : List Res} {wd : World} {F : Nat → Prop} (h : G n ((d, .int k (cplV k i)) :: env) b ps hp K) (hx : ev env x = some (.int k i) := by exact rfl)  (hd : Nat.blt d n = true := by exact rfl) : GTR P n env psW hpS wd F b ps hp K ⟨some d, .unOp .xor t x, ty, pos, aft, gd⟩ := .v (.of_soft fun _ => cpl_v hx) hd h
theorem cv {t t' : TypeId} {x : Operand} {k0 k1 k : IntKind} {i : Int} [UInt P t k0] [UInt P t' k] {d : Nat} {ty : TypeId} {pos : String} {aft : Array Edge} {gd : Option (Nat × Bool)} (h : G n ((d, .int k (k.wrap i)) :: env) b ps hp K) (hx : ev env x = some (.int k1 i) := by exact rfl)  (hd : Nat.blt d n = true := by exact rfl) : GO P n env b ps hp ⟨some d, .convert t t' x, ty, pos, aft, gd⟩ K Q := rd1 (cv_v (k0 := k0) hx) hd h
theorem tcv {t t' : TypeId} {x : Operand} {k0 k1 k : IntKind} {i : Int} [UInt P t k0] [UInt P t' k] {d : Nat} {ty : TypeId} {pos : String} {aft : Array Edge} {gd : Option (Nat × Bool)} (h : G n ((d, .int k (k.wrap i)) :: env) b ps hp K) (hx : ev env x = some (.int k1 i) := by exact rfl)  (hd : Nat.blt d n = true := by exact rfl) : GT P n env b ps hp ⟨some d, .convert t t' x, ty, pos, aft, gd⟩ K := tp1 (cv_v (k0 := k0) hx) hd h
theorem rcv {t t' : TypeId} {x : Operand} {k0 k1 k : IntKind} {i : Int} [UInt P t k0] [UInt P t' k] {d : Nat} {ty : TypeId} {pos : String} {aft : Array Edge} {gd : Option (Nat × Bool)} {psW : List Pf} {hpS : List Res} {wd : World} {F : Nat → Prop} (h : G n ((d, .int k (k.wrap i)) :: env) b ps hp K) (hx : ev env x = some (.int k1 i) := by exact rfl)  (hd : Nat.blt d n = true := by exact rfl) : GTR P n env psW hpS wd F b ps hp K ⟨some d, .convert t t' x, ty, pos, aft, gd⟩ := .v (.of_soft fun _ => cv_v (k0 := k0) hx) hd h
theorem b_seq {t t' : TypeId} {x y : Operand} {u v : ByteArray} [UString P t] {d : Nat} {ty : TypeId} {pos : String} {aft : Array Edge} {gd : Option (Nat × Bool)} (h : G n ((d, .bool (strEq u v)) :: env) b ps hp K) (hx : ev env x = some (.string u) := by exact rfl) (hy : ev env y = some (.string v) := by exact rfl)  (hd : Nat.blt d n = true := by exact rfl) : GO P n env b ps hp ⟨some d, .binOp .eql t x y t', ty, pos, aft, gd⟩ K Q := rd1 (seql_v hx hy) hd h
theorem tb_seq {t t' : TypeId} {x y : Operand} {u v : ByteArray} [UString P t] {d : Nat} {ty : TypeId} {pos : String} {aft : Array Edge} {gd : Option (Nat × Bool)} (h : G n ((d, .bool (strEq u v)) :: env) b ps hp K) (hx : ev env x = some (.string u) := by exact rfl) (hy : ev env y = some (.string v) := by exact rfl)  (hd : Nat.blt d n = true := by exact rfl) : GT P n env b ps hp ⟨some d, .binOp .eql t x y t', ty, pos, aft, gd⟩ K := tp1 (seql_v hx hy) hd h
theorem rb_seq {t t' : TypeId} {x y : Operand} {u v : ByteArray} [UString P t] {d : Nat} {ty : TypeId} {pos : String} {aft : Array Edge} {gd : Option (Nat × Bool)} {psW : List Pf} {hpS : List Res} {wd : World} {F : Nat → Prop} (h : G n ((d, .bool (strEq u v)) :: env) b ps hp K) (hx : ev env x = some (.string u) := by exact rfl) (hy : ev env y = some (.string v) := by exact rfl)  (hd : Nat.blt d n = true := by exact rfl) : GTR P n env psW hpS wd F b ps hp K ⟨some d, .binOp .eql t x y t', ty, pos, aft, gd⟩ := .v (.of_soft fun _ => seql_v hx hy) hd h
theorem b_sne {t t' : TypeId} {x y : Operand} {u v : ByteArray} [UString P t] {d : Nat} {ty : TypeId} {pos : String} {aft : Array Edge} {gd : Option (Nat × Bool)} (h : G n ((d, .bool (strNe u v)) :: env) b ps hp K) (hx : ev env x = some (.string u) := by exact rfl) (hy : ev env y = some (.string v) := by exact rfl)  (hd : Nat.blt d n = true := by exact rfl) : GO P n env b ps hp ⟨some d, .binOp .neq t x y t', ty, pos, aft, gd⟩ K Q := rd1 (sneq_v hx hy) hd h
theorem tb_sne {t t' : TypeId} {x y : Operand} {u v : ByteArray} [UString P t] {d : Nat} {ty : TypeId} {pos : String} {aft : Array Edge} {gd : Option (Nat × Bool)} (h : G n ((d, .bool (strNe u v)) :: env) b ps hp K) (hx : ev env x = some (.string u) := by exact rfl) (hy : ev env y = some (.string v) := by exact rfl)  (hd : Nat.blt d n = true := by exact rfl) : GT P n env b ps hp ⟨some d, .binOp .neq t x y t', ty, pos, aft, gd⟩ K := tp1 (sneq_v hx hy) hd h
theorem rb_sne {t t' : TypeId} {x y : Operand} {u v : ByteArray} [UString P t] {d : Nat} {ty : TypeId} {pos : String} {aft : Array Edge} {gd : Option (Nat × Bool)} {psW : List Pf} {hpS : List Res} {wd : World} {F : Nat → Prop} (h : G n ((d, .bool (strNe u v)) :: env) b ps hp K) (hx : ev env x = some (.string u) := by exact rfl) (hy : ev env y = some (.string v) := by exact rfl)  (hd : Nat.blt d n = true := by exact rfl) : GTR P n env psW hpS wd F b ps hp K ⟨some d, .binOp .neq t x y t', ty, pos, aft, gd⟩ := .v (.of_soft fun _ => sneq_v hx hy) hd h
theorem cvs {ao : Option Addr} {cap cap' m : Nat} {xs : List Int} {t t' et : TypeId} {x : Operand} {d : Nat} {ty : TypeId} {pos : String} {aft : Array Edge} {gd : Option (Nat × Bool)} [USlice P t et] [UInt P et .u8] [UString P t'] [FSl ao ps Ty.byte cap xs] (h : G n ((d, .string (strOfNums xs)) :: env) b ps hp K) (hx : ev env x = some (.slice ao m cap') := by exact rfl) (hm : m = xs.length := by first | exact rfl | (simp; done) | omega) (hd : Nat.blt d n = true := by exact rfl) : GO P n env b ps hp ⟨some d, .convert t t' x, ty, pos, aft, gd⟩ K Q := rd (cvs_rd (cap := cap) hx hm) hd (fun _ => h)
theorem rcvs {psW : List Pf} {hpS : List Res} {wd : World} {F : Nat → Prop} {ao : Option Addr} {cap cap' m : Nat} {xs : List Int} {t t' et : TypeId} {x : Operand} {d : Nat} {ty : TypeId} {pos : String} {aft : Array Edge} {gd : Option (Nat × Bool)} [USlice P t et] [UInt P et .u8] [UString P t'] [FSl ao psW Ty.byte cap xs] (h : G n ((d, .string (strOfNums xs)) :: env) b ps hp K) (hx : ev env x = some (.slice ao m cap') := by exact rfl) (hm : m = xs.length := by first | exact rfl | (simp; done) | omega) (hd : Nat.blt d n = true := by exact rfl) : GTR P n env psW hpS wd F b ps hp K ⟨some d, .convert t t' x, ty, pos, aft, gd⟩ := .mk (cvs_rd (cap := cap) hx hm) hd (fun _ _ => h)
end
end Go.GX

/- Numbers as bytes, plainly. No program in sight. -/
namespace Go.NumM
open Go Go.GX

theorem wrap_u64 (i : Int) : IntKind.u64.wrap i = i % 18446744073709551616 := by simp [IntKind.wrap, IntKind.signed, IntKind.bits]
theorem wrap_u8 (i : Int) : IntKind.u8.wrap i = i % 256 := by simp [IntKind.wrap, IntKind.signed, IntKind.bits]
theorem wrap_u64_nat {z : Nat} (h : z < 18446744073709551616) : IntKind.u64.wrap (z : Int) = (z : Int) := by rw [wrap_u64]; omega
/-- A number without a sign. -/
def zig (n : Int) : Nat := if 0 ≤ n then (2 * n).toNat else (-2 * n - 1).toNat
/-- And back. -/
def zag (z : Nat) : Int := if z % 2 = 1 then -((z / 2 : Nat) : Int) - 1 else ((z / 2 : Nat) : Int)
theorem zag_zig (n : Int) : zag (zig n) = n := by unfold zag zig; split <;> split <;> omega
theorem zig_lt {n : Int} (h : -9223372036854775808 ≤ n ∧ n ≤ 9223372036854775807) : zig n < 18446744073709551616 := by unfold zig; split <;> omega
theorem shl1 (n : Int) (h : -9223372036854775808 ≤ n ∧ n ≤ 9223372036854775807) : shlV .u64 (IntKind.u64.wrap n) 1 = if 0 ≤ n then 2 * n else 2 * n + 18446744073709551616 := by
  have e : min (1 : Int).toNat IntKind.u64.bits = 1 := by decide
  unfold shlV
  rw [e, wrap_u64, wrap_u64]
  split <;> omega
theorem cpl_u64 {z : Nat} (h : z < 18446744073709551616) : cplV .u64 (z : Int) = ((18446744073709551615 - z : Nat) : Int) := by
  have e1 : BitVec.ofInt 64 18446744073709551615 = BitVec.allOnes 64 := by decide
  have e2 : BitVec.ofInt 64 (z : Int) = BitVec.ofNat 64 z := by
    apply BitVec.eq_of_toNat_eq
    simp
  have e3 : IntKind.u64.max = 18446744073709551615 := by decide
  have key : cplV .u64 (z : Int) = IntKind.u64.wrap ((BitVec.ofInt 64 18446744073709551615 ^^^ BitVec.ofInt 64 (z : Int)).toNat : Int) := by
    unfold cplV
    simp only [IntKind.signed, e3]
    rfl
  rw [key, e1, e2, BitVec.xor_comm, BitVec.xor_allOnes, BitVec.toNat_not, BitVec.toNat_ofNat, Nat.mod_eq_of_lt (by omega)]
  rw [wrap_u64_nat (by omega)]
theorem zig_eq (n : Int) (h : -9223372036854775808 ≤ n ∧ n ≤ 9223372036854775807) : (if n < 0 then cplV .u64 (shlV .u64 (IntKind.u64.wrap n) 1) else shlV .u64 (IntKind.u64.wrap n) 1) = (zig n : Int) := by
  rw [shl1 n h]
  by_cases hn : n < 0
  · rw [if_pos hn, if_neg (by omega)]
    obtain ⟨z, hz⟩ := Int.eq_ofNat_of_zero_le (show 0 ≤ 2 * n + 18446744073709551616 by omega)
    rw [hz, cpl_u64 (by omega)]
    unfold zig
    rw [if_neg (by omega)]; omega
  · rw [if_neg hn, if_pos (by omega)]
    unfold zig
    rw [if_pos (by omega)]; omega
theorem shr7 {z : Nat} : shrV .u64 (z : Int) 7 = ((z / 128 : Nat) : Int) := by
  have e : min (7 : Int).toNat IntKind.u64.bits = 7 := by decide
  unfold shrV
  rw [e, Int.fdiv_eq_ediv_of_nonneg _ (by decide)]
  omega
theorem shr1 {z : Nat} : shrV .u64 (z : Int) 1 = ((z / 2 : Nat) : Int) := by
  have e : min (1 : Int).toNat IntKind.u64.bits = 1 := by decide
  unfold shrV
  rw [e, Int.fdiv_eq_ediv_of_nonneg _ (by decide)]
  omega
theorem low8 (z : Nat) : IntKind.u8.wrap (z : Int) = ((z % 256 : Nat) : Int) := by rw [wrap_u8]; omega
theorem or_fin : ∀ i : Fin 256, bOr .u8 ((i.val : Nat) : Int) 128 = ((128 + i.val % 128 : Nat) : Int) := by decide +kernel
theorem or8 (z : Nat) : bOr .u8 (IntKind.u8.wrap (z : Int)) 128 = ((128 + z % 128 : Nat) : Int) := by
  rw [low8]
  have := or_fin ⟨z % 256, Nat.mod_lt _ (by omega)⟩
  simp only at this
  rw [this]; omega
/-- The bytes of a number without a sign. -/
def enc (z : Nat) : List Int := if h : z < 128 then [(z : Int)] else ((128 + z % 128 : Nat) : Int) :: enc (z / 128)
  termination_by z
  decreasing_by omega
theorem enc_small {z : Nat} (h : z < 128) : enc z = [(z : Int)] := by rw [enc, dif_pos h]
theorem enc_big {z : Nat} (h : ¬ z < 128) : enc z = ((128 + z % 128 : Nat) : Int) :: enc (z / 128) := by rw [enc, dif_neg h]
/-- The bytes of a number. -/
def num (n : Int) : List Int := enc (zig n)
end Go.NumM
