import Derived.Test.YtomadjefdghliaaV8
/- Calls of values that are functions. No program in sight. -/
namespace Go.GX
open Go Go.RowKit Go.RR Go.RX
theorem get_lt {α : Type} {xs : List α} {i : Nat} (h : i < xs.length) : ∃ x, xs[i]? = some x := ⟨xs[i], List.getElem?_eq_getElem h⟩
section
variable {P : Program} {n : Nat} {env : Env} {b : Base} {ps : List Pf} {hp : List Res} {Q : Exit → Act → World → Prop} {K : Act → World → Prop}
section shapes
theorem s_list {ops : Array Oper} {l : List Oper} (h_ : G n env b ps hp (wpList P ops Q l)) : G n env b ps hp (wpList P ops Q l) := h_
theorem s_cond {c : Operand} {x y : Code} (h_ : G n env b ps hp ((Code.cond c x y).wp P Q)) : G n env b ps hp ((Code.cond c x y).wp P Q) := h_
theorem s_take {ops : Array Oper} {S : World → Prop} {hold : Nat → Bool} {i : Nat} {r : List (Nat × Bool)} (h_ : G n env b ps hp (wpPlan P ops Q S hold ((i, true) :: r))) : G n env b ps hp (wpPlan P ops Q S hold ((i, true) :: r)) := h_
theorem s_go {ops : Array Oper} {S : World → Prop} {hold : Nat → Bool} {i : Nat} {r : List (Nat × Bool)} (h_ : G n env b ps hp (wpPlan P ops Q S hold ((i, false) :: r))) : G n env b ps hp (wpPlan P ops Q S hold ((i, false) :: r)) := h_
theorem s_went {S : World → Prop} {hold : Nat → Bool} {i : Nat} (h_ : G n env b ps hp (Went S hold i K)) : G n env b ps hp (Went S hold i K) := h_
end shapes
/-- How long a list is that is written out. -/
class IsLen {α : Type} (m : Nat) (xs : List α) : Prop where
  eq : m = xs.length
instance {α : Type} : IsLen 0 ([] : List α) := ⟨rfl⟩
instance {α : Type} (m : Nat) (x : α) (xs : List α) [h : IsLen m xs] : IsLen (m + 1) (x :: xs) := ⟨by rw [List.length_cons, h.eq]⟩
instance (priority := 500) {ps : List Pf} {α : Type} (ao : Option Addr) (cap m : Nat) (e : Ty α) (xs : List α) [FSl ao ps e cap xs] [h : IsLen m xs] : Rds ps (.slice ao m cap) (Ty.slice e) xs := ⟨.slice h.eq⟩
/-- A call of a function value, by the contract of the function behind it. -/
theorem callv {w : World} {d : Nat} {f : FuncId} {x : Operand} {xs : List Operand} {ts : Array TypeId} {ty : TypeId} {pos : String} {aft : Array Edge} {gd : Option (Nat × Bool)} {vs fs cs : List Value} {R : Ending → World → Prop} [hf : UFunc P f]
    (hx : ev env x = some (.func (.func f) fs.toArray cs.toArray)) (hxs : evs env xs = some vs) (hc : Calls P f (fs ++ (vs ++ cs)).toArray w R) (hd : Nat.blt d n = true) (h : ∀ e w', R e w' → ∃ v, e = .returned v ∧ E n ((d, v) :: env) w' K) :
    OW P n env w ⟨some d, .call { callee := .value x, args := xs.toArray, argTypes := ts }, ty, pos, aft, gd⟩ K Q := by
  constructor; intro a ha
  show Oper.upon P _ a K Q ((execOp a.eval _).run P w)
  have hr : (execOp a.eval ⟨some d, .call { callee := .value x, args := xs.toArray, argTypes := ts }, ty, pos, aft, gd⟩).run P w = .ok (.enter f (fs ++ (vs ++ cs)).toArray) w := by
    have he : (xs.toArray.map a.eval) = vs.toArray := by simp [ha.evs hxs]
    simp only [execOp, resolve, ha.ev hx, he]
    simp [Deferred.ofValue, invoke, hf.c]
  rw [hr]
  refine Calls.mono hc fun e w' hR => ?_
  obtain ⟨v, rfl, hk⟩ := h e w' hR
  exact hk.run _ (ha.put (d := d) v hd)
theorem callvG {d : Nat} {f : FuncId} {x : Operand} {xs : List Operand} {ts : Array TypeId} {ty : TypeId} {pos : String} {aft : Array Edge} {gd : Option (Nat × Bool)} {vs fs cs : List Value} [hf : UFunc P f] {ps1 : List Pf} {hp1 rest : List Res} {σ : Type} {val : σ → Value} {ps' : σ → List Pf} {hp' : σ → List Res}
    (hc : Does P f (fs ++ (vs ++ cs)) ps1 hp1 val ps' hp') (hx : ev env x = some (.func (.func f) fs.toArray cs.toArray)) (hxs : evs env xs = some vs) (hps : ∀ p ∈ ps1, p ∈ ps) (hl : hp.Perm (hp1 ++ rest)) (hd : Nat.blt d n = true) (h : ∀ s, G n ((d, val s) :: env) b (ps' s ++ ps) (hp' s ++ rest) K) :
    GO P n env b ps hp ⟨some d, .call { callee := .value x, args := xs.toArray, argTypes := ts }, ty, pos, aft, gd⟩ K Q := by
  constructor
  rintro w ⟨F, s⟩
  have s := s.perm hl
  refine callv hx hxs (hc.run w F b (s.less hps (List.sublist_append_left _ _))) hd ?_
  rintro e w' ⟨i, rfl, h'⟩
  obtain ⟨F', _, _, _, s'⟩ := s.act h'
  exact ⟨_, rfl, (h i).run w' ⟨F', s'⟩⟩
theorem clv {d : Nat} {f : FuncId} {x : Operand} {xs : List Operand} {ts : Array TypeId} {ty : TypeId} {pos : String} {aft : Array Edge} {gd : Option (Nat × Bool)} {vs fs cs : List Value} [hf : UFunc P f] {ps1 : List Pf} {hp1 rest : List Res} {σ : Type} {val : σ → Value} {ps' : σ → List Pf} {hp' : σ → List Res}
    {pz : σ → List Pf} {hz : σ → List Res} (hc : Does P f (fs ++ (vs ++ cs)) ps1 hp1 val ps' hp') (h : ∀ s, G n ((d, val s) :: env) b (pz s) (hz s) K)
    (hx : ev env x = some (.func (.func f) fs.toArray cs.toArray) := by exact rfl) (hxs : evs env xs = some vs := by exact rfl)
    (hps : AllIn ps1 ps := by first | ((repeat (first | apply Go.GX.AllIn.nil | apply Go.GX.AllIn.cons | (with_reducible apply Go.GX.InP.head) | apply Go.GX.InP.tail)); done) | (repeat (first | apply Go.GX.AllIn.nil | apply Go.GX.AllIn.cons | apply Go.GX.InP.head | apply Go.GX.InP.tail)))
    (hl : SelR hp1 hp rest := by first | ((repeat (first | apply Go.GX.SelR.nil | apply Go.GX.SelR.cons | (with_reducible apply Go.GX.TakeR.head) | apply Go.GX.TakeR.tail)); done) | (repeat (first | apply Go.GX.SelR.nil | apply Go.GX.SelR.cons | apply Go.GX.TakeR.head | apply Go.GX.TakeR.tail)))
    (a1 : ∀ s, App (ps' s) ps (pz s) := by intro s; exact inferInstance) (a2 : ∀ s, App (hp' s) rest (hz s) := by intro s; exact inferInstance) (hd : Nat.blt d n = true := by exact rfl) :
    GO P n env b ps hp ⟨some d, .call { callee := .value x, args := xs.toArray, argTypes := ts }, ty, pos, aft, gd⟩ K Q := callvG hc hx hxs hps.sub hl.perm hd (fun s => by rw [← (a1 s).eq, ← (a2 s).eq]; exact h s)
/-- Where all that is one's own is handed on, and comes back as it was; the facts that are wanted stand at the end. -/
theorem clvA {d : Nat} {f : FuncId} {x : Operand} {xs : List Operand} {ts : Array TypeId} {ty : TypeId} {pos : String} {aft : Array Edge} {gd : Option (Nat × Bool)} {vs fs cs : List Value} [hf : UFunc P f] {ps1 : List Pf} {σ : Type} {val : σ → Value}
    (hc : Does P f (fs ++ (vs ++ cs)) ps1 hp val (fun _ => []) (fun _ => hp)) (h : ∀ s, G n ((d, val s) :: env) b ps hp K)
    (hx : ev env x = some (.func (.func f) fs.toArray cs.toArray) := by exact rfl) (hxs : evs env xs = some vs := by exact rfl)
    (hps : Suf ps1 ps := by repeat (first | (with_reducible apply Go.GX.Suf.refl) | apply Go.GX.Suf.tail)) (hd : Nat.blt d n = true := by exact rfl) :
    GO P n env b ps hp ⟨some d, .call { callee := .value x, args := xs.toArray, argTypes := ts }, ty, pos, aft, gd⟩ K Q :=
  callvG (rest := []) hc hx hxs hps.sub (by rw [List.append_nil]) hd (fun s => by rw [List.nil_append, List.append_nil]; exact h s)
theorem clA {d : Nat} {f : FuncId} {xs : List Operand} {ts : Array TypeId} {ty : TypeId} {pos : String} {aft : Array Edge} {gd : Option (Nat × Bool)} {vs : List Value} [hf : UFunc P f] {ps1 : List Pf} {σ : Type} {val : σ → Value}
    (hc : Does P f vs ps1 hp val (fun _ => []) (fun _ => hp)) (h : ∀ s, G n ((d, val s) :: env) b ps hp K) (hxs : evs env xs = some vs := by exact rfl)
    (hps : Suf ps1 ps := by repeat (first | (with_reducible apply Go.GX.Suf.refl) | apply Go.GX.Suf.tail)) (hd : Nat.blt d n = true := by exact rfl) :
    GO P n env b ps hp ⟨some d, .call { callee := .value (.func f), args := xs.toArray, argTypes := ts }, ty, pos, aft, gd⟩ K Q :=
  call hc hxs hps.sub (rest := []) (by rw [List.append_nil]) hd (fun s => by rw [List.nil_append, List.append_nil]; exact h s)
/-- Nothing is a slice that stays. -/
theorem slNil {α : Type} (e : Ty α) (h : G n env b (Sl e none 0 [] :: ps) hp K) : G n env b ps hp K := by
  constructor
  rintro w ⟨F, s⟩
  refine h.run w ⟨F, s.upd, s.lt, s.old, fun p hp => ?_, s.rs, s.apF, s.apart, s.on⟩
  rcases List.mem_cons.1 hp with rfl | hp
  · exact ⟨by simp, by omega, nil_at⟩
  · exact s.fs p hp
/-- A new variable, zero, as a row of cells. -/
theorem alR {d : Nat} {ty : TypeId} {pos : String} {aft : Array Edge} {gd : Option (Nat × Bool)} {t : TypeId} {z : Value} {vs : List Value} [hz : UZero P t z] (h : ∀ bl, G n ((d, .pointer (some ⟨bl, 0, none⟩)) :: env) b ps (RowR bl t vs :: hp) K) (hv : z.cells.toList = vs := by exact rfl) (hd : Nat.blt d n = true := by exact rfl) : GO P n env b ps hp ⟨some d, .alloc t, ty, pos, aft, gd⟩ K Q := by
  subst hv
  refine Acts.use (hp1 := []) (rest := hp) (ι := Nat) (val := fun bl => .pointer (some ⟨bl, 0, none⟩)) (pf := fun bl => []) (hr := fun bl => [RowR bl t z.cells.toList]) ?_ (List.Perm.refl _) h
  intro F w K Q b s hk
  exact RX.alloc hd (fun bl w' hb hr hu => hk bl w' (mkOkN s hu hr (fun k hk => by have hk : k = bl := hk; omega)))
/-- Over a whole row of cells. -/
theorem stRW {bl sz : Nat} {ty : TypeId} {pos : String} {aft : Array Edge} {gd : Option (Nat × Bool)} {t te : TypeId} {x y : Operand} {cs vs : List Value} {rest : List Res} [hs : USize P t sz] (h : G n env b ps (RowR bl te cs :: rest) K)
    (hx : ev env x = some (.pointer (some ⟨bl, 0, none⟩)) := by exact rfl) (hy : ev env y = some (.agg cs.toArray) := by exact rfl) (hf : FRow bl hp te vs rest := by exact inferInstance) (hl : cs.length = sz := by exact rfl) (hl2 : vs.length = sz := by exact rfl) (h1 : cs.all (·.oneCell') = true := by exact rfl) : GO P n env b ps hp ⟨none, .store t x y, ty, pos, aft, gd⟩ K Q := by
  subst hl
  refine Acts.use (hp1 := [RowR bl te vs]) (ι := Unit) (val := fun _ => undef) (pf := fun _ => []) (hr := fun _ => [RowR bl te cs]) ?_ hf.p (fun _ => h)
  intro F w K Q b s hk
  have h2 : Row w bl te vs := s.rs (RowR bl te vs) (by simp)
  refine store_cells hx hy (by simp [Value.cells]) h2 (fun u hu => List.all_eq_true.1 h1 u hu) (by omega) (fun w' hrow hu => hk () w' (mkOk1 s hu ?_ (fun k hk _ => hk)))
  have e : over vs 0 cs = cs := by unfold over; rw [List.drop_of_length_le (by omega)]; simp
  rw [e] at hrow; exact hrow
/-- What some cells read as, as a fact. -/
theorem agI {α : Type} {e : Ty α} {cs : List Value} {y : α} (h : G n env b (Ag e cs y :: ps) hp K) (hr : Reads ps (.agg cs.toArray) e y := by first | exact Go.GX.Rds.r) : G n env b ps hp K := by
  constructor
  rintro w ⟨F, s⟩
  refine h.run w ⟨F, s.upd, s.lt, s.old, ?_, s.rs, s.apF, s.apart, s.on⟩
  intro p hp
  rcases List.mem_cons.1 hp with rfl | hp
  · have h1 : e.rd F w (Value.agg cs.toArray).cells.toList y := hr.as F w s.fs
    have h2 : (Value.agg cs.toArray).cells.toList = cs := by simp [Value.cells]
    rw [h2] at h1; exact h1
  · exact s.fs p hp
/-- The same, of a slot. -/
theorem agT (t : Nat) {α : Type} {e : Ty α} {cs : List Value} {y : α} (h : G n env b (Ag e cs y :: ps) hp K) (hk : RX.lk env t = some (.agg cs.toArray) := by exact rfl) (hr : Reads ps (.agg cs.toArray) e y := by first | exact Go.GX.Rds.r) : G n env b ps hp K :=
  have _ := hk
  agI h hr
/-- Names for what a slot holds. -/
theorem nmP (t : Nat) {bl o : Nat} {q : Option Addr} (h : ∀ b' : Nat, b' = bl → G n env b ps hp K) (hk : RX.lk env t = some (.pointer q) := by exact rfl) (hq : q = some ⟨bl, o, none⟩ := by exact rfl) : G n env b ps hp K :=
  have _ := hk
  have _ := hq
  h bl rfl
theorem nmS (t : Nat) {ao : Option Addr} {len cap : Nat} (h : ∀ (a' : Option Addr) (c' : Nat), a' = ao → c' = cap → G n env b ps hp K) (hk : RX.lk env t = some (.slice ao len cap) := by exact rfl) : G n env b ps hp K :=
  have _ := hk
  h ao cap rfl rfl
theorem nmA (t : Nat) {cs : List Value} (h : ∀ c' : List Value, c' = cs → G n env b ps hp K) (hk : RX.lk env t = some (.agg cs.toArray) := by exact rfl) : G n env b ps hp K :=
  have _ := hk
  h cs rfl
theorem nmB (t : Nat) {bl o len cap : Nat} {q : Option Addr} (h : ∀ b' : Nat, b' = bl → G n env b ps hp K) (hk : RX.lk env t = some (.slice q len cap) := by exact rfl) (hq : q = some ⟨bl, o, none⟩ := by exact rfl) : G n env b ps hp K :=
  have _ := hk
  have _ := hq
  h bl rfl
/-- The same, under another name. -/
theorem agZ (t : Nat) {α : Type} {e : Ty α} {cs : List Value} {y : α} (z : α) (h : G n env b (Ag e cs z :: ps) hp K) (hk : RX.lk env t = some (.agg cs.toArray) := by exact rfl) (hr : Reads ps (.agg cs.toArray) e y := by first | exact Go.GX.Rds.r) (hz : y = z := by exact rfl) : G n env b ps hp K :=
  agT t (hz ▸ h) hk hr
section leave
variable {fn : Func} {σ : Type} {val : σ → Value} {ps' : σ → List Pf} {hp' : σ → List Res}
theorem run_cell {w : World} {t : TypeId} {bl sz : Nat} {cs : List Value} [h : UAgg P t] [hs : USize P t sz] (hl : cs.length = sz) (hc : CellsAt w bl 0 cs) : (loadVar t ⟨bl, 0, none⟩).run P w = .ok (.agg cs.toArray) w := by
  subst hl
  have := run_loadCells_list (P := P) w ⟨bl, 0, none⟩ cs (fun j v hj => by rw [Addr.add_lit]; exact hc j v hj)
  simp [loadVar, h.a, hs.s, this]
/-- A struct that lies in a variable is handed back. -/
theorem rt1B {α : Type} {e : Ty α} {y : α} {rest : List Res} {a : Tmp} {t : TypeId} {bl sz : Nat} [UAgg P t] [USize P t sz] (s : List Value → σ) (hv : ∀ cs, val (s cs) = .agg cs.toArray)
    (hr : fn.results = #[.cell a t] := by exact rfl) (hk : RX.lk env a = some (.pointer (some ⟨bl, 0, none⟩)) := by exact rfl) (hl : Look bl 0 ps hp e 0 y := by exact inferInstance) (hsz : e.size = sz := by exact rfl)
    (h1 : ∀ cs, AllIn (ps' (s cs)) (Ag e cs y :: ps) := by intro cs; first | ((repeat (first | apply Go.GX.AllIn.nil | apply Go.GX.AllIn.cons | (with_reducible apply Go.GX.InP.head) | apply Go.GX.InP.tail)); done) | (repeat (first | apply Go.GX.AllIn.nil | apply Go.GX.AllIn.cons | apply Go.GX.InP.head | apply Go.GX.InP.tail)))
    (h2 : ∀ cs, SelR (hp' (s cs)) hp rest := by intro cs; first | ((repeat (first | apply Go.GX.SelR.nil | apply Go.GX.SelR.cons | (with_reducible apply Go.GX.TakeR.head) | apply Go.GX.TakeR.tail)); done) | (repeat (first | apply Go.GX.SelR.nil | apply Go.GX.SelR.cons | apply Go.GX.TakeR.head | apply Go.GX.TakeR.tail))) : G n env b ps hp (Post P fn b val ps' hp' .ret) := by
  constructor
  rintro w ⟨F, st⟩
  obtain ⟨o, cs, ho, hc, hrd, _⟩ := hl.look st.fs st.rs
  have ho : o = 0 := by omega
  subst ho
  have hrun := run_cell (P := P) (t := t) (sz := sz) (by rw [e.len hrd, hsz]) hc
  refine ⟨fun a' ha => bodyPost_ret (v := .agg cs.toArray) ?_ ha.defers ⟨s cs, by rw [hv], F, St.sel (ps := Ag e cs y :: ps) ⟨st.upd, st.lt, st.old, ?_, st.rs, st.apF, st.apart, st.on⟩ (h1 cs) (h2 cs)⟩⟩
  · have g1 := ha.get _ _ hk
    simp [results, hr, g1, asAddr, hrun]
  · intro p hp
    rcases List.mem_cons.1 hp with rfl | hp
    · exact hrd
    · exact st.fs p hp
end leave
/-- All of it, at the end. -/
theorem SelR.all (l : List Res) : SelR l l [] := by
  induction l with
  | nil => exact .nil
  | cons r l ih => exact .cons .head ih
theorem AllIn.refl (l : List Pf) : AllIn l l := by
  have key : ∀ m l : List Pf, (∀ p, InP p m → InP p l) → AllIn m l := by
    intro m
    induction m with
    | nil => intro l _; exact .nil
    | cons p m ih => intro l h; exact .cons (h p .head) (ih l fun q hq => h q (.tail hq))
  exact key l l (fun _ h => h)
end
end Go.GX

/- The program's structs in Lean, and how they read. Written by wip/api.py. No program in sight. -/
namespace Go.Api
structure Ins where
  op : Int
  a : Int
  b : Int
  c : Int
  n : Int
  args : List Int
  deriving DecidableEq, Inhabited
structure Typ where
  base : Int
  rc : Int
  dims : Int
  deriving DecidableEq, Inhabited
structure Fld where
  name : ByteArray
  typ : Go.Api.Typ
  deriving DecidableEq, Inhabited
structure Shape where
  name : ByteArray
  fields : List Go.Api.Fld
  deriving DecidableEq, Inhabited
structure Site where
  func : Int
  typ : Go.Api.Typ
  deriving DecidableEq, Inhabited
structure Code where
  params : Int
  vars : List Go.Api.Typ
  has : Bool
  result : Go.Api.Typ
  ins : List Go.Api.Ins
  deriving DecidableEq, Inhabited
structure IR where
  recs : List Go.Api.Shape
  globals : List Go.Api.Typ
  codes : List Go.Api.Code
  sites : List Go.Api.Site
  main : Int
  deriving DecidableEq, Inhabited
structure Con where
  kind : Int
  a : Int
  b : Int
  f : Int
  deriving DecidableEq, Inhabited
structure Points where
  nodes : List (List Int)
  fields : List (List (List Int))
  deriving DecidableEq, Inhabited
structure Classes where
  count : Int
  of : List Int
  nodes : List Int
  fields : List (List Int)
  deriving DecidableEq, Inhabited
structure Layout where
  arr : Bool
  refs : List Int
  deriving DecidableEq, Inhabited
structure Unt where
  params : Int
  vars : List Int
  result : Int
  takes : List Int
  owns : List Int
  ins : List Go.Api.Ins
  deriving DecidableEq, Inhabited
structure RTg where
  classes : List Go.Api.Layout
  globals : List Int
  units : List Go.Api.Unt
  main : Int
  deriving DecidableEq, Inhabited
structure State where
  met : Bool
  live : List Int
  stale : List Int
  deriving DecidableEq, Inhabited
structure Beh where
  end_ : Int
  code : Int
  out : List Int
  steps : Int
  deriving DecidableEq, Inhabited
structure Ran where
  beh : Go.Api.Beh
  made : Int
  gone : Int
  live : Int
  peak : Int
  slack : Int
  most : Int
  deriving DecidableEq, Inhabited
structure Pair where
  a : Int
  b : Int
  deriving DecidableEq, Inhabited
structure Act29 where
  kind : Int
  a : Int
  b : Int
  c : Int
  deriving DecidableEq, Inhabited
structure RtView where
  t : Go.Api.RTg
  u : Go.Api.Unt
  i : Go.Api.Ins
  deriving DecidableEq, Inhabited
structure Region where
  live : Bool
  many : Int
  deriving DecidableEq, Inhabited
end Go.Api
namespace Go.GX
open Go Go.RowKit Go.RR Go.RX Go.Api
/-- What an int may be. -/
abbrev I64 (x : Int) : Prop := -9223372036854775808 ≤ x ∧ x ≤ 9223372036854775807
def _root_.Go.Api.Ins.tup (y : Api.Ins) := (y.op, y.a, y.b, y.c, y.n, y.args, ())
def tyIns : Ty Api.Ins := Ty.co (Ty.pair Ty.int (Ty.pair Ty.int (Ty.pair Ty.int (Ty.pair Ty.int (Ty.pair Ty.int (Ty.pair (Ty.slice Ty.int) Ty.unit)))))) Api.Ins.tup
instance : Sub tyIns 0 Ty.int Api.Ins.op (fun z y => { y with op := z }) := (Sub.co (Sub.fst (Sub.whole _)) (fun _ => rfl) (fun _ _ => rfl))
instance : Sub tyIns 1 Ty.int Api.Ins.a (fun z y => { y with a := z }) := (Sub.co (Sub.snd (Sub.fst (Sub.whole _))) (fun _ => rfl) (fun _ _ => rfl))
instance : Sub tyIns 2 Ty.int Api.Ins.b (fun z y => { y with b := z }) := (Sub.co (Sub.snd (Sub.snd (Sub.fst (Sub.whole _)))) (fun _ => rfl) (fun _ _ => rfl))
instance : Sub tyIns 3 Ty.int Api.Ins.c (fun z y => { y with c := z }) := (Sub.co (Sub.snd (Sub.snd (Sub.snd (Sub.fst (Sub.whole _))))) (fun _ => rfl) (fun _ _ => rfl))
instance : Sub tyIns 4 Ty.int Api.Ins.n (fun z y => { y with n := z }) := (Sub.co (Sub.snd (Sub.snd (Sub.snd (Sub.snd (Sub.fst (Sub.whole _)))))) (fun _ => rfl) (fun _ _ => rfl))
instance : Sub tyIns 5 (Ty.slice Ty.int) Api.Ins.args (fun z y => { y with args := z }) := (Sub.co (Sub.snd (Sub.snd (Sub.snd (Sub.snd (Sub.snd (Sub.fst (Sub.whole _))))))) (fun _ => rfl) (fun _ _ => rfl))
def _root_.Go.Api.Ins.ok (y : Api.Ins) : Prop := I64 y.op ∧ I64 y.a ∧ I64 y.b ∧ I64 y.c ∧ I64 y.n ∧ (∀ x ∈ y.args, I64 x)
def _root_.Go.Api.Typ.tup (y : Api.Typ) := (y.base, y.rc, y.dims, ())
def tyTyp : Ty Api.Typ := Ty.co (Ty.pair Ty.int (Ty.pair Ty.int (Ty.pair Ty.int Ty.unit))) Api.Typ.tup
instance : Sub tyTyp 0 Ty.int Api.Typ.base (fun z y => { y with base := z }) := (Sub.co (Sub.fst (Sub.whole _)) (fun _ => rfl) (fun _ _ => rfl))
instance : Sub tyTyp 1 Ty.int Api.Typ.rc (fun z y => { y with rc := z }) := (Sub.co (Sub.snd (Sub.fst (Sub.whole _))) (fun _ => rfl) (fun _ _ => rfl))
instance : Sub tyTyp 2 Ty.int Api.Typ.dims (fun z y => { y with dims := z }) := (Sub.co (Sub.snd (Sub.snd (Sub.fst (Sub.whole _)))) (fun _ => rfl) (fun _ _ => rfl))
def _root_.Go.Api.Typ.ok (y : Api.Typ) : Prop := I64 y.base ∧ I64 y.rc ∧ I64 y.dims
def _root_.Go.Api.Fld.tup (y : Api.Fld) := (y.name, y.typ, ())
def tyFld : Ty Api.Fld := Ty.co (Ty.pair Ty.string (Ty.pair tyTyp Ty.unit)) Api.Fld.tup
instance : Sub tyFld 0 Ty.string Api.Fld.name (fun z y => { y with name := z }) := (Sub.co (Sub.fst (Sub.whole _)) (fun _ => rfl) (fun _ _ => rfl))
instance : SubS tyFld 1 tyTyp Api.Fld.typ (fun z y => { y with typ := z }) := ⟨(Sub.co (Sub.snd (Sub.fst (Sub.whole _))) (fun _ => rfl) (fun _ _ => rfl))⟩
instance (priority := 50) : Sub tyFld 1 tyTyp Api.Fld.typ (fun z y => { y with typ := z }) := SubS.s
instance : Sub tyFld 1 Ty.int (fun y => y.typ.base) (fun z y => { y with typ := { y.typ with base := z } }) := (Sub.co (Sub.snd (Sub.fst ((Sub.co (Sub.fst (Sub.whole _)) (fun _ => rfl) (fun _ _ => rfl) : Sub tyTyp 0 Ty.int Api.Typ.base (fun z y => { y with base := z }))))) (fun _ => rfl) (fun _ _ => rfl))
instance : Sub tyFld 2 Ty.int (fun y => y.typ.rc) (fun z y => { y with typ := { y.typ with rc := z } }) := (Sub.co (Sub.snd (Sub.fst ((Sub.co (Sub.snd (Sub.fst (Sub.whole _))) (fun _ => rfl) (fun _ _ => rfl) : Sub tyTyp 1 Ty.int Api.Typ.rc (fun z y => { y with rc := z }))))) (fun _ => rfl) (fun _ _ => rfl))
instance : Sub tyFld 3 Ty.int (fun y => y.typ.dims) (fun z y => { y with typ := { y.typ with dims := z } }) := (Sub.co (Sub.snd (Sub.fst ((Sub.co (Sub.snd (Sub.snd (Sub.fst (Sub.whole _)))) (fun _ => rfl) (fun _ _ => rfl) : Sub tyTyp 2 Ty.int Api.Typ.dims (fun z y => { y with dims := z }))))) (fun _ => rfl) (fun _ _ => rfl))
def _root_.Go.Api.Fld.ok (y : Api.Fld) : Prop := Go.Api.Typ.ok y.typ
def _root_.Go.Api.Shape.tup (y : Api.Shape) := (y.name, y.fields, ())
def tyShape : Ty Api.Shape := Ty.co (Ty.pair Ty.string (Ty.pair (Ty.slice tyFld) Ty.unit)) Api.Shape.tup
instance : Sub tyShape 0 Ty.string Api.Shape.name (fun z y => { y with name := z }) := (Sub.co (Sub.fst (Sub.whole _)) (fun _ => rfl) (fun _ _ => rfl))
instance : Sub tyShape 1 (Ty.slice tyFld) Api.Shape.fields (fun z y => { y with fields := z }) := (Sub.co (Sub.snd (Sub.fst (Sub.whole _))) (fun _ => rfl) (fun _ _ => rfl))
def _root_.Go.Api.Shape.ok (y : Api.Shape) : Prop := (∀ x ∈ y.fields, Go.Api.Fld.ok x)
def _root_.Go.Api.Site.tup (y : Api.Site) := (y.func, y.typ, ())
def tySite : Ty Api.Site := Ty.co (Ty.pair Ty.int (Ty.pair tyTyp Ty.unit)) Api.Site.tup
instance : Sub tySite 0 Ty.int Api.Site.func (fun z y => { y with func := z }) := (Sub.co (Sub.fst (Sub.whole _)) (fun _ => rfl) (fun _ _ => rfl))
instance : SubS tySite 1 tyTyp Api.Site.typ (fun z y => { y with typ := z }) := ⟨(Sub.co (Sub.snd (Sub.fst (Sub.whole _))) (fun _ => rfl) (fun _ _ => rfl))⟩
instance (priority := 50) : Sub tySite 1 tyTyp Api.Site.typ (fun z y => { y with typ := z }) := SubS.s
instance : Sub tySite 1 Ty.int (fun y => y.typ.base) (fun z y => { y with typ := { y.typ with base := z } }) := (Sub.co (Sub.snd (Sub.fst ((Sub.co (Sub.fst (Sub.whole _)) (fun _ => rfl) (fun _ _ => rfl) : Sub tyTyp 0 Ty.int Api.Typ.base (fun z y => { y with base := z }))))) (fun _ => rfl) (fun _ _ => rfl))
instance : Sub tySite 2 Ty.int (fun y => y.typ.rc) (fun z y => { y with typ := { y.typ with rc := z } }) := (Sub.co (Sub.snd (Sub.fst ((Sub.co (Sub.snd (Sub.fst (Sub.whole _))) (fun _ => rfl) (fun _ _ => rfl) : Sub tyTyp 1 Ty.int Api.Typ.rc (fun z y => { y with rc := z }))))) (fun _ => rfl) (fun _ _ => rfl))
instance : Sub tySite 3 Ty.int (fun y => y.typ.dims) (fun z y => { y with typ := { y.typ with dims := z } }) := (Sub.co (Sub.snd (Sub.fst ((Sub.co (Sub.snd (Sub.snd (Sub.fst (Sub.whole _)))) (fun _ => rfl) (fun _ _ => rfl) : Sub tyTyp 2 Ty.int Api.Typ.dims (fun z y => { y with dims := z }))))) (fun _ => rfl) (fun _ _ => rfl))
def _root_.Go.Api.Site.ok (y : Api.Site) : Prop := I64 y.func ∧ Go.Api.Typ.ok y.typ
def _root_.Go.Api.Code.tup (y : Api.Code) := (y.params, y.vars, y.has, y.result, y.ins, ())
def tyCode : Ty Api.Code := Ty.co (Ty.pair Ty.int (Ty.pair (Ty.slice tyTyp) (Ty.pair Ty.bool (Ty.pair tyTyp (Ty.pair (Ty.slice tyIns) Ty.unit))))) Api.Code.tup
instance : Sub tyCode 0 Ty.int Api.Code.params (fun z y => { y with params := z }) := (Sub.co (Sub.fst (Sub.whole _)) (fun _ => rfl) (fun _ _ => rfl))
instance : Sub tyCode 1 (Ty.slice tyTyp) Api.Code.vars (fun z y => { y with vars := z }) := (Sub.co (Sub.snd (Sub.fst (Sub.whole _))) (fun _ => rfl) (fun _ _ => rfl))
instance : Sub tyCode 2 Ty.bool Api.Code.has (fun z y => { y with has := z }) := (Sub.co (Sub.snd (Sub.snd (Sub.fst (Sub.whole _)))) (fun _ => rfl) (fun _ _ => rfl))
instance : SubS tyCode 3 tyTyp Api.Code.result (fun z y => { y with result := z }) := ⟨(Sub.co (Sub.snd (Sub.snd (Sub.snd (Sub.fst (Sub.whole _))))) (fun _ => rfl) (fun _ _ => rfl))⟩
instance (priority := 50) : Sub tyCode 3 tyTyp Api.Code.result (fun z y => { y with result := z }) := SubS.s
instance : Sub tyCode 3 Ty.int (fun y => y.result.base) (fun z y => { y with result := { y.result with base := z } }) := (Sub.co (Sub.snd (Sub.snd (Sub.snd (Sub.fst ((Sub.co (Sub.fst (Sub.whole _)) (fun _ => rfl) (fun _ _ => rfl) : Sub tyTyp 0 Ty.int Api.Typ.base (fun z y => { y with base := z }))))))) (fun _ => rfl) (fun _ _ => rfl))
instance : Sub tyCode 4 Ty.int (fun y => y.result.rc) (fun z y => { y with result := { y.result with rc := z } }) := (Sub.co (Sub.snd (Sub.snd (Sub.snd (Sub.fst ((Sub.co (Sub.snd (Sub.fst (Sub.whole _))) (fun _ => rfl) (fun _ _ => rfl) : Sub tyTyp 1 Ty.int Api.Typ.rc (fun z y => { y with rc := z }))))))) (fun _ => rfl) (fun _ _ => rfl))
instance : Sub tyCode 5 Ty.int (fun y => y.result.dims) (fun z y => { y with result := { y.result with dims := z } }) := (Sub.co (Sub.snd (Sub.snd (Sub.snd (Sub.fst ((Sub.co (Sub.snd (Sub.snd (Sub.fst (Sub.whole _)))) (fun _ => rfl) (fun _ _ => rfl) : Sub tyTyp 2 Ty.int Api.Typ.dims (fun z y => { y with dims := z }))))))) (fun _ => rfl) (fun _ _ => rfl))
instance : Sub tyCode 6 (Ty.slice tyIns) Api.Code.ins (fun z y => { y with ins := z }) := (Sub.co (Sub.snd (Sub.snd (Sub.snd (Sub.snd (Sub.fst (Sub.whole _)))))) (fun _ => rfl) (fun _ _ => rfl))
def _root_.Go.Api.Code.ok (y : Api.Code) : Prop := I64 y.params ∧ (∀ x ∈ y.vars, Go.Api.Typ.ok x) ∧ Go.Api.Typ.ok y.result ∧ (∀ x ∈ y.ins, Go.Api.Ins.ok x)
def _root_.Go.Api.IR.tup (y : Api.IR) := (y.recs, y.globals, y.codes, y.sites, y.main, ())
def tyIR : Ty Api.IR := Ty.co (Ty.pair (Ty.slice tyShape) (Ty.pair (Ty.slice tyTyp) (Ty.pair (Ty.slice tyCode) (Ty.pair (Ty.slice tySite) (Ty.pair Ty.int Ty.unit))))) Api.IR.tup
instance : Sub tyIR 0 (Ty.slice tyShape) Api.IR.recs (fun z y => { y with recs := z }) := (Sub.co (Sub.fst (Sub.whole _)) (fun _ => rfl) (fun _ _ => rfl))
instance : Sub tyIR 1 (Ty.slice tyTyp) Api.IR.globals (fun z y => { y with globals := z }) := (Sub.co (Sub.snd (Sub.fst (Sub.whole _))) (fun _ => rfl) (fun _ _ => rfl))
instance : Sub tyIR 2 (Ty.slice tyCode) Api.IR.codes (fun z y => { y with codes := z }) := (Sub.co (Sub.snd (Sub.snd (Sub.fst (Sub.whole _)))) (fun _ => rfl) (fun _ _ => rfl))
instance : Sub tyIR 3 (Ty.slice tySite) Api.IR.sites (fun z y => { y with sites := z }) := (Sub.co (Sub.snd (Sub.snd (Sub.snd (Sub.fst (Sub.whole _))))) (fun _ => rfl) (fun _ _ => rfl))
instance : Sub tyIR 4 Ty.int Api.IR.main (fun z y => { y with main := z }) := (Sub.co (Sub.snd (Sub.snd (Sub.snd (Sub.snd (Sub.fst (Sub.whole _)))))) (fun _ => rfl) (fun _ _ => rfl))
def _root_.Go.Api.IR.ok (y : Api.IR) : Prop := (∀ x ∈ y.recs, Go.Api.Shape.ok x) ∧ (∀ x ∈ y.globals, Go.Api.Typ.ok x) ∧ (∀ x ∈ y.codes, Go.Api.Code.ok x) ∧ (∀ x ∈ y.sites, Go.Api.Site.ok x) ∧ I64 y.main
def _root_.Go.Api.Con.tup (y : Api.Con) := (y.kind, y.a, y.b, y.f, ())
def tyCon : Ty Api.Con := Ty.co (Ty.pair Ty.int (Ty.pair Ty.int (Ty.pair Ty.int (Ty.pair Ty.int Ty.unit)))) Api.Con.tup
instance : Sub tyCon 0 Ty.int Api.Con.kind (fun z y => { y with kind := z }) := (Sub.co (Sub.fst (Sub.whole _)) (fun _ => rfl) (fun _ _ => rfl))
instance : Sub tyCon 1 Ty.int Api.Con.a (fun z y => { y with a := z }) := (Sub.co (Sub.snd (Sub.fst (Sub.whole _))) (fun _ => rfl) (fun _ _ => rfl))
instance : Sub tyCon 2 Ty.int Api.Con.b (fun z y => { y with b := z }) := (Sub.co (Sub.snd (Sub.snd (Sub.fst (Sub.whole _)))) (fun _ => rfl) (fun _ _ => rfl))
instance : Sub tyCon 3 Ty.int Api.Con.f (fun z y => { y with f := z }) := (Sub.co (Sub.snd (Sub.snd (Sub.snd (Sub.fst (Sub.whole _))))) (fun _ => rfl) (fun _ _ => rfl))
def _root_.Go.Api.Con.ok (y : Api.Con) : Prop := I64 y.kind ∧ I64 y.a ∧ I64 y.b ∧ I64 y.f
def _root_.Go.Api.Points.tup (y : Api.Points) := (y.nodes, y.fields, ())
def tyPoints : Ty Api.Points := Ty.co (Ty.pair (Ty.slice (Ty.slice Ty.int)) (Ty.pair (Ty.slice (Ty.slice (Ty.slice Ty.int))) Ty.unit)) Api.Points.tup
instance : Sub tyPoints 0 (Ty.slice (Ty.slice Ty.int)) Api.Points.nodes (fun z y => { y with nodes := z }) := (Sub.co (Sub.fst (Sub.whole _)) (fun _ => rfl) (fun _ _ => rfl))
instance : Sub tyPoints 1 (Ty.slice (Ty.slice (Ty.slice Ty.int))) Api.Points.fields (fun z y => { y with fields := z }) := (Sub.co (Sub.snd (Sub.fst (Sub.whole _))) (fun _ => rfl) (fun _ _ => rfl))
def _root_.Go.Api.Points.ok (y : Api.Points) : Prop := (∀ x ∈ y.nodes, (∀ z ∈ x, I64 z)) ∧ (∀ x ∈ y.fields, (∀ z ∈ x, (∀ z' ∈ z, I64 z')))
def _root_.Go.Api.Classes.tup (y : Api.Classes) := (y.count, y.of, y.nodes, y.fields, ())
def tyClasses : Ty Api.Classes := Ty.co (Ty.pair Ty.int (Ty.pair (Ty.slice Ty.int) (Ty.pair (Ty.slice Ty.int) (Ty.pair (Ty.slice (Ty.slice Ty.int)) Ty.unit)))) Api.Classes.tup
instance : Sub tyClasses 0 Ty.int Api.Classes.count (fun z y => { y with count := z }) := (Sub.co (Sub.fst (Sub.whole _)) (fun _ => rfl) (fun _ _ => rfl))
instance : Sub tyClasses 1 (Ty.slice Ty.int) Api.Classes.of (fun z y => { y with of := z }) := (Sub.co (Sub.snd (Sub.fst (Sub.whole _))) (fun _ => rfl) (fun _ _ => rfl))
instance : Sub tyClasses 2 (Ty.slice Ty.int) Api.Classes.nodes (fun z y => { y with nodes := z }) := (Sub.co (Sub.snd (Sub.snd (Sub.fst (Sub.whole _)))) (fun _ => rfl) (fun _ _ => rfl))
instance : Sub tyClasses 3 (Ty.slice (Ty.slice Ty.int)) Api.Classes.fields (fun z y => { y with fields := z }) := (Sub.co (Sub.snd (Sub.snd (Sub.snd (Sub.fst (Sub.whole _))))) (fun _ => rfl) (fun _ _ => rfl))
def _root_.Go.Api.Classes.ok (y : Api.Classes) : Prop := I64 y.count ∧ (∀ x ∈ y.of, I64 x) ∧ (∀ x ∈ y.nodes, I64 x) ∧ (∀ x ∈ y.fields, (∀ z ∈ x, I64 z))
def _root_.Go.Api.Layout.tup (y : Api.Layout) := (y.arr, y.refs, ())
def tyLayout : Ty Api.Layout := Ty.co (Ty.pair Ty.bool (Ty.pair (Ty.slice Ty.int) Ty.unit)) Api.Layout.tup
instance : Sub tyLayout 0 Ty.bool Api.Layout.arr (fun z y => { y with arr := z }) := (Sub.co (Sub.fst (Sub.whole _)) (fun _ => rfl) (fun _ _ => rfl))
instance : Sub tyLayout 1 (Ty.slice Ty.int) Api.Layout.refs (fun z y => { y with refs := z }) := (Sub.co (Sub.snd (Sub.fst (Sub.whole _))) (fun _ => rfl) (fun _ _ => rfl))
def _root_.Go.Api.Layout.ok (y : Api.Layout) : Prop := (∀ x ∈ y.refs, I64 x)
def _root_.Go.Api.Unt.tup (y : Api.Unt) := (y.params, y.vars, y.result, y.takes, y.owns, y.ins, ())
def tyUnt : Ty Api.Unt := Ty.co (Ty.pair Ty.int (Ty.pair (Ty.slice Ty.int) (Ty.pair Ty.int (Ty.pair (Ty.slice Ty.int) (Ty.pair (Ty.slice Ty.int) (Ty.pair (Ty.slice tyIns) Ty.unit)))))) Api.Unt.tup
instance : Sub tyUnt 0 Ty.int Api.Unt.params (fun z y => { y with params := z }) := (Sub.co (Sub.fst (Sub.whole _)) (fun _ => rfl) (fun _ _ => rfl))
instance : Sub tyUnt 1 (Ty.slice Ty.int) Api.Unt.vars (fun z y => { y with vars := z }) := (Sub.co (Sub.snd (Sub.fst (Sub.whole _))) (fun _ => rfl) (fun _ _ => rfl))
instance : Sub tyUnt 2 Ty.int Api.Unt.result (fun z y => { y with result := z }) := (Sub.co (Sub.snd (Sub.snd (Sub.fst (Sub.whole _)))) (fun _ => rfl) (fun _ _ => rfl))
instance : Sub tyUnt 3 (Ty.slice Ty.int) Api.Unt.takes (fun z y => { y with takes := z }) := (Sub.co (Sub.snd (Sub.snd (Sub.snd (Sub.fst (Sub.whole _))))) (fun _ => rfl) (fun _ _ => rfl))
instance : Sub tyUnt 4 (Ty.slice Ty.int) Api.Unt.owns (fun z y => { y with owns := z }) := (Sub.co (Sub.snd (Sub.snd (Sub.snd (Sub.snd (Sub.fst (Sub.whole _)))))) (fun _ => rfl) (fun _ _ => rfl))
instance : Sub tyUnt 5 (Ty.slice tyIns) Api.Unt.ins (fun z y => { y with ins := z }) := (Sub.co (Sub.snd (Sub.snd (Sub.snd (Sub.snd (Sub.snd (Sub.fst (Sub.whole _))))))) (fun _ => rfl) (fun _ _ => rfl))
def _root_.Go.Api.Unt.ok (y : Api.Unt) : Prop := I64 y.params ∧ (∀ x ∈ y.vars, I64 x) ∧ I64 y.result ∧ (∀ x ∈ y.takes, I64 x) ∧ (∀ x ∈ y.owns, I64 x) ∧ (∀ x ∈ y.ins, Go.Api.Ins.ok x)
def _root_.Go.Api.RTg.tup (y : Api.RTg) := (y.classes, y.globals, y.units, y.main, ())
def tyRTg : Ty Api.RTg := Ty.co (Ty.pair (Ty.slice tyLayout) (Ty.pair (Ty.slice Ty.int) (Ty.pair (Ty.slice tyUnt) (Ty.pair Ty.int Ty.unit)))) Api.RTg.tup
instance : Sub tyRTg 0 (Ty.slice tyLayout) Api.RTg.classes (fun z y => { y with classes := z }) := (Sub.co (Sub.fst (Sub.whole _)) (fun _ => rfl) (fun _ _ => rfl))
instance : Sub tyRTg 1 (Ty.slice Ty.int) Api.RTg.globals (fun z y => { y with globals := z }) := (Sub.co (Sub.snd (Sub.fst (Sub.whole _))) (fun _ => rfl) (fun _ _ => rfl))
instance : Sub tyRTg 2 (Ty.slice tyUnt) Api.RTg.units (fun z y => { y with units := z }) := (Sub.co (Sub.snd (Sub.snd (Sub.fst (Sub.whole _)))) (fun _ => rfl) (fun _ _ => rfl))
instance : Sub tyRTg 3 Ty.int Api.RTg.main (fun z y => { y with main := z }) := (Sub.co (Sub.snd (Sub.snd (Sub.snd (Sub.fst (Sub.whole _))))) (fun _ => rfl) (fun _ _ => rfl))
def _root_.Go.Api.RTg.ok (y : Api.RTg) : Prop := (∀ x ∈ y.classes, Go.Api.Layout.ok x) ∧ (∀ x ∈ y.globals, I64 x) ∧ (∀ x ∈ y.units, Go.Api.Unt.ok x) ∧ I64 y.main
def _root_.Go.Api.State.tup (y : Api.State) := (y.met, y.live, y.stale, ())
def tyState : Ty Api.State := Ty.co (Ty.pair Ty.bool (Ty.pair (Ty.slice Ty.int) (Ty.pair (Ty.slice Ty.int) Ty.unit))) Api.State.tup
instance : Sub tyState 0 Ty.bool Api.State.met (fun z y => { y with met := z }) := (Sub.co (Sub.fst (Sub.whole _)) (fun _ => rfl) (fun _ _ => rfl))
instance : Sub tyState 1 (Ty.slice Ty.int) Api.State.live (fun z y => { y with live := z }) := (Sub.co (Sub.snd (Sub.fst (Sub.whole _))) (fun _ => rfl) (fun _ _ => rfl))
instance : Sub tyState 2 (Ty.slice Ty.int) Api.State.stale (fun z y => { y with stale := z }) := (Sub.co (Sub.snd (Sub.snd (Sub.fst (Sub.whole _)))) (fun _ => rfl) (fun _ _ => rfl))
def _root_.Go.Api.State.ok (y : Api.State) : Prop := (∀ x ∈ y.live, I64 x) ∧ (∀ x ∈ y.stale, I64 x)
def _root_.Go.Api.Beh.tup (y : Api.Beh) := (y.end_, y.code, y.out, y.steps, ())
def tyBeh : Ty Api.Beh := Ty.co (Ty.pair Ty.int (Ty.pair Ty.int (Ty.pair (Ty.slice Ty.int) (Ty.pair Ty.int Ty.unit)))) Api.Beh.tup
instance : Sub tyBeh 0 Ty.int Api.Beh.end_ (fun z y => { y with end_ := z }) := (Sub.co (Sub.fst (Sub.whole _)) (fun _ => rfl) (fun _ _ => rfl))
instance : Sub tyBeh 1 Ty.int Api.Beh.code (fun z y => { y with code := z }) := (Sub.co (Sub.snd (Sub.fst (Sub.whole _))) (fun _ => rfl) (fun _ _ => rfl))
instance : Sub tyBeh 2 (Ty.slice Ty.int) Api.Beh.out (fun z y => { y with out := z }) := (Sub.co (Sub.snd (Sub.snd (Sub.fst (Sub.whole _)))) (fun _ => rfl) (fun _ _ => rfl))
instance : Sub tyBeh 3 Ty.int Api.Beh.steps (fun z y => { y with steps := z }) := (Sub.co (Sub.snd (Sub.snd (Sub.snd (Sub.fst (Sub.whole _))))) (fun _ => rfl) (fun _ _ => rfl))
def _root_.Go.Api.Beh.ok (y : Api.Beh) : Prop := I64 y.end_ ∧ I64 y.code ∧ (∀ x ∈ y.out, I64 x) ∧ I64 y.steps
def _root_.Go.Api.Ran.tup (y : Api.Ran) := (y.beh, y.made, y.gone, y.live, y.peak, y.slack, y.most, ())
def tyRan : Ty Api.Ran := Ty.co (Ty.pair tyBeh (Ty.pair Ty.int (Ty.pair Ty.int (Ty.pair Ty.int (Ty.pair Ty.int (Ty.pair Ty.int (Ty.pair Ty.int Ty.unit))))))) Api.Ran.tup
instance : SubS tyRan 0 tyBeh Api.Ran.beh (fun z y => { y with beh := z }) := ⟨(Sub.co (Sub.fst (Sub.whole _)) (fun _ => rfl) (fun _ _ => rfl))⟩
instance (priority := 50) : Sub tyRan 0 tyBeh Api.Ran.beh (fun z y => { y with beh := z }) := SubS.s
instance : Sub tyRan 0 Ty.int (fun y => y.beh.end_) (fun z y => { y with beh := { y.beh with end_ := z } }) := (Sub.co (Sub.fst ((Sub.co (Sub.fst (Sub.whole _)) (fun _ => rfl) (fun _ _ => rfl) : Sub tyBeh 0 Ty.int Api.Beh.end_ (fun z y => { y with end_ := z })))) (fun _ => rfl) (fun _ _ => rfl))
instance : Sub tyRan 1 Ty.int (fun y => y.beh.code) (fun z y => { y with beh := { y.beh with code := z } }) := (Sub.co (Sub.fst ((Sub.co (Sub.snd (Sub.fst (Sub.whole _))) (fun _ => rfl) (fun _ _ => rfl) : Sub tyBeh 1 Ty.int Api.Beh.code (fun z y => { y with code := z })))) (fun _ => rfl) (fun _ _ => rfl))
instance : Sub tyRan 2 (Ty.slice Ty.int) (fun y => y.beh.out) (fun z y => { y with beh := { y.beh with out := z } }) := (Sub.co (Sub.fst ((Sub.co (Sub.snd (Sub.snd (Sub.fst (Sub.whole _)))) (fun _ => rfl) (fun _ _ => rfl) : Sub tyBeh 2 (Ty.slice Ty.int) Api.Beh.out (fun z y => { y with out := z })))) (fun _ => rfl) (fun _ _ => rfl))
instance : Sub tyRan 3 Ty.int (fun y => y.beh.steps) (fun z y => { y with beh := { y.beh with steps := z } }) := (Sub.co (Sub.fst ((Sub.co (Sub.snd (Sub.snd (Sub.snd (Sub.fst (Sub.whole _))))) (fun _ => rfl) (fun _ _ => rfl) : Sub tyBeh 3 Ty.int Api.Beh.steps (fun z y => { y with steps := z })))) (fun _ => rfl) (fun _ _ => rfl))
instance : Sub tyRan 4 Ty.int Api.Ran.made (fun z y => { y with made := z }) := (Sub.co (Sub.snd (Sub.fst (Sub.whole _))) (fun _ => rfl) (fun _ _ => rfl))
instance : Sub tyRan 5 Ty.int Api.Ran.gone (fun z y => { y with gone := z }) := (Sub.co (Sub.snd (Sub.snd (Sub.fst (Sub.whole _)))) (fun _ => rfl) (fun _ _ => rfl))
instance : Sub tyRan 6 Ty.int Api.Ran.live (fun z y => { y with live := z }) := (Sub.co (Sub.snd (Sub.snd (Sub.snd (Sub.fst (Sub.whole _))))) (fun _ => rfl) (fun _ _ => rfl))
instance : Sub tyRan 7 Ty.int Api.Ran.peak (fun z y => { y with peak := z }) := (Sub.co (Sub.snd (Sub.snd (Sub.snd (Sub.snd (Sub.fst (Sub.whole _)))))) (fun _ => rfl) (fun _ _ => rfl))
instance : Sub tyRan 8 Ty.int Api.Ran.slack (fun z y => { y with slack := z }) := (Sub.co (Sub.snd (Sub.snd (Sub.snd (Sub.snd (Sub.snd (Sub.fst (Sub.whole _))))))) (fun _ => rfl) (fun _ _ => rfl))
instance : Sub tyRan 9 Ty.int Api.Ran.most (fun z y => { y with most := z }) := (Sub.co (Sub.snd (Sub.snd (Sub.snd (Sub.snd (Sub.snd (Sub.snd (Sub.fst (Sub.whole _)))))))) (fun _ => rfl) (fun _ _ => rfl))
def _root_.Go.Api.Ran.ok (y : Api.Ran) : Prop := Go.Api.Beh.ok y.beh ∧ I64 y.made ∧ I64 y.gone ∧ I64 y.live ∧ I64 y.peak ∧ I64 y.slack ∧ I64 y.most
def _root_.Go.Api.Pair.tup (y : Api.Pair) := (y.a, y.b, ())
def tyPair : Ty Api.Pair := Ty.co (Ty.pair Ty.int (Ty.pair Ty.int Ty.unit)) Api.Pair.tup
instance : Sub tyPair 0 Ty.int Api.Pair.a (fun z y => { y with a := z }) := (Sub.co (Sub.fst (Sub.whole _)) (fun _ => rfl) (fun _ _ => rfl))
instance : Sub tyPair 1 Ty.int Api.Pair.b (fun z y => { y with b := z }) := (Sub.co (Sub.snd (Sub.fst (Sub.whole _))) (fun _ => rfl) (fun _ _ => rfl))
def _root_.Go.Api.Pair.ok (y : Api.Pair) : Prop := I64 y.a ∧ I64 y.b
def _root_.Go.Api.Act29.tup (y : Api.Act29) := (y.kind, y.a, y.b, y.c, ())
def tyAct29 : Ty Api.Act29 := Ty.co (Ty.pair Ty.int (Ty.pair Ty.int (Ty.pair Ty.int (Ty.pair Ty.int Ty.unit)))) Api.Act29.tup
instance : Sub tyAct29 0 Ty.int Api.Act29.kind (fun z y => { y with kind := z }) := (Sub.co (Sub.fst (Sub.whole _)) (fun _ => rfl) (fun _ _ => rfl))
instance : Sub tyAct29 1 Ty.int Api.Act29.a (fun z y => { y with a := z }) := (Sub.co (Sub.snd (Sub.fst (Sub.whole _))) (fun _ => rfl) (fun _ _ => rfl))
instance : Sub tyAct29 2 Ty.int Api.Act29.b (fun z y => { y with b := z }) := (Sub.co (Sub.snd (Sub.snd (Sub.fst (Sub.whole _)))) (fun _ => rfl) (fun _ _ => rfl))
instance : Sub tyAct29 3 Ty.int Api.Act29.c (fun z y => { y with c := z }) := (Sub.co (Sub.snd (Sub.snd (Sub.snd (Sub.fst (Sub.whole _))))) (fun _ => rfl) (fun _ _ => rfl))
def _root_.Go.Api.Act29.ok (y : Api.Act29) : Prop := I64 y.kind ∧ I64 y.a ∧ I64 y.b ∧ I64 y.c
def _root_.Go.Api.RtView.tup (y : Api.RtView) := (y.t, y.u, y.i, ())
def tyRtView : Ty Api.RtView := Ty.co (Ty.pair tyRTg (Ty.pair tyUnt (Ty.pair tyIns Ty.unit))) Api.RtView.tup
instance : SubS tyRtView 0 tyRTg Api.RtView.t (fun z y => { y with t := z }) := ⟨(Sub.co (Sub.fst (Sub.whole _)) (fun _ => rfl) (fun _ _ => rfl))⟩
instance (priority := 50) : Sub tyRtView 0 tyRTg Api.RtView.t (fun z y => { y with t := z }) := SubS.s
instance : Sub tyRtView 0 (Ty.slice tyLayout) (fun y => y.t.classes) (fun z y => { y with t := { y.t with classes := z } }) := (Sub.co (Sub.fst ((Sub.co (Sub.fst (Sub.whole _)) (fun _ => rfl) (fun _ _ => rfl) : Sub tyRTg 0 (Ty.slice tyLayout) Api.RTg.classes (fun z y => { y with classes := z })))) (fun _ => rfl) (fun _ _ => rfl))
instance : Sub tyRtView 1 (Ty.slice Ty.int) (fun y => y.t.globals) (fun z y => { y with t := { y.t with globals := z } }) := (Sub.co (Sub.fst ((Sub.co (Sub.snd (Sub.fst (Sub.whole _))) (fun _ => rfl) (fun _ _ => rfl) : Sub tyRTg 1 (Ty.slice Ty.int) Api.RTg.globals (fun z y => { y with globals := z })))) (fun _ => rfl) (fun _ _ => rfl))
instance : Sub tyRtView 2 (Ty.slice tyUnt) (fun y => y.t.units) (fun z y => { y with t := { y.t with units := z } }) := (Sub.co (Sub.fst ((Sub.co (Sub.snd (Sub.snd (Sub.fst (Sub.whole _)))) (fun _ => rfl) (fun _ _ => rfl) : Sub tyRTg 2 (Ty.slice tyUnt) Api.RTg.units (fun z y => { y with units := z })))) (fun _ => rfl) (fun _ _ => rfl))
instance : Sub tyRtView 3 Ty.int (fun y => y.t.main) (fun z y => { y with t := { y.t with main := z } }) := (Sub.co (Sub.fst ((Sub.co (Sub.snd (Sub.snd (Sub.snd (Sub.fst (Sub.whole _))))) (fun _ => rfl) (fun _ _ => rfl) : Sub tyRTg 3 Ty.int Api.RTg.main (fun z y => { y with main := z })))) (fun _ => rfl) (fun _ _ => rfl))
instance : SubS tyRtView 4 tyUnt Api.RtView.u (fun z y => { y with u := z }) := ⟨(Sub.co (Sub.snd (Sub.fst (Sub.whole _))) (fun _ => rfl) (fun _ _ => rfl))⟩
instance (priority := 50) : Sub tyRtView 4 tyUnt Api.RtView.u (fun z y => { y with u := z }) := SubS.s
instance : Sub tyRtView 4 Ty.int (fun y => y.u.params) (fun z y => { y with u := { y.u with params := z } }) := (Sub.co (Sub.snd (Sub.fst ((Sub.co (Sub.fst (Sub.whole _)) (fun _ => rfl) (fun _ _ => rfl) : Sub tyUnt 0 Ty.int Api.Unt.params (fun z y => { y with params := z }))))) (fun _ => rfl) (fun _ _ => rfl))
instance : Sub tyRtView 5 (Ty.slice Ty.int) (fun y => y.u.vars) (fun z y => { y with u := { y.u with vars := z } }) := (Sub.co (Sub.snd (Sub.fst ((Sub.co (Sub.snd (Sub.fst (Sub.whole _))) (fun _ => rfl) (fun _ _ => rfl) : Sub tyUnt 1 (Ty.slice Ty.int) Api.Unt.vars (fun z y => { y with vars := z }))))) (fun _ => rfl) (fun _ _ => rfl))
instance : Sub tyRtView 6 Ty.int (fun y => y.u.result) (fun z y => { y with u := { y.u with result := z } }) := (Sub.co (Sub.snd (Sub.fst ((Sub.co (Sub.snd (Sub.snd (Sub.fst (Sub.whole _)))) (fun _ => rfl) (fun _ _ => rfl) : Sub tyUnt 2 Ty.int Api.Unt.result (fun z y => { y with result := z }))))) (fun _ => rfl) (fun _ _ => rfl))
instance : Sub tyRtView 7 (Ty.slice Ty.int) (fun y => y.u.takes) (fun z y => { y with u := { y.u with takes := z } }) := (Sub.co (Sub.snd (Sub.fst ((Sub.co (Sub.snd (Sub.snd (Sub.snd (Sub.fst (Sub.whole _))))) (fun _ => rfl) (fun _ _ => rfl) : Sub tyUnt 3 (Ty.slice Ty.int) Api.Unt.takes (fun z y => { y with takes := z }))))) (fun _ => rfl) (fun _ _ => rfl))
instance : Sub tyRtView 8 (Ty.slice Ty.int) (fun y => y.u.owns) (fun z y => { y with u := { y.u with owns := z } }) := (Sub.co (Sub.snd (Sub.fst ((Sub.co (Sub.snd (Sub.snd (Sub.snd (Sub.snd (Sub.fst (Sub.whole _)))))) (fun _ => rfl) (fun _ _ => rfl) : Sub tyUnt 4 (Ty.slice Ty.int) Api.Unt.owns (fun z y => { y with owns := z }))))) (fun _ => rfl) (fun _ _ => rfl))
instance : Sub tyRtView 9 (Ty.slice tyIns) (fun y => y.u.ins) (fun z y => { y with u := { y.u with ins := z } }) := (Sub.co (Sub.snd (Sub.fst ((Sub.co (Sub.snd (Sub.snd (Sub.snd (Sub.snd (Sub.snd (Sub.fst (Sub.whole _))))))) (fun _ => rfl) (fun _ _ => rfl) : Sub tyUnt 5 (Ty.slice tyIns) Api.Unt.ins (fun z y => { y with ins := z }))))) (fun _ => rfl) (fun _ _ => rfl))
instance : SubS tyRtView 10 tyIns Api.RtView.i (fun z y => { y with i := z }) := ⟨(Sub.co (Sub.snd (Sub.snd (Sub.fst (Sub.whole _)))) (fun _ => rfl) (fun _ _ => rfl))⟩
instance (priority := 50) : Sub tyRtView 10 tyIns Api.RtView.i (fun z y => { y with i := z }) := SubS.s
instance : Sub tyRtView 10 Ty.int (fun y => y.i.op) (fun z y => { y with i := { y.i with op := z } }) := (Sub.co (Sub.snd (Sub.snd (Sub.fst ((Sub.co (Sub.fst (Sub.whole _)) (fun _ => rfl) (fun _ _ => rfl) : Sub tyIns 0 Ty.int Api.Ins.op (fun z y => { y with op := z })))))) (fun _ => rfl) (fun _ _ => rfl))
instance : Sub tyRtView 11 Ty.int (fun y => y.i.a) (fun z y => { y with i := { y.i with a := z } }) := (Sub.co (Sub.snd (Sub.snd (Sub.fst ((Sub.co (Sub.snd (Sub.fst (Sub.whole _))) (fun _ => rfl) (fun _ _ => rfl) : Sub tyIns 1 Ty.int Api.Ins.a (fun z y => { y with a := z })))))) (fun _ => rfl) (fun _ _ => rfl))
instance : Sub tyRtView 12 Ty.int (fun y => y.i.b) (fun z y => { y with i := { y.i with b := z } }) := (Sub.co (Sub.snd (Sub.snd (Sub.fst ((Sub.co (Sub.snd (Sub.snd (Sub.fst (Sub.whole _)))) (fun _ => rfl) (fun _ _ => rfl) : Sub tyIns 2 Ty.int Api.Ins.b (fun z y => { y with b := z })))))) (fun _ => rfl) (fun _ _ => rfl))
instance : Sub tyRtView 13 Ty.int (fun y => y.i.c) (fun z y => { y with i := { y.i with c := z } }) := (Sub.co (Sub.snd (Sub.snd (Sub.fst ((Sub.co (Sub.snd (Sub.snd (Sub.snd (Sub.fst (Sub.whole _))))) (fun _ => rfl) (fun _ _ => rfl) : Sub tyIns 3 Ty.int Api.Ins.c (fun z y => { y with c := z })))))) (fun _ => rfl) (fun _ _ => rfl))
instance : Sub tyRtView 14 Ty.int (fun y => y.i.n) (fun z y => { y with i := { y.i with n := z } }) := (Sub.co (Sub.snd (Sub.snd (Sub.fst ((Sub.co (Sub.snd (Sub.snd (Sub.snd (Sub.snd (Sub.fst (Sub.whole _)))))) (fun _ => rfl) (fun _ _ => rfl) : Sub tyIns 4 Ty.int Api.Ins.n (fun z y => { y with n := z })))))) (fun _ => rfl) (fun _ _ => rfl))
instance : Sub tyRtView 15 (Ty.slice Ty.int) (fun y => y.i.args) (fun z y => { y with i := { y.i with args := z } }) := (Sub.co (Sub.snd (Sub.snd (Sub.fst ((Sub.co (Sub.snd (Sub.snd (Sub.snd (Sub.snd (Sub.snd (Sub.fst (Sub.whole _))))))) (fun _ => rfl) (fun _ _ => rfl) : Sub tyIns 5 (Ty.slice Ty.int) Api.Ins.args (fun z y => { y with args := z })))))) (fun _ => rfl) (fun _ _ => rfl))
def _root_.Go.Api.RtView.ok (y : Api.RtView) : Prop := Go.Api.RTg.ok y.t ∧ Go.Api.Unt.ok y.u ∧ Go.Api.Ins.ok y.i
def _root_.Go.Api.Region.tup (y : Api.Region) := (y.live, y.many, ())
def tyRegion : Ty Api.Region := Ty.co (Ty.pair Ty.bool (Ty.pair Ty.int Ty.unit)) Api.Region.tup
instance : Sub tyRegion 0 Ty.bool Api.Region.live (fun z y => { y with live := z }) := (Sub.co (Sub.fst (Sub.whole _)) (fun _ => rfl) (fun _ _ => rfl))
instance : Sub tyRegion 1 Ty.int Api.Region.many (fun z y => { y with many := z }) := (Sub.co (Sub.snd (Sub.fst (Sub.whole _))) (fun _ => rfl) (fun _ _ => rfl))
def _root_.Go.Api.Region.ok (y : Api.Region) : Prop := I64 y.many
end Go.GX
