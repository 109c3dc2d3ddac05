import Derived.Test.YtomadjefdghliaaGreatU1
import Derived.Test.YtomadjefdghliaaGreatU8
namespace Go.GX
open Go Go.RowKit Go.RR Go.RX
variable {d : Nat} {ty : TypeId} {pos : String} {aft : Array Edge} {gd : Option (Nat × Bool)}
theorem get_lt {α : Type} {xs : List α} {i : Nat} (h : i < xs.length) : ∃ x, xs[i]? = some x := ⟨xs[i], List.getElem?_eq_getElem h⟩
section
variable {P : Program} {n : Nat} {env : Env} {b : Base} {ps : List Pf} {hp : List Res} {Q : Exit → Act → World → Prop} {K : Act → World → Prop}
section shapes
theorem s_list {ops : Array Oper} {l : List Oper} (h_ : G n env b ps hp (wpList P ops Q l)) : G n env b ps hp (wpList P ops Q l) := h_
theorem s_cond {c : Operand} {x y : Code} (h_ : G n env b ps hp ((Code.cond c x y).wp P Q)) : G n env b ps hp ((Code.cond c x y).wp P Q) := h_
theorem s_take {ops : Array Oper} {S : World → Prop} {hold : Nat → Bool} {i : Nat} {r : List (Nat × Bool)} (h_ : G n env b ps hp (wpPlan P ops Q S hold ((i, true) :: r))) : G n env b ps hp (wpPlan P ops Q S hold ((i, true) :: r)) := h_
theorem s_go {ops : Array Oper} {S : World → Prop} {hold : Nat → Bool} {i : Nat} {r : List (Nat × Bool)} (h_ : G n env b ps hp (wpPlan P ops Q S hold ((i, false) :: r))) : G n env b ps hp (wpPlan P ops Q S hold ((i, false) :: r)) := h_
theorem s_went {S : World → Prop} {hold : Nat → Bool} {i : Nat} (h_ : G n env b ps hp (Went S hold i K)) : G n env b ps hp (Went S hold i K) := h_
end shapes
class IsLen {α : Type} (m : Nat) (xs : List α) : Prop where
 eq : m = xs.length
instance {α : Type} : IsLen 0 ([] : List α) := ⟨rfl⟩
instance {α : Type} (m : Nat) (x : α) (xs : List α) [h : IsLen m xs] : IsLen (m + 1) (x :: xs) := ⟨by rw [List.length_cons, h.eq]⟩
instance (priority := 500) {ps : List Pf} {α : Type} (ao : Option Addr) (cap m : Nat) (e : Ty α) (xs : List α) [FSl ao ps e cap xs] [h : IsLen m xs] : Rds ps (.slice ao m cap) (Ty.slice e) xs := ⟨.slice h.eq⟩
theorem callv {w : World} {d : Nat} {f : FuncId} {x : Operand} {xs : List Operand} {ts : Array TypeId} {vs fs cs : List Value} {R : Ending → World → Prop} [hf : UFunc P f]
  (hx : ev env x = some (.func (.func f) fs.toArray cs.toArray)) (hxs : evs env xs = some vs) (hc : Calls P f (fs ++ (vs ++ cs)).toArray w R) (hd : Nat.blt d n = true) (h : ∀ e w', R e w' → ∃ v, e = .returned v ∧ E n ((d, v) :: env) w' K) :
  OW P n env w ⟨some d, .call { callee := .value x, args := xs.toArray, argTypes := ts }, ty, pos, aft, gd⟩ K Q := by
 constructor; intro a ha
 show Oper.upon P _ a K Q ((execOp a.eval _).run P w)
 have hr : (execOp a.eval ⟨some d, .call { callee := .value x, args := xs.toArray, argTypes := ts }, ty, pos, aft, gd⟩).run P w = .ok (.enter f (fs ++ (vs ++ cs)).toArray) w := by
  have he : (xs.toArray.map a.eval) = vs.toArray := by simp [ha.evs hxs]
  simp only [execOp, resolve, ha.ev hx, he]
  simp [Deferred.ofValue, invoke, hf.c]
 rw [hr]
 refine Calls.mono hc fun e w' hR => ?_
 obtain ⟨v, rfl, hk⟩ := h e w' hR
 exact hk.run _ (ha.put (d := d) v hd)
theorem callvG {d : Nat} {f : FuncId} {x : Operand} {xs : List Operand} {ts : Array TypeId} {vs fs cs : List Value} [hf : UFunc P f] {ps1 : List Pf} {hp1 rest : List Res} {σ : Type} {val : σ → Value} {ps' : σ → List Pf} {hp' : σ → List Res}
  (hc : Does P f (fs ++ (vs ++ cs)) ps1 hp1 val ps' hp') (hx : ev env x = some (.func (.func f) fs.toArray cs.toArray)) (hxs : evs env xs = some vs) (hps : ∀ p ∈ ps1, p ∈ ps) (hl : hp.Perm (hp1 ++ rest)) (hd : Nat.blt d n = true) (h : ∀ s, G n ((d, val s) :: env) b (ps' s ++ ps) (hp' s ++ rest) K) :
  GO P n env b ps hp ⟨some d, .call { callee := .value x, args := xs.toArray, argTypes := ts }, ty, pos, aft, gd⟩ K Q := by
 constructor
 rintro w ⟨F, s⟩
 have s := s.perm hl
 refine callv hx hxs (hc.run w F b (s.less hps (List.sublist_append_left _ _))) hd ?_
 rintro e w' ⟨i, rfl, h'⟩
 obtain ⟨F', _, _, _, s'⟩ := s.act h'
 exact ⟨_, rfl, (h i).run w' ⟨F', s'⟩⟩
theorem clv {d : Nat} {f : FuncId} {x : Operand} {xs : List Operand} {ts : Array TypeId} {vs fs cs : List Value} [hf : UFunc P f] {ps1 : List Pf} {hp1 rest : List Res} {σ : Type} {val : σ → Value} {ps' : σ → List Pf} {hp' : σ → List Res}
  {pz : σ → List Pf} {hz : σ → List Res} (hc : Does P f (fs ++ (vs ++ cs)) ps1 hp1 val ps' hp') (h : ∀ s, G n ((d, val s) :: env) b (pz s) (hz s) K)
  (hx : ev env x = some (.func (.func f) fs.toArray cs.toArray) := by exact rfl) (hxs : evs env xs = some vs := by exact rfl)
  (hps : AllIn ps1 ps := by exact GX.aB)
  (hl : SelR hp1 hp rest := by exact GX.sA)
  (a1 : ∀ s, App (ps' s) ps (pz s) := by intro s; exact inferInstance) (a2 : ∀ s, App (hp' s) rest (hz s) := by intro s; exact inferInstance) (hd : Nat.blt d n = true := by exact rfl) :
  GO P n env b ps hp ⟨some d, .call { callee := .value x, args := xs.toArray, argTypes := ts }, ty, pos, aft, gd⟩ K Q := callvG hc hx hxs hps.sub hl.perm hd (fun s => by rw [← (a1 s).eq, ← (a2 s).eq]; exact h s)
theorem clvA {d : Nat} {f : FuncId} {x : Operand} {xs : List Operand} {ts : Array TypeId} {vs fs cs : List Value} [hf : UFunc P f] {ps1 : List Pf} {σ : Type} {val : σ → Value}
  (hc : Does P f (fs ++ (vs ++ cs)) ps1 hp val (fun _ => []) (fun _ => hp)) (h : ∀ s, G n ((d, val s) :: env) b ps hp K)
  (hx : ev env x = some (.func (.func f) fs.toArray cs.toArray) := by exact rfl) (hxs : evs env xs = some vs := by exact rfl)
  (hps : Suf ps1 ps := by repeat (first | (with_reducible apply Go.GX.Suf.refl) | apply Go.GX.Suf.tail)) (hd : Nat.blt d n = true := by exact rfl) :
  GO P n env b ps hp ⟨some d, .call { callee := .value x, args := xs.toArray, argTypes := ts }, ty, pos, aft, gd⟩ K Q :=
 callvG (rest := []) hc hx hxs hps.sub (by rw [List.append_nil]) hd (fun s => by rw [List.nil_append, List.append_nil]; exact h s)
theorem clA {d : Nat} {f : FuncId} {xs : List Operand} {ts : Array TypeId} {vs : List Value} [hf : UFunc P f] {ps1 : List Pf} {σ : Type} {val : σ → Value}
  (hc : Does P f vs ps1 hp val (fun _ => []) (fun _ => hp)) (h : ∀ s, G n ((d, val s) :: env) b ps hp K) (hxs : evs env xs = some vs := by exact rfl)
  (hps : Suf ps1 ps := by repeat (first | (with_reducible apply Go.GX.Suf.refl) | apply Go.GX.Suf.tail)) (hd : Nat.blt d n = true := by exact rfl) :
  GO P n env b ps hp ⟨some d, .call { callee := .value (.func f), args := xs.toArray, argTypes := ts }, ty, pos, aft, gd⟩ K Q :=
 call hc hxs hps.sub (rest := []) (by rw [List.append_nil]) hd (fun s => by rw [List.nil_append, List.append_nil]; exact h s)
theorem slNil {α : Type} (e : Ty α) (h : G n env b (Sl e none 0 [] :: ps) hp K) : G n env b ps hp K := by
 constructor
 rintro w ⟨F, s⟩
 refine h.run w ⟨F, s.upd, s.lt, s.old, fun p hp => ?_, s.rs, s.apF, s.apart, s.on⟩
 rcases List.mem_cons.1 hp with rfl | hp
 ·exact ⟨by simp, by omega, nil_at⟩
 ·exact s.fs p hp
theorem nmP (t : Nat) {bl o : Nat} {q : Option Addr} (h : ∀ b' : Nat, b' = bl → G n env b ps hp K) (hk : RX.lk env t = some (.pointer q) := by exact rfl) (hq : q = some ⟨bl, o, none⟩ := by exact rfl) : G n env b ps hp K :=
 have _ := hk
 have _ := hq
 h bl rfl
theorem nmS (t : Nat) {ao : Option Addr} {len cap : Nat} (h : ∀ (a' : Option Addr) (c' : Nat), a' = ao → c' = cap → G n env b ps hp K) (hk : RX.lk env t = some (.slice ao len cap) := by exact rfl) : G n env b ps hp K :=
 have _ := hk
 h ao cap rfl rfl
theorem nmA (t : Nat) {cs : List Value} (h : ∀ c' : List Value, c' = cs → G n env b ps hp K) (hk : RX.lk env t = some (.agg cs.toArray) := by exact rfl) : G n env b ps hp K :=
 have _ := hk
 h cs rfl
theorem nmB (t : Nat) {bl o len cap : Nat} {q : Option Addr} (h : ∀ b' : Nat, b' = bl → G n env b ps hp K) (hk : RX.lk env t = some (.slice q len cap) := by exact rfl) (hq : q = some ⟨bl, o, none⟩ := by exact rfl) : G n env b ps hp K :=
 have _ := hk
 have _ := hq
 h bl rfl
section leave
variable {fn : Func} {σ : Type} {val : σ → Value} {ps' : σ → List Pf} {hp' : σ → List Res}
theorem run_cell {w : World} {t : TypeId} {bl sz : Nat} {cs : List Value} [h : UAgg P t] [hs : USize P t sz] (hl : cs.length = sz) (hc : CellsAt w bl 0 cs) : (loadVar t ⟨bl, 0, none⟩).run P w = .ok (.agg cs.toArray) w := by
 subst hl
 have := run_loadCells_list (P := P) w ⟨bl, 0, none⟩ cs (fun j v hj => by rw [Addr.add_lit]; exact hc j v hj)
 simp [loadVar, h.a, hs.s, this]
theorem rt1B {α : Type} {e : Ty α} {y : α} {rest : List Res} {a : Tmp} {t : TypeId} {bl sz : Nat} [UAgg P t] [USize P t sz] (s : List Value → σ) (hv : ∀ cs, val (s cs) = .agg cs.toArray)
  (hr : fn.results = #[.cell a t] := by exact rfl) (hk : RX.lk env a = some (.pointer (some ⟨bl, 0, none⟩)) := by exact rfl) (hl : Look bl 0 ps hp e 0 y := by exact inferInstance) (hsz : e.size = sz := by exact rfl)
  (h1 : ∀ cs, AllIn (ps' (s cs)) (Ag e cs y :: ps) := by intro cs; exact GX.aB)
  (h2 : ∀ cs, SelR (hp' (s cs)) hp rest := by intro cs; exact GX.sA) : G n env b ps hp (Post P fn b val ps' hp' .ret) := by
 constructor
 rintro w ⟨F, st⟩
 obtain ⟨o, cs, ho, hc, hrd, _⟩ := hl.look st.fs st.rs
 have ho : o = 0 := by omega
 subst ho
 have hrun := run_cell (P := P) (t := t) (sz := sz) (by rw [e.len hrd, hsz]) hc
 refine ⟨fun a' ha => bodyPost_ret (v := .agg cs.toArray) ?_ ha.defers ⟨s cs, by rw [hv], F, St.sel (ps := Ag e cs y :: ps) ⟨st.upd, st.lt, st.old, ?_, st.rs, st.apF, st.apart, st.on⟩ (h1 cs) (h2 cs)⟩⟩
 ·have g1 := ha.get _ _ hk
  simp [results, hr, g1, asAddr, hrun]
 ·intro p hp
  rcases List.mem_cons.1 hp with rfl | hp
  ·exact hrd
  ·exact st.fs p hp
end leave
theorem SelR.all (l : List Res) : SelR l l [] := by
 induction l with
 | nil => exact .nil
 | cons r l ih => exact .cons .head ih
theorem AllIn.refl (l : List Pf) : AllIn l l := by
 have key : ∀ m l : List Pf, (∀ p, InP p m → InP p l) → AllIn m l := by
  intro m
  induction m with
  | nil => intro l _; exact .nil
  | cons p m ih => intro l h; exact .cons (h p .head) (ih l fun q hq => h q (.tail hq))
 exact key l l (fun _ h => h)
end
end Go.GX
namespace Go.Api
structure Ins where
 op : Int
 a : Int
 b : Int
 c : Int
 n : Int
 args : List Int
 deriving DecidableEq, Inhabited
structure Typ where
 base : Int
 rc : Int
 dims : Int
 deriving DecidableEq, Inhabited
structure Fld where
 name : ByteArray
 typ : Go.Api.Typ
 deriving DecidableEq, Inhabited
structure Shape where
 name : ByteArray
 fields : List Go.Api.Fld
 deriving DecidableEq, Inhabited
structure Site where
 func : Int
 typ : Go.Api.Typ
 deriving DecidableEq, Inhabited
structure Code where
 params : Int
 vars : List Go.Api.Typ
 has : Bool
 result : Go.Api.Typ
 ins : List Go.Api.Ins
 deriving DecidableEq, Inhabited
structure IR where
 recs : List Go.Api.Shape
 globals : List Go.Api.Typ
 codes : List Go.Api.Code
 sites : List Go.Api.Site
 main : Int
 deriving DecidableEq, Inhabited
structure Con where
 kind : Int
 a : Int
 b : Int
 f : Int
 deriving DecidableEq, Inhabited
structure Points where
 nodes : List (List Int)
 fields : List (List (List Int))
 deriving DecidableEq, Inhabited
structure Classes where
 count : Int
 of : List Int
 nodes : List Int
 fields : List (List Int)
 deriving DecidableEq, Inhabited
structure Layout where
 arr : Bool
 refs : List Int
 deriving DecidableEq, Inhabited
structure Unt where
 params : Int
 vars : List Int
 result : Int
 takes : List Int
 owns : List Int
 ins : List Go.Api.Ins
 deriving DecidableEq, Inhabited
structure RTg where
 classes : List Go.Api.Layout
 globals : List Int
 units : List Go.Api.Unt
 main : Int
 deriving DecidableEq, Inhabited
structure State where
 met : Bool
 live : List Int
 stale : List Int
 deriving DecidableEq, Inhabited
structure Beh where
 end_ : Int
 code : Int
 out : List Int
 steps : Int
 deriving DecidableEq, Inhabited
structure Ran where
 beh : Go.Api.Beh
 made : Int
 gone : Int
 live : Int
 peak : Int
 slack : Int
 most : Int
 deriving DecidableEq, Inhabited
structure Pair where
 a : Int
 b : Int
 deriving DecidableEq, Inhabited
structure Act29 where
 kind : Int
 a : Int
 b : Int
 c : Int
 deriving DecidableEq, Inhabited
structure RtView where
 t : Go.Api.RTg
 u : Go.Api.Unt
 i : Go.Api.Ins
 deriving DecidableEq, Inhabited
structure Region where
 live : Bool
 many : Int
 deriving DecidableEq, Inhabited
end Go.Api
namespace Go.GX
open Go Go.RowKit Go.RR Go.RX Go.Api
abbrev I64 (x : Int) : Prop := -9223372036854775808 ≤ x ∧ x ≤ 9223372036854775807
def _root_.Go.Api.Ins.tup (y : Api.Ins) := (y.op, y.a, y.b, y.c, y.n, y.args, ())
def tyIns : Ty Api.Ins := Ty.co (Ty.pair Ty.int (Ty.pair Ty.int (Ty.pair Ty.int (Ty.pair Ty.int (Ty.pair Ty.int (Ty.pair (Ty.slice Ty.int) Ty.unit)))))) Api.Ins.tup
instance : Sub tyIns 0 Ty.int Api.Ins.op (fun z y => { y with op := z }) := (Sub.co (Sub.fst (Sub.whole _)) (fun _ => rfl) (fun _ _ => rfl))
instance : Sub tyIns 1 Ty.int Api.Ins.a (fun z y => { y with a := z }) := (Sub.co (Sub.snd (Sub.fst (Sub.whole _))) (fun _ => rfl) (fun _ _ => rfl))
instance : Sub tyIns 2 Ty.int Api.Ins.b (fun z y => { y with b := z }) := (Sub.co (Sub.snd (Sub.snd (Sub.fst (Sub.whole _)))) (fun _ => rfl) (fun _ _ => rfl))
instance : Sub tyIns 3 Ty.int Api.Ins.c (fun z y => { y with c := z }) := (Sub.co (Sub.snd (Sub.snd (Sub.snd (Sub.fst (Sub.whole _))))) (fun _ => rfl) (fun _ _ => rfl))
instance : Sub tyIns 4 Ty.int Api.Ins.n (fun z y => { y with n := z }) := (Sub.co (Sub.snd (Sub.snd (Sub.snd (Sub.snd (Sub.fst (Sub.whole _)))))) (fun _ => rfl) (fun _ _ => rfl))
instance : Sub tyIns 5 (Ty.slice Ty.int) Api.Ins.args (fun z y => { y with args := z }) := (Sub.co (Sub.snd (Sub.snd (Sub.snd (Sub.snd (Sub.snd (Sub.fst (Sub.whole _))))))) (fun _ => rfl) (fun _ _ => rfl))
def _root_.Go.Api.Ins.ok (y : Api.Ins) : Prop := I64 y.op ∧ I64 y.a ∧ I64 y.b ∧ I64 y.c ∧ I64 y.n ∧ (∀ x ∈ y.args, I64 x)
def _root_.Go.Api.Typ.tup (y : Api.Typ) := (y.base, y.rc, y.dims, ())
def _root_.Go.Api.Typ.ok (y : Api.Typ) : Prop := I64 y.base ∧ I64 y.rc ∧ I64 y.dims
def _root_.Go.Api.Fld.tup (y : Api.Fld) := (y.name, y.typ, ())
def _root_.Go.Api.Fld.ok (y : Api.Fld) : Prop := Go.Api.Typ.ok y.typ
def _root_.Go.Api.Shape.tup (y : Api.Shape) := (y.name, y.fields, ())
def _root_.Go.Api.Shape.ok (y : Api.Shape) : Prop := (∀ x ∈ y.fields, Go.Api.Fld.ok x)
def _root_.Go.Api.Site.tup (y : Api.Site) := (y.func, y.typ, ())
def _root_.Go.Api.Site.ok (y : Api.Site) : Prop := I64 y.func ∧ Go.Api.Typ.ok y.typ
def _root_.Go.Api.Code.tup (y : Api.Code) := (y.params, y.vars, y.has, y.result, y.ins, ())
def _root_.Go.Api.Code.ok (y : Api.Code) : Prop := I64 y.params ∧ (∀ x ∈ y.vars, Go.Api.Typ.ok x) ∧ Go.Api.Typ.ok y.result ∧ (∀ x ∈ y.ins, Go.Api.Ins.ok x)
def _root_.Go.Api.IR.tup (y : Api.IR) := (y.recs, y.globals, y.codes, y.sites, y.main, ())
def _root_.Go.Api.IR.ok (y : Api.IR) : Prop := (∀ x ∈ y.recs, Go.Api.Shape.ok x) ∧ (∀ x ∈ y.globals, Go.Api.Typ.ok x) ∧ (∀ x ∈ y.codes, Go.Api.Code.ok x) ∧ (∀ x ∈ y.sites, Go.Api.Site.ok x) ∧ I64 y.main
def _root_.Go.Api.Con.tup (y : Api.Con) := (y.kind, y.a, y.b, y.f, ())
def _root_.Go.Api.Con.ok (y : Api.Con) : Prop := I64 y.kind ∧ I64 y.a ∧ I64 y.b ∧ I64 y.f
def _root_.Go.Api.Points.tup (y : Api.Points) := (y.nodes, y.fields, ())
def _root_.Go.Api.Points.ok (y : Api.Points) : Prop := (∀ x ∈ y.nodes, (∀ z ∈ x, I64 z)) ∧ (∀ x ∈ y.fields, (∀ z ∈ x, (∀ z' ∈ z, I64 z')))
def _root_.Go.Api.Classes.tup (y : Api.Classes) := (y.count, y.of, y.nodes, y.fields, ())
def _root_.Go.Api.Classes.ok (y : Api.Classes) : Prop := I64 y.count ∧ (∀ x ∈ y.of, I64 x) ∧ (∀ x ∈ y.nodes, I64 x) ∧ (∀ x ∈ y.fields, (∀ z ∈ x, I64 z))
def _root_.Go.Api.Layout.tup (y : Api.Layout) := (y.arr, y.refs, ())
def tyLayout : Ty Api.Layout := Ty.co (Ty.pair Ty.bool (Ty.pair (Ty.slice Ty.int) Ty.unit)) Api.Layout.tup
instance : Sub tyLayout 0 Ty.bool Api.Layout.arr (fun z y => { y with arr := z }) := (Sub.co (Sub.fst (Sub.whole _)) (fun _ => rfl) (fun _ _ => rfl))
instance : Sub tyLayout 1 (Ty.slice Ty.int) Api.Layout.refs (fun z y => { y with refs := z }) := (Sub.co (Sub.snd (Sub.fst (Sub.whole _))) (fun _ => rfl) (fun _ _ => rfl))
def _root_.Go.Api.Layout.ok (y : Api.Layout) : Prop := (∀ x ∈ y.refs, I64 x)
def _root_.Go.Api.Unt.tup (y : Api.Unt) := (y.params, y.vars, y.result, y.takes, y.owns, y.ins, ())
def tyUnt : Ty Api.Unt := Ty.co (Ty.pair Ty.int (Ty.pair (Ty.slice Ty.int) (Ty.pair Ty.int (Ty.pair (Ty.slice Ty.int) (Ty.pair (Ty.slice Ty.int) (Ty.pair (Ty.slice tyIns) Ty.unit)))))) Api.Unt.tup
instance : Sub tyUnt 0 Ty.int Api.Unt.params (fun z y => { y with params := z }) := (Sub.co (Sub.fst (Sub.whole _)) (fun _ => rfl) (fun _ _ => rfl))
instance : Sub tyUnt 1 (Ty.slice Ty.int) Api.Unt.vars (fun z y => { y with vars := z }) := (Sub.co (Sub.snd (Sub.fst (Sub.whole _))) (fun _ => rfl) (fun _ _ => rfl))
instance : Sub tyUnt 2 Ty.int Api.Unt.result (fun z y => { y with result := z }) := (Sub.co (Sub.snd (Sub.snd (Sub.fst (Sub.whole _)))) (fun _ => rfl) (fun _ _ => rfl))
instance : Sub tyUnt 3 (Ty.slice Ty.int) Api.Unt.takes (fun z y => { y with takes := z }) := (Sub.co (Sub.snd (Sub.snd (Sub.snd (Sub.fst (Sub.whole _))))) (fun _ => rfl) (fun _ _ => rfl))
instance : Sub tyUnt 4 (Ty.slice Ty.int) Api.Unt.owns (fun z y => { y with owns := z }) := (Sub.co (Sub.snd (Sub.snd (Sub.snd (Sub.snd (Sub.fst (Sub.whole _)))))) (fun _ => rfl) (fun _ _ => rfl))
instance : Sub tyUnt 5 (Ty.slice tyIns) Api.Unt.ins (fun z y => { y with ins := z }) := (Sub.co (Sub.snd (Sub.snd (Sub.snd (Sub.snd (Sub.snd (Sub.fst (Sub.whole _))))))) (fun _ => rfl) (fun _ _ => rfl))
def _root_.Go.Api.Unt.ok (y : Api.Unt) : Prop := I64 y.params ∧ (∀ x ∈ y.vars, I64 x) ∧ I64 y.result ∧ (∀ x ∈ y.takes, I64 x) ∧ (∀ x ∈ y.owns, I64 x) ∧ (∀ x ∈ y.ins, Go.Api.Ins.ok x)
def _root_.Go.Api.RTg.tup (y : Api.RTg) := (y.classes, y.globals, y.units, y.main, ())
def tyRTg : Ty Api.RTg := Ty.co (Ty.pair (Ty.slice tyLayout) (Ty.pair (Ty.slice Ty.int) (Ty.pair (Ty.slice tyUnt) (Ty.pair Ty.int Ty.unit)))) Api.RTg.tup
instance : Sub tyRTg 0 (Ty.slice tyLayout) Api.RTg.classes (fun z y => { y with classes := z }) := (Sub.co (Sub.fst (Sub.whole _)) (fun _ => rfl) (fun _ _ => rfl))
instance : Sub tyRTg 1 (Ty.slice Ty.int) Api.RTg.globals (fun z y => { y with globals := z }) := (Sub.co (Sub.snd (Sub.fst (Sub.whole _))) (fun _ => rfl) (fun _ _ => rfl))
instance : Sub tyRTg 2 (Ty.slice tyUnt) Api.RTg.units (fun z y => { y with units := z }) := (Sub.co (Sub.snd (Sub.snd (Sub.fst (Sub.whole _)))) (fun _ => rfl) (fun _ _ => rfl))
instance : Sub tyRTg 3 Ty.int Api.RTg.main (fun z y => { y with main := z }) := (Sub.co (Sub.snd (Sub.snd (Sub.snd (Sub.fst (Sub.whole _))))) (fun _ => rfl) (fun _ _ => rfl))
def _root_.Go.Api.RTg.ok (y : Api.RTg) : Prop := (∀ x ∈ y.classes, Go.Api.Layout.ok x) ∧ (∀ x ∈ y.globals, I64 x) ∧ (∀ x ∈ y.units, Go.Api.Unt.ok x) ∧ I64 y.main
def _root_.Go.Api.State.tup (y : Api.State) := (y.met, y.live, y.stale, ())
def _root_.Go.Api.State.ok (y : Api.State) : Prop := (∀ x ∈ y.live, I64 x) ∧ (∀ x ∈ y.stale, I64 x)
def _root_.Go.Api.Beh.tup (y : Api.Beh) := (y.end_, y.code, y.out, y.steps, ())
def tyBeh : Ty Api.Beh := Ty.co (Ty.pair Ty.int (Ty.pair Ty.int (Ty.pair (Ty.slice Ty.int) (Ty.pair Ty.int Ty.unit)))) Api.Beh.tup
instance : Sub tyBeh 0 Ty.int Api.Beh.end_ (fun z y => { y with end_ := z }) := (Sub.co (Sub.fst (Sub.whole _)) (fun _ => rfl) (fun _ _ => rfl))
instance : Sub tyBeh 1 Ty.int Api.Beh.code (fun z y => { y with code := z }) := (Sub.co (Sub.snd (Sub.fst (Sub.whole _))) (fun _ => rfl) (fun _ _ => rfl))
instance : Sub tyBeh 2 (Ty.slice Ty.int) Api.Beh.out (fun z y => { y with out := z }) := (Sub.co (Sub.snd (Sub.snd (Sub.fst (Sub.whole _)))) (fun _ => rfl) (fun _ _ => rfl))
instance : Sub tyBeh 3 Ty.int Api.Beh.steps (fun z y => { y with steps := z }) := (Sub.co (Sub.snd (Sub.snd (Sub.snd (Sub.fst (Sub.whole _))))) (fun _ => rfl) (fun _ _ => rfl))
def _root_.Go.Api.Beh.ok (y : Api.Beh) : Prop := I64 y.end_ ∧ I64 y.code ∧ (∀ x ∈ y.out, I64 x) ∧ I64 y.steps
def _root_.Go.Api.Ran.tup (y : Api.Ran) := (y.beh, y.made, y.gone, y.live, y.peak, y.slack, y.most, ())
def tyRan : Ty Api.Ran := Ty.co (Ty.pair tyBeh (Ty.pair Ty.int (Ty.pair Ty.int (Ty.pair Ty.int (Ty.pair Ty.int (Ty.pair Ty.int (Ty.pair Ty.int Ty.unit))))))) Api.Ran.tup
instance : SubS tyRan 0 tyBeh Api.Ran.beh (fun z y => { y with beh := z }) := ⟨(Sub.co (Sub.fst (Sub.whole _)) (fun _ => rfl) (fun _ _ => rfl))⟩
instance : Sub tyRan 0 Ty.int (fun y => y.beh.end_) (fun z y => { y with beh := { y.beh with end_ := z } }) := (Sub.co (Sub.fst ((Sub.co (Sub.fst (Sub.whole _)) (fun _ => rfl) (fun _ _ => rfl) : Sub tyBeh 0 Ty.int Api.Beh.end_ (fun z y => { y with end_ := z })))) (fun _ => rfl) (fun _ _ => rfl))
instance : Sub tyRan 3 Ty.int (fun y => y.beh.steps) (fun z y => { y with beh := { y.beh with steps := z } }) := (Sub.co (Sub.fst ((Sub.co (Sub.snd (Sub.snd (Sub.snd (Sub.fst (Sub.whole _))))) (fun _ => rfl) (fun _ _ => rfl) : Sub tyBeh 3 Ty.int Api.Beh.steps (fun z y => { y with steps := z })))) (fun _ => rfl) (fun _ _ => rfl))
instance : Sub tyRan 4 Ty.int Api.Ran.made (fun z y => { y with made := z }) := (Sub.co (Sub.snd (Sub.fst (Sub.whole _))) (fun _ => rfl) (fun _ _ => rfl))
instance : Sub tyRan 5 Ty.int Api.Ran.gone (fun z y => { y with gone := z }) := (Sub.co (Sub.snd (Sub.snd (Sub.fst (Sub.whole _)))) (fun _ => rfl) (fun _ _ => rfl))
instance : Sub tyRan 6 Ty.int Api.Ran.live (fun z y => { y with live := z }) := (Sub.co (Sub.snd (Sub.snd (Sub.snd (Sub.fst (Sub.whole _))))) (fun _ => rfl) (fun _ _ => rfl))
instance : Sub tyRan 7 Ty.int Api.Ran.peak (fun z y => { y with peak := z }) := (Sub.co (Sub.snd (Sub.snd (Sub.snd (Sub.snd (Sub.fst (Sub.whole _)))))) (fun _ => rfl) (fun _ _ => rfl))
instance : Sub tyRan 8 Ty.int Api.Ran.slack (fun z y => { y with slack := z }) := (Sub.co (Sub.snd (Sub.snd (Sub.snd (Sub.snd (Sub.snd (Sub.fst (Sub.whole _))))))) (fun _ => rfl) (fun _ _ => rfl))
instance : Sub tyRan 9 Ty.int Api.Ran.most (fun z y => { y with most := z }) := (Sub.co (Sub.snd (Sub.snd (Sub.snd (Sub.snd (Sub.snd (Sub.snd (Sub.fst (Sub.whole _)))))))) (fun _ => rfl) (fun _ _ => rfl))
def _root_.Go.Api.Ran.ok (y : Api.Ran) : Prop := Go.Api.Beh.ok y.beh ∧ I64 y.made ∧ I64 y.gone ∧ I64 y.live ∧ I64 y.peak ∧ I64 y.slack ∧ I64 y.most
def _root_.Go.Api.Pair.tup (y : Api.Pair) := (y.a, y.b, ())
def _root_.Go.Api.Pair.ok (y : Api.Pair) : Prop := I64 y.a ∧ I64 y.b
def _root_.Go.Api.Act29.tup (y : Api.Act29) := (y.kind, y.a, y.b, y.c, ())
def _root_.Go.Api.Act29.ok (y : Api.Act29) : Prop := I64 y.kind ∧ I64 y.a ∧ I64 y.b ∧ I64 y.c
def _root_.Go.Api.RtView.tup (y : Api.RtView) := (y.t, y.u, y.i, ())
def tyRtView : Ty Api.RtView := Ty.co (Ty.pair tyRTg (Ty.pair tyUnt (Ty.pair tyIns Ty.unit))) Api.RtView.tup
instance : SubS tyRtView 0 tyRTg Api.RtView.t (fun z y => { y with t := z }) := ⟨(Sub.co (Sub.fst (Sub.whole _)) (fun _ => rfl) (fun _ _ => rfl))⟩
instance : Sub tyRtView 0 (Ty.slice tyLayout) (fun y => y.t.classes) (fun z y => { y with t := { y.t with classes := z } }) := (Sub.co (Sub.fst ((Sub.co (Sub.fst (Sub.whole _)) (fun _ => rfl) (fun _ _ => rfl) : Sub tyRTg 0 (Ty.slice tyLayout) Api.RTg.classes (fun z y => { y with classes := z })))) (fun _ => rfl) (fun _ _ => rfl))
instance : Sub tyRtView 1 (Ty.slice Ty.int) (fun y => y.t.globals) (fun z y => { y with t := { y.t with globals := z } }) := (Sub.co (Sub.fst ((Sub.co (Sub.snd (Sub.fst (Sub.whole _))) (fun _ => rfl) (fun _ _ => rfl) : Sub tyRTg 1 (Ty.slice Ty.int) Api.RTg.globals (fun z y => { y with globals := z })))) (fun _ => rfl) (fun _ _ => rfl))
instance : Sub tyRtView 2 (Ty.slice tyUnt) (fun y => y.t.units) (fun z y => { y with t := { y.t with units := z } }) := (Sub.co (Sub.fst ((Sub.co (Sub.snd (Sub.snd (Sub.fst (Sub.whole _)))) (fun _ => rfl) (fun _ _ => rfl) : Sub tyRTg 2 (Ty.slice tyUnt) Api.RTg.units (fun z y => { y with units := z })))) (fun _ => rfl) (fun _ _ => rfl))
instance : Sub tyRtView 5 (Ty.slice Ty.int) (fun y => y.u.vars) (fun z y => { y with u := { y.u with vars := z } }) := (Sub.co (Sub.snd (Sub.fst ((Sub.co (Sub.snd (Sub.fst (Sub.whole _))) (fun _ => rfl) (fun _ _ => rfl) : Sub tyUnt 1 (Ty.slice Ty.int) Api.Unt.vars (fun z y => { y with vars := z }))))) (fun _ => rfl) (fun _ _ => rfl))
instance : Sub tyRtView 6 Ty.int (fun y => y.u.result) (fun z y => { y with u := { y.u with result := z } }) := (Sub.co (Sub.snd (Sub.fst ((Sub.co (Sub.snd (Sub.snd (Sub.fst (Sub.whole _)))) (fun _ => rfl) (fun _ _ => rfl) : Sub tyUnt 2 Ty.int Api.Unt.result (fun z y => { y with result := z }))))) (fun _ => rfl) (fun _ _ => rfl))
instance : Sub tyRtView 8 (Ty.slice Ty.int) (fun y => y.u.owns) (fun z y => { y with u := { y.u with owns := z } }) := (Sub.co (Sub.snd (Sub.fst ((Sub.co (Sub.snd (Sub.snd (Sub.snd (Sub.snd (Sub.fst (Sub.whole _)))))) (fun _ => rfl) (fun _ _ => rfl) : Sub tyUnt 4 (Ty.slice Ty.int) Api.Unt.owns (fun z y => { y with owns := z }))))) (fun _ => rfl) (fun _ _ => rfl))
instance : Sub tyRtView 9 (Ty.slice tyIns) (fun y => y.u.ins) (fun z y => { y with u := { y.u with ins := z } }) := (Sub.co (Sub.snd (Sub.fst ((Sub.co (Sub.snd (Sub.snd (Sub.snd (Sub.snd (Sub.snd (Sub.fst (Sub.whole _))))))) (fun _ => rfl) (fun _ _ => rfl) : Sub tyUnt 5 (Ty.slice tyIns) Api.Unt.ins (fun z y => { y with ins := z }))))) (fun _ => rfl) (fun _ _ => rfl))
instance : SubS tyRtView 10 tyIns Api.RtView.i (fun z y => { y with i := z }) := ⟨(Sub.co (Sub.snd (Sub.snd (Sub.fst (Sub.whole _)))) (fun _ => rfl) (fun _ _ => rfl))⟩
instance : Sub tyRtView 11 Ty.int (fun y => y.i.a) (fun z y => { y with i := { y.i with a := z } }) := (Sub.co (Sub.snd (Sub.snd (Sub.fst ((Sub.co (Sub.snd (Sub.fst (Sub.whole _))) (fun _ => rfl) (fun _ _ => rfl) : Sub tyIns 1 Ty.int Api.Ins.a (fun z y => { y with a := z })))))) (fun _ => rfl) (fun _ _ => rfl))
instance : Sub tyRtView 12 Ty.int (fun y => y.i.b) (fun z y => { y with i := { y.i with b := z } }) := (Sub.co (Sub.snd (Sub.snd (Sub.fst ((Sub.co (Sub.snd (Sub.snd (Sub.fst (Sub.whole _)))) (fun _ => rfl) (fun _ _ => rfl) : Sub tyIns 2 Ty.int Api.Ins.b (fun z y => { y with b := z })))))) (fun _ => rfl) (fun _ _ => rfl))
def _root_.Go.Api.RtView.ok (y : Api.RtView) : Prop := Go.Api.RTg.ok y.t ∧ Go.Api.Unt.ok y.u ∧ Go.Api.Ins.ok y.i
def _root_.Go.Api.Region.tup (y : Api.Region) := (y.live, y.many, ())
def tyRegion : Ty Api.Region := Ty.co (Ty.pair Ty.bool (Ty.pair Ty.int Ty.unit)) Api.Region.tup
instance : Sub tyRegion 0 Ty.bool Api.Region.live (fun z y => { y with live := z }) := (Sub.co (Sub.fst (Sub.whole _)) (fun _ => rfl) (fun _ _ => rfl))
instance : Sub tyRegion 1 Ty.int Api.Region.many (fun z y => { y with many := z }) := (Sub.co (Sub.snd (Sub.fst (Sub.whole _))) (fun _ => rfl) (fun _ _ => rfl))
def _root_.Go.Api.Region.ok (y : Api.Region) : Prop := I64 y.many
end Go.GX
namespace Go.RtM
open Go.RiseM Go.ReachM Go.Api
def gt {α : Type} (l : List α) (n : Int) : Option α := if 0 ≤ n then l[n.toNat]? else none
theorem gt_nat {α : Type} (l : List α) (n : Nat) : gt l (n : Int) = l[n]? := by unfold gt; rw [if_pos (by omega), Int.toNat_natCast]
theorem gt_out {α : Type} {l : List α} {n : Int} (h : n < 0 ∨ (l.length : Int) ≤ n) : gt l n = none := by
 unfold gt
 split
 ·exact List.getElem?_eq_none (by omega)
 ·rfl
theorem gt_some {α : Type} {l : List α} {n : Int} {x : α} (h : gt l n = some x) : ∃ k : Nat, n = k ∧ k < l.length ∧ l[k]? = some x := by
 unfold gt at h
 split at h
 ·exact ⟨n.toNat, by omega, (List.getElem?_eq_some_iff.1 h).1, h⟩
 ·cases h
theorem gt_mem {α : Type} {l : List α} {n : Int} {x : α} (h : gt l n = some x) : x ∈ l := by
 obtain ⟨k, _, _, h⟩ := gt_some h; exact List.mem_of_getElem? h
theorem gt_in {α : Type} {l : List α} {n : Int} (h : 0 ≤ n ∧ n < l.length) : ∃ x, gt l n = some x ∧ ∃ k : Nat, n = k ∧ k < l.length ∧ l[k]? = some x := by
 refine ⟨l[n.toNat]'(by omega), ?_, n.toNat, by omega, by omega, List.getElem?_eq_getElem (by omega)⟩
 unfold gt; rw [if_pos h.1, List.getElem?_eq_getElem (by omega)]
def flds (t : RTg) : List (List Int) := t.classes.map (·.refs)
theorem flds_len (t : RTg) : (flds t).length = t.classes.length := by simp [flds]
noncomputable def glob (t : RTg) : List Int := fromL (flds t) t.globals
def pars (x : Unt) : Nat := (min (max x.params 0) (x.vars.length : Int)).toNat
def roots (x : Unt) : List Int := x.vars.take (pars x) ++ [x.result]
noncomputable def outOf (t : RTg) (x : Unt) : List Int := (fromL (flds t) (roots x)).filter fun c => decide (c ∉ glob t)
noncomputable def out (t : RTg) (u : Int) : List Int := match gt t.units u with | some x => outOf t x | none => []
abbrev IsClass (t : RTg) (n : Int) : Prop := 0 ≤ n ∧ n < (t.classes.length : Int)
abbrev IsEntry (t : RTg) (n : Int) : Prop := IsClass t n ∨ n = -1 ∨ n = -2
abbrev Entries (t : RTg) (l : List Int) : Prop := ∀ n ∈ l, IsEntry t n
abbrev IsRef (e : Int) : Prop := -1 ≤ e
def Into (a b : Int) : Prop := if -1 ≤ a then -1 ≤ b ∧ (b = a ∨ b = -1) else a = -2 ∧ b = -2
instance (a b : Int) : Decidable (Into a b) := by unfold Into; infer_instance
def of (u : Unt) (n : Int) : Int := (gt u.vars n).getD (-3)
abbrev Plain (u : Unt) (l : List Int) : Prop := ∀ n ∈ l, of u n = -2
abbrev Refs (u : Unt) (l : List Int) : Prop := ∀ n ∈ l, IsRef (of u n)
abbrev Place (u : Unt) (n : Int) : Prop := 0 ≤ n ∧ n < (u.ins.length : Int)
def cell (t : RTg) (u : Unt) (n : Int) (arr : Bool) (c : Int) : Int × Bool × Bool :=
 if of u n = -1 then (0, true, decide (0 ≤ c ∧ c < 8))
 else match gt t.classes (of u n) with
  | some L => if L.arr = arr then (match gt L.refs c with | some x => (x, false, true) | none => (0, false, false)) else (0, false, false)
  | none => (0, false, false)
theorem cell_null {t : RTg} {u : Unt} {n : Int} {arr : Bool} {c : Int} (h : of u n = -1) : cell t u n arr c = (0, true, decide (0 ≤ c ∧ c < 8)) := by unfold cell; rw [if_pos h]
theorem cell_none {t : RTg} {u : Unt} {n : Int} {arr : Bool} {c : Int} (h : of u n ≠ -1) (h2 : gt t.classes (of u n) = none) : cell t u n arr c = (0, false, false) := by unfold cell; rw [if_neg h, h2]
theorem cell_arr {t : RTg} {u : Unt} {n : Int} {arr : Bool} {c : Int} {L : Layout} (h : of u n ≠ -1) (h2 : gt t.classes (of u n) = some L) (h3 : L.arr ≠ arr) : cell t u n arr c = (0, false, false) := by unfold cell; rw [if_neg h, h2]; simp only [if_neg h3]
theorem cell_out {t : RTg} {u : Unt} {n : Int} {arr : Bool} {c : Int} {L : Layout} (h : of u n ≠ -1) (h2 : gt t.classes (of u n) = some L) (h3 : L.arr = arr) (h4 : gt L.refs c = none) : cell t u n arr c = (0, false, false) := by unfold cell; rw [if_neg h, h2]; simp only [if_pos h3, h4]
theorem cell_some {t : RTg} {u : Unt} {n : Int} {arr : Bool} {c : Int} {L : Layout} {x : Int} (h : of u n ≠ -1) (h2 : gt t.classes (of u n) = some L) (h3 : L.arr = arr) (h4 : gt L.refs c = some x) : cell t u n arr c = (x, false, true) := by unfold cell; rw [if_neg h, h2]; simp only [if_pos h3, h4]
def Loads (t : RTg) (u : Unt) (a from_ : Int) (arr : Bool) (c : Int) : Prop :=
 (cell t u from_ arr c).2.2 = true ∧ (if (cell t u from_ arr c).2.1 = true then of u a ≠ -3 else Into (of u a) (cell t u from_ arr c).1)
instance (t : RTg) (u : Unt) (a f : Int) (arr : Bool) (c : Int) : Decidable (Loads t u a f arr c) := by unfold Loads; infer_instance
def Lays (t : RTg) (u : Unt) (to : Int) (arr : Bool) (c b : Int) : Prop :=
 (cell t u to arr c).2.2 = true ∧ (if (cell t u to arr c).2.1 = true then of u b ≠ -3 else Into (cell t u to arr c).1 (of u b))
instance (t : RTg) (u : Unt) (to : Int) (arr : Bool) (c b : Int) : Decidable (Lays t u to arr c b) := by unfold Lays; infer_instance
def Only (i : Ins) (a b c n args : Bool) : Prop := (a = true ∨ i.a = 0) ∧ (b = true ∨ i.b = 0) ∧ (c = true ∨ i.c = 0) ∧ (n = true ∨ i.n = 0) ∧ (args = true ∨ i.args = [])
instance (i : Ins) (a b c n args : Bool) : Decidable (Only i a b c n args) := by unfold Only; infer_instance
def names (op : Int) : Option (Bool × Bool × Bool × Bool × Bool) :=
 if op = 1 ∨ op = 11 ∨ op = 19 ∨ op = 20 then some (true, false, false, true, false)
 else if op = 2 ∨ op = 14 ∨ op = 15 ∨ op = 18 then some (true, false, false, false, false)
 else if op = 3 ∨ op = 10 then some (true, true, false, false, false)
 else if op = 5 ∨ op = 12 then some (true, true, false, true, false)
 else if op = 6 ∨ op = 7 ∨ op = 8 ∨ op = 9 then some (true, true, true, false, false)
 else if op = 4 then some (true, true, true, true, false)
 else if op = 13 then some (true, false, true, false, true)
 else if op = 16 then some (false, false, false, true, false)
 else if op = 17 then some (true, false, true, true, false)
 else if op = 21 ∨ op = 22 then some (false, false, false, false, true)
 else none
def Bare (i : Ins) : Prop := match names i.op with | some (a, b, c, n, g) => Only i a b c n g | none => False
instance (i : Ins) : Decidable (Bare i) := by unfold Bare; split <;> infer_instance
def Two (u : Unt) (i : Ins) : Prop := (14 ≤ i.n ∧ i.n ≤ 24) ∧ of u i.a = -2 ∧ ((of u i.b = -2 ∧ of u i.c = -2) ∨ (i.n = 21 ∨ i.n = 22) ∧ IsRef (of u i.b) ∧ IsRef (of u i.c))
instance (u : Unt) (i : Ins) : Decidable (Two u i) := by unfold Two; infer_instance
def CallOk (t : RTg) (u : Unt) (i : Ins) : Prop := match gt t.units i.c with
 | some g => ((i.args.length : Int) = g.params ∧ g.params ≤ (g.vars.length : Int) ∧ (∀ p ∈ i.args.zip g.vars, Into p.2 (of u p.1))) ∧ (i.a = -1 ∨ Into (of u i.a) g.result)
 | none => False
instance (t : RTg) (u : Unt) (i : Ins) : Decidable (CallOk t u i) := by unfold CallOk; split <;> infer_instance
def Fresh (t : RTg) (u : Unt) (i : Ins) (arr : Bool) : Prop := match gt t.classes i.n with | some L => L.arr = arr ∧ of u i.a = i.n | none => False
instance (t : RTg) (u : Unt) (i : Ins) (arr : Bool) : Decidable (Fresh t u i arr) := by unfold Fresh; split <;> infer_instance
def InG (t : RTg) (n : Int) (P : Int → Prop) : Prop := match gt t.globals n with | some g => P g | none => False
instance (t : RTg) (n : Int) (P : Int → Prop) [∀ g, Decidable (P g)] : Decidable (InG t n P) := by unfold InG; split <;> infer_instance
def Goes (t : RTg) (u : Unt) (i : Ins) : Prop :=
 if i.op = 13 then CallOk t u i
 else if i.op = 16 then Place u i.n
 else if i.op = 17 then of u i.a = -2 ∧ Place u i.n ∧ Place u i.c
 else if i.op = 18 then (u.result = -3 ∧ i.a = -1 ∨ u.result ≠ -3 ∧ Into u.result (of u i.a))
 else if i.op = 19 then InG t i.n (fun g => Into (of u i.a) g)
 else if i.op = 20 then InG t i.n (fun g => Into g (of u i.a))
 else i.args ≠ [] ∧ Rise i.args ∧ ∀ n ∈ i.args, n ∈ u.owns
instance (t : RTg) (u : Unt) (i : Ins) : Decidable (Goes t u i) := by unfold Goes; infer_instance
def Fits (t : RTg) (u : Unt) (i : Ins) : Prop :=
 if i.op = 1 ∨ i.op = 14 ∨ i.op = 15 then of u i.a = -2
 else if i.op = 2 then IsRef (of u i.a)
 else if i.op = 3 then Into (of u i.a) (of u i.b)
 else if i.op = 4 then Two u i
 else if i.op = 5 then (i.n = 12 ∨ i.n = 13) ∧ of u i.a = -2 ∧ of u i.b = -2
 else if i.op = 6 then Loads t u i.a i.b false i.c
 else if i.op = 7 then Lays t u i.a false i.c i.b
 else if i.op = 8 then of u i.c = -2 ∧ Loads t u i.a i.b true 0
 else if i.op = 9 then of u i.b = -2 ∧ Lays t u i.a true 0 i.c
 else if i.op = 10 then (cell t u i.b true 0).2.2 = true ∧ of u i.a = -2
 else if i.op = 11 then Fresh t u i false
 else if i.op = 12 then Fresh t u i true ∧ of u i.b = -2
 else Goes t u i
instance (t : RTg) (u : Unt) (i : Ins) : Decidable (Fits t u i) := by unfold Fits; infer_instance
structure Small (t : RTg) : Prop where
 classes : t.classes.length ≤ 1073741824
 refs : ((flds t).map List.length).sum ≤ 1073741824
 globals : t.globals.length ≤ 1073741824
 units : t.units.length ≤ 1073741824
 unit : ∀ u ∈ t.units, u.vars.length ≤ 536870912 ∧ u.ins.length ≤ 1073741824
theorem le_sum {l : List Nat} {x : Nat} (h : x ∈ l) : x ≤ l.sum := by
 induction l with
 | nil => simp at h
 | cons y l ih =>
  rw [List.sum_cons]
  rcases List.mem_cons.1 h with rfl | h
  ·omega
  ·have := ih h; omega
theorem Small.ref {t : RTg} (h : Small t) {L : Layout} (hL : L ∈ t.classes) : L.refs.length ≤ 1073741824 :=
 Nat.le_trans (le_sum (List.mem_map.2 ⟨L.refs, List.mem_map.2 ⟨L, hL, rfl⟩, rfl⟩)) h.refs
theorem out_some {t : RTg} {k : Nat} {u : Unt} (h : t.units[k]? = some u) : out t k = outOf t u := by unfold out; rw [gt_nat, h]
theorem out_none {t : RTg} {k : Int} (h : k < 0 ∨ (t.units.length : Int) ≤ k) : out t k = [] := by unfold out; rw [gt_out h]
theorem pars_le (u : Unt) : pars u ≤ u.vars.length := by unfold pars; omega
theorem roots_len (u : Unt) : (roots u).length ≤ u.vars.length + 1 := by unfold roots; rw [List.length_append, List.length_take, List.length_singleton]; omega
def LayoutOk (t : RTg) (L : Layout) : Prop := L.refs.length ≤ 8 ∧ (L.arr = true → L.refs.length = 1) ∧ Entries t L.refs
instance (t : RTg) (L : Layout) : Decidable (LayoutOk t L) := by unfold LayoutOk; infer_instance
def lastOp (u : Unt) : Int := match u.ins[u.ins.length - 1]? with | some i => i.op | none => 0
def UnitHd (t : RTg) (u : Unt) : Prop :=
 (0 ≤ u.params ∧ u.params ≤ 6 ∧ u.params ≤ (u.vars.length : Int) ∧ u.vars.length ≤ 4000) ∧ Entries t u.vars ∧ (u.result = -3 ∨ IsEntry t u.result) ∧ u.ins ≠ [] ∧
 (Rise u.takes ∧ ∀ c ∈ u.takes, c ∈ outOf t u) ∧ (Rise u.owns ∧ ∀ c ∈ u.owns, IsClass t c ∧ c ∉ outOf t u ∧ c ∉ glob t) ∧ (lastOp u = 16 ∨ lastOp u = 17 ∨ lastOp u = 18)
noncomputable instance (t : RTg) (u : Unt) : Decidable (UnitHd t u) := by unfold UnitHd; infer_instance
abbrev InsOk (t : RTg) (u : Unt) : Prop := ∀ i ∈ u.ins, Bare i ∧ Fits t u i
def UnitOk (t : RTg) (u : Unt) : Prop := UnitHd t u ∧ InsOk t u
noncomputable instance (t : RTg) (u : Unt) : Decidable (UnitOk t u) := by unfold UnitOk; infer_instance
def insOf (l : List Unt) : Nat := (l.map fun u => u.ins.length).sum
def MainOk (t : RTg) : Prop := match gt t.units t.main with | some u => u.params = 0 ∧ u.result = -3 | none => False
instance (t : RTg) : Decidable (MainOk t) := by unfold MainOk; split <;> infer_instance
abbrev UnitsOk (t : RTg) : Prop := insOf t.units ≤ 16000 ∧ ∀ u ∈ t.units, UnitOk t u
def RightP (t : RTg) : Prop := (t.classes.length ≤ 60 ∧ t.globals.length ≤ 8 ∧ t.units.length ≠ 0 ∧ t.units.length ≤ 16) ∧ MainOk t ∧ (∀ L ∈ t.classes, LayoutOk t L) ∧ Entries t t.globals ∧ UnitsOk t
noncomputable instance (t : RTg) : Decidable (RightP t) := by unfold RightP; infer_instance
theorem insOf_snoc (l : List Unt) (u : Unt) : insOf (l ++ [u]) = insOf l + u.ins.length := by simp [insOf]
theorem insOf_take (l : List Unt) (i : Nat) : insOf (l.take i) ≤ insOf l := by
 have := List.take_append_drop i l
 conv => rhs; rw [← this]
 unfold insOf; rw [List.map_append, List.sum_append]; omega
end Go.RtM
namespace Go.FlowM
open Go.RiseM Go.Api
def targets (x : Ins) (i : Int) : List Int := if x.op = 18 then [] else if x.op = 16 then [x.n] else if x.op = 17 then [x.n, x.c] else [i + 1]
abbrev In (n : Nat) (x : Int) : Prop := 0 ≤ x ∧ x < (n : Int)
def nextOf (x : Ins) (n : Nat) (i : Int) : List Int := puts ((targets x i).filter fun y => decide (In n y))
def next (ins : List Ins) (i : Int) : List Int := match (if 0 ≤ i then ins[i.toNat]? else none) with
 | some x => nextOf x ins.length i
 | none => []
end Go.FlowM
namespace Go.LivM
open Go.RiseM Go.Api Go.FlowM
def asks (x : Ins) : List Int :=
 if x.op = 3 ∨ x.op = 5 ∨ x.op = 6 ∨ x.op = 10 ∨ x.op = 12 then [x.b]
 else if x.op = 4 ∨ x.op = 8 then [x.b, x.c]
 else if x.op = 7 then [x.a, x.b]
 else if x.op = 9 then [x.a, x.b, x.c]
 else if x.op = 13 then x.args
 else if x.op = 15 ∨ x.op = 17 ∨ x.op = 18 ∨ x.op = 20 then [x.a]
 else []
def uses (x : Ins) : List Int := puts ((asks x).filter fun y => decide (In 4000 y))
abbrev Sets (op : Int) : Prop := op = 1 ∨ op = 2 ∨ op = 3 ∨ op = 4 ∨ op = 5 ∨ op = 6 ∨ op = 8 ∨ op = 10 ∨ op = 11 ∨ op = 12 ∨ op = 13 ∨ op = 14 ∨ op = 19
def def_ (x : Ins) : Int := if Sets x.op ∧ In 4000 x.a then x.a else -1
inductive Live (ins : List Ins) : Nat → Int → Prop where
 | use {i : Nat} {x : Ins} {v : Int} (h : ins[i]? = some x) (hv : v ∈ uses x) : Live ins i v
 | pass {i j : Nat} {x : Ins} {v : Int} (h : ins[i]? = some x) (hd : def_ x ≠ v) (hj : (j : Int) ∈ next ins i) (hl : Live ins j v) : Live ins i v
def Step (ins : List Ins) (H : Nat → Int → Prop) (i : Nat) (v : Int) : Prop := ∃ x, ins[i]? = some x ∧ (v ∈ uses x ∨ def_ x ≠ v ∧ ∃ j : Nat, (j : Int) ∈ next ins i ∧ H j v)
structure Inv (ins : List Ins) (H : Nat → Int → Prop) : Prop where
 live : ∀ i v, H i v → Live ins i v
 step : ∀ i v, H i v → Step ins H i v
end Go.LivM
namespace Go.GuaM
open Go.RiseM Go.Api Go.FlowM Go.LivM Go.ReachM Go.RtM
def both (a b : List Int) : List Int := puts (a ++ b)
def minus (a b : List Int) : List Int := a.filter fun x => decide (x ∉ b)
def alive (x : Ins) (L : List Int) : List Int := if x.op = 21 then both L x.args else if x.op = 22 then minus L x.args else L
inductive At (u : Unt) : Nat → List Int → Prop where
 | zero : At u 0 []
 | step {i j : Nat} {L : List Int} {x : Ins} (h : At u i L) (hx : u.ins[i]? = some x) (hj : (j : Int) ∈ next u.ins i) : At u j (alive x L)
section
variable (cB : Ins → List Int → Bool) (u : Unt)
end
section
variable {cB : Ins → List Int → Bool} {u : Unt} {t : RTg} {k : Int}
end
end Go.GuaM
namespace Go.OneM
open Go.Api Go.RtM Go.ReachM Go.RiseM Go.GuaM Go.LivM Go.FlowM
def oneU (ins : List Ins) : Unt := ⟨0, [0, 1, -2], -3, [], [0, 1], ins⟩
def oneT (ins : List Ins) : RTg := ⟨[⟨false, [-2]⟩, ⟨false, [0]⟩], [], [oneU ins], 0⟩
theorem one_glob (ins : List Ins) : glob (oneT ins) = [] := fromL_nil (by simp [oneT])
theorem one_outOf (ins : List Ins) : outOf (oneT ins) (oneU ins) = [] := by
 have e : roots (oneU ins) = [-3] := rfl
 unfold outOf
 rw [e, fromL_nil (by simp)]
 rfl
def OneOk (ins : List Ins) : Prop := ins ≠ [] ∧ ins.length ≤ 16000 ∧ (lastOp (oneU ins) = 16 ∨ lastOp (oneU ins) = 17 ∨ lastOp (oneU ins) = 18) ∧ ∀ i ∈ ins, Bare i ∧ Fits (oneT ins) (oneU ins) i
instance (ins : List Ins) : Decidable (OneOk ins) := by unfold OneOk; infer_instance
theorem one_right {ins : List Ins} : RightP (oneT ins) ↔ OneOk ins := by
 constructor
 ·rintro ⟨_, _, _, _, h1, h2⟩
  obtain ⟨⟨_, _, _, h3, _, _, h4⟩, h5⟩ := h2 (oneU ins) (by simp [oneT])
  refine ⟨h3, ?_, h4, h5⟩
  have : insOf (oneT ins).units = ins.length := by simp [insOf, oneT, oneU]
  omega
 ·rintro ⟨h3, h6, h4, h5⟩
  have hl : insOf (oneT ins).units = ins.length := by simp [insOf, oneT, oneU]
  have hc0 : IsClass (oneT ins) 0 := ⟨by omega, by show (0 : Int) < 2; omega⟩
  have hc1 : IsClass (oneT ins) 1 := ⟨by omega, by show (1 : Int) < 2; omega⟩
  refine ⟨by show (2 ≤ 60 ∧ 0 ≤ 8 ∧ 1 ≠ 0 ∧ 1 ≤ 16); decide, ⟨rfl, rfl⟩, fun L hL => ?_, fun x hx => by simp [oneT] at hx, by rw [hl]; exact h6, fun u hu => ?_⟩
  ·have hL : L = ⟨false, [-2]⟩ ∨ L = ⟨false, [0]⟩ := by simpa [oneT] using hL
   rcases hL with rfl | rfl
   ·exact ⟨by show 1 ≤ 8; decide, fun h => (by cases h), fun n hn => .inr (.inr (by simpa using hn))⟩
   ·refine ⟨by show 1 ≤ 8; decide, fun h => (by cases h), fun n hn => ?_⟩
    obtain rfl : n = 0 := by simpa using hn
    exact .inl hc0
  ·obtain rfl : u = oneU ins := by simpa [oneT] using hu
   refine ⟨⟨⟨by show (0 : Int) ≤ 0; omega, by show (0 : Int) ≤ 6; omega, by show (0 : Int) ≤ 3; omega, by show 3 ≤ 4000; omega⟩, fun n hn => ?_, .inl rfl, h3, ⟨by show Rise []; exact List.Pairwise.nil, fun c hc => by simp [oneU] at hc⟩, ⟨by show Rise [0, 1]; decide, fun c hc => ?_⟩, h4⟩, h5⟩
   ·have hn : n = 0 ∨ n = 1 ∨ n = -2 := by simpa [oneU] using hn
    rcases hn with rfl | rfl | rfl
    ·exact .inl hc0
    ·exact .inl hc1
    ·exact .inr (.inr rfl)
   ·have hc : c = 0 ∨ c = 1 := by simpa [oneU] using hc
    rw [one_glob, one_outOf]
    rcases hc with rfl | rfl
    ·exact ⟨hc0, by simp, by simp⟩
    ·exact ⟨hc1, by simp, by simp⟩
def OneFew (ins : List Ins) : Prop := ins.length ≤ 400 ∧ ∀ i ∈ ins, i.args.length ≤ 80
instance (ins : List Ins) : Decidable (OneFew ins) := by unfold OneFew; infer_instance
end Go.OneM
