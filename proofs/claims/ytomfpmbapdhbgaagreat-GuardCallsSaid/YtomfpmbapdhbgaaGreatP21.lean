import Derived.Test.YtomfpmbapdhbgaaGreatP9
import Derived.Laws.Pointers
import Derived.Laws.BytesArg
import Derived.Laws.Strings
/- Values of interfaces: making, asserting, calling their methods. No program in sight. -/
namespace Go.GX
open Go Go.RowKit Go.RR Go.RX
/-- A type that is no interface. -/
class UPlainT (P : Program) (t : TypeId) : Prop where u : ∀ w, ∃ d, (underlying t).run P w = .ok d w ∧ (∀ m, d ≠ .interface m)
/-- A method of a type: its function, and whether it takes a pointer. -/
class UMeth (P : Program) (t : TypeId) (nm : String) (f : outParam FuncId) (ptr : outParam Bool) : Prop where m : (P.info? t).bind (fun i => (i.methods.find? (·.name == nm)).map fun m => (m.path.toList.isEmpty, m.func)) = some (true, some (f, ptr))
section
variable {P : Program} {n : Nat} {env : Env} {b : Base} {ps : List Pf} {hp : List Res} {Q : Exit → Act → World → Prop} {K : Act → World → Prop} {S : World → Prop}
theorem mki_v {t : TypeId} {x : Operand} {v : Value} [h : UPlainT P t] (hx : ev env x = some v) : Soft P n env S (.makeInterface t x) (.iface t v) := fun a ha o ho w _ => by
  obtain ⟨d, h1, h2⟩ := h.u w
  have key : (Instr.makeInterface t v).run P w = .ok (.iface t v) w := by
    unfold Instr.makeInterface
    rw [Sem.run_bind, h1]
    cases d <;> first | rfl | exact absurd rfl (h2 _)
  simp [execOp, ho, ha.ev hx, key]
theorem tas_v {t t' : TypeId} {x : Operand} {v : Value} [h : UPlainT P t'] (hx : ev env x = some (.iface t' v)) : Soft P n env S (.typeAssert x t t' false) v := fun a ha o ho w _ => by
  obtain ⟨d, h1, h2⟩ := h.u w
  have key : (Instr.typeAssert (.iface t' v) t t' false).run P w = .ok v w := by
    unfold Instr.typeAssert
    simp only [Sem.run_bind, h1, Result.andThen_ok]
    cases d <;> first | simp | exact absurd rfl (h2 _)
  simp [execOp, ho, ha.ev hx, key]
theorem meth_parts {t : TypeId} {nm : String} {f : FuncId} {ptr : Bool} (h : UMeth P t nm f ptr) : ∃ i m, P.info? t = some i ∧ i.methods.find? (·.name == nm) = some m ∧ m.path.toList = [] ∧ m.func = some (f, ptr) := by
  have h := h.m
  cases hi : P.info? t with
  | none => rw [hi] at h; simp at h
  | some i =>
    rw [hi] at h
    simp only [Option.bind_some, Option.map_eq_some_iff, Prod.mk.injEq, List.isEmpty_iff] at h
    obtain ⟨m, h1, h2, h3⟩ := h
    exact ⟨i, m, rfl, h1, h2, h3⟩
theorem wrap_ok (tys : Array TypeId) (ty : TypeId) (a : Addr) (x y : String) : Builtin.ssaWrapNilChk_ tys ty #[.pointer (some a), strVal x, strVal y] = pure (.pointer (some a)) := rfl
theorem depth_pos (P : Program) : ∃ k, P.types.size + Made.depth = k + 1 := by
  have h : 0 < Made.depth := by decide
  exact ⟨P.types.size + Made.depth - 1, by omega⟩
theorem run_methP {t e : TypeId} {nm : String} {f : FuncId} [h : UMeth P t nm f true] [hp : UPtr P t e] [hf : UFunc P f] (a : Addr) (args : Array Value) (w : World) : (callMethod (.iface t (.pointer (some a))) nm args).run P w = .ok (.enter f (#[.pointer (some a)] ++ args)) w := by
  obtain ⟨i, m, h1, h2, h3, h4⟩ := meth_parts h
  obtain ⟨k, hk⟩ := depth_pos P
  have key : (method (P.types.size + Made.depth) t (.pointer (some a)) nm).run P w = .ok (f, .pointer (some a)) w := by
    rw [hk]
    unfold method
    simp [run_typeInfo w h1, h2, h3, h4, follow, receiverAt, run_underlying hp.u, Place.get]
  unfold callMethod
  simp [run_program, key, hf.c]
theorem run_methV {t e : TypeId} {nm : String} {f : FuncId} [h : UMeth P t nm f false] [hp : UPtr P t e] [hf : UFunc P f] (a : Addr) (args : Array Value) (w : World) {v : Value} (hl : (loadVar e a).run P w = .ok v w) : (callMethod (.iface t (.pointer (some a))) nm args).run P w = .ok (.enter f (#[v] ++ args)) w := by
  obtain ⟨i, m, h1, h2, h3, h4⟩ := meth_parts h
  obtain ⟨k, hk⟩ := depth_pos P
  have hpe : m.path = #[] := by simpa using h3
  have key : (method (P.types.size + Made.depth) t (.pointer (some a)) nm).run P w = .ok (f, v) w := by
    rw [hk]
    unfold method
    simp [run_typeInfo w h1, h2, h3, h4, follow, receiverAt, run_underlying hp.u, Place.get, wrap_ok, asAddr, hl, hpe]
  unfold callMethod
  simp [run_program, key, hf.c]
/-- A call of an interface's method that takes the pointer itself. -/
theorem callm {w : World} {d : Nat} {f : FuncId} {x : Operand} {nm : String} {xs : List Operand} {ts : Array TypeId} {ty : TypeId} {pos : String} {aft : Array Edge} {gd : Option (Nat × Bool)} {vs : List Value} {rv : Value} {tv : TypeId} {a0 : Addr} {R : Ending → World → Prop}
    (hm : ∀ w', w' = w → (callMethod (.iface tv (.pointer (some a0))) nm vs.toArray).run P w' = .ok (.enter f (rv :: vs).toArray) w')
    (hx : ev env x = some (.iface tv (.pointer (some a0)))) (hxs : evs env xs = some vs) (hc : Calls P f (rv :: vs).toArray w R) (hd : Nat.blt d n = true) (h : ∀ e w', R e w' → ∃ v, e = .returned v ∧ E n ((d, v) :: env) w' K) :
    OW P n env w ⟨some d, .call { callee := .invoke x nm, args := xs.toArray, argTypes := ts }, ty, pos, aft, gd⟩ K Q := by
  constructor; intro a ha
  show Oper.upon P _ a K Q ((execOp a.eval _).run P w)
  have hr : (execOp a.eval ⟨some d, .call { callee := .invoke x nm, args := xs.toArray, argTypes := ts }, ty, pos, aft, gd⟩).run P w = .ok (.enter f (rv :: vs).toArray) w := by
    have he : (xs.toArray.map a.eval) = vs.toArray := by simp [ha.evs hxs]
    simp only [execOp, resolve, ha.ev hx, he]
    have := hm w rfl
    simpa [invoke] using this
  rw [hr]
  refine Calls.mono hc fun e w' hR => ?_
  obtain ⟨v, rfl, hk⟩ := h e w' hR
  exact hk.run _ (ha.put (d := d) v hd)
theorem callmG {d : Nat} {f : FuncId} {x : Operand} {nm : String} {xs : List Operand} {ts : Array TypeId} {ty : TypeId} {pos : String} {aft : Array Edge} {gd : Option (Nat × Bool)} {vs : List Value} {rv : Value} {tv : TypeId} {a0 : Addr} {ps1 : List Pf} {hp1 rest : List Res} {σ : Type} {val : σ → Value} {ps' : σ → List Pf} {hp' : σ → List Res}
    (hc : Does P f (rv :: vs) ps1 hp1 val ps' hp') (hm : ∀ F w, AllP F w ps → AllR F w hp → (callMethod (.iface tv (.pointer (some a0))) nm vs.toArray).run P w = .ok (.enter f (rv :: vs).toArray) w) (hx : ev env x = some (.iface tv (.pointer (some a0)))) (hxs : evs env xs = some vs) (hps : ∀ p ∈ ps1, p ∈ ps) (hl : hp.Perm (hp1 ++ rest)) (hd : Nat.blt d n = true) (h : ∀ s, G n ((d, val s) :: env) b (ps' s ++ ps) (hp' s ++ rest) K) :
    GO P n env b ps hp ⟨some d, .call { callee := .invoke x nm, args := xs.toArray, argTypes := ts }, ty, pos, aft, gd⟩ K Q := by
  constructor
  rintro w ⟨F, s0⟩
  have s := s0.perm hl
  refine callm (fun w' e => by subst e; exact hm F _ s0.fs s0.rs) hx hxs (hc.run w F b (s.less hps (List.sublist_append_left _ _))) hd ?_
  rintro e w' ⟨i, rfl, h'⟩
  obtain ⟨F', _, _, _, s'⟩ := s.act h'
  exact ⟨_, rfl, (h i).run w' ⟨F', s'⟩⟩
/-- A cell of a row. -/
theorem row_cell {bl o : Nat} {t te : TypeId} {vs : List Value} {v : Value} {rest : List Res} [h1 : UOne P t] [hf : FRow bl hp te vs rest] (hv : vs[o]? = some v) {F : Nat → Prop} {w : World} (h : AllR F w hp) : (loadVar t ⟨bl, o, none⟩).run P w = .ok v w := by
  have hr : Row w bl te vs := h _ (hf.p.mem_iff.2 List.mem_cons_self)
  simp [loadVar, h1.a, hr.cell_some hv]
theorem clm {d : Nat} {f : FuncId} {x : Operand} {nm : String} {xs : List Operand} {ts : Array TypeId} {ty : TypeId} {pos : String} {aft : Array Edge} {gd : Option (Nat × Bool)} {vs : List Value} {tv e : TypeId} {a0 : Addr} [UMeth P tv nm f true] [UPtr P tv e] [UFunc P f] {ps1 : List Pf} {hp1 rest : List Res} {σ : Type} {val : σ → Value} {ps' : σ → List Pf} {hp' : σ → List Res}
    {pz : σ → List Pf} {hz : σ → List Res} (hc : Does P f (.pointer (some a0) :: vs) ps1 hp1 val ps' hp') (h : ∀ s, G n ((d, val s) :: env) b (pz s) (hz s) K)
    (hx : ev env x = some (.iface tv (.pointer (some a0))) := by exact rfl) (hxs : evs env xs = some vs := by exact rfl)
    (hps : AllIn ps1 ps := by first | ((repeat (first | apply Go.GX.AllIn.nil | apply Go.GX.AllIn.cons | (with_reducible apply Go.GX.InP.head) | apply Go.GX.InP.tail)); done) | (repeat (first | apply Go.GX.AllIn.nil | apply Go.GX.AllIn.cons | apply Go.GX.InP.head | apply Go.GX.InP.tail)))
    (hl : SelR hp1 hp rest := by first | ((repeat (first | apply Go.GX.SelR.nil | apply Go.GX.SelR.cons | (with_reducible apply Go.GX.TakeR.head) | apply Go.GX.TakeR.tail)); done) | (repeat (first | apply Go.GX.SelR.nil | apply Go.GX.SelR.cons | apply Go.GX.TakeR.head | apply Go.GX.TakeR.tail)))
    (a1 : ∀ s, App (ps' s) ps (pz s) := by intro s; exact inferInstance) (a2 : ∀ s, App (hp' s) rest (hz s) := by intro s; exact inferInstance) (hd : Nat.blt d n = true := by exact rfl) :
    GO P n env b ps hp ⟨some d, .call { callee := .invoke x nm, args := xs.toArray, argTypes := ts }, ty, pos, aft, gd⟩ K Q := callmG hc (fun F w _ _ => by have := run_methP (P := P) (nm := nm) (t := tv) (e := e) a0 vs.toArray w; simpa using this) hx hxs hps.sub hl.perm hd (fun s => by rw [← (a1 s).eq, ← (a2 s).eq]; exact h s)
theorem clw {d : Nat} {f : FuncId} {x : Operand} {nm : String} {xs : List Operand} {ts : Array TypeId} {ty : TypeId} {pos : String} {aft : Array Edge} {gd : Option (Nat × Bool)} {vs us : List Value} {v : Value} {tv e te : TypeId} {bl o : Nat} {r0 : List Res} [UMeth P tv nm f false] [UPtr P tv e] [UFunc P f] [UOne P e] {ps1 : List Pf} {hp1 rest : List Res} {σ : Type} {val : σ → Value} {ps' : σ → List Pf} {hp' : σ → List Res}
    {pz : σ → List Pf} {hz : σ → List Res} (hc : Does P f (v :: vs) ps1 hp1 val ps' hp') (hv : us[o]? = some v) (h : ∀ s, G n ((d, val s) :: env) b (pz s) (hz s) K)
    (hx : ev env x = some (.iface tv (.pointer (some ⟨bl, o, none⟩))) := by exact rfl) (hf : FRow bl hp te us r0 := by exact inferInstance) (hxs : evs env xs = some vs := by exact rfl)
    (hps : AllIn ps1 ps := by first | ((repeat (first | apply Go.GX.AllIn.nil | apply Go.GX.AllIn.cons | (with_reducible apply Go.GX.InP.head) | apply Go.GX.InP.tail)); done) | (repeat (first | apply Go.GX.AllIn.nil | apply Go.GX.AllIn.cons | apply Go.GX.InP.head | apply Go.GX.InP.tail)))
    (hl : SelR hp1 hp rest := by first | ((repeat (first | apply Go.GX.SelR.nil | apply Go.GX.SelR.cons | (with_reducible apply Go.GX.TakeR.head) | apply Go.GX.TakeR.tail)); done) | (repeat (first | apply Go.GX.SelR.nil | apply Go.GX.SelR.cons | apply Go.GX.TakeR.head | apply Go.GX.TakeR.tail)))
    (a1 : ∀ s, App (ps' s) ps (pz s) := by intro s; exact inferInstance) (a2 : ∀ s, App (hp' s) rest (hz s) := by intro s; exact inferInstance) (hd : Nat.blt d n = true := by exact rfl) :
    GO P n env b ps hp ⟨some d, .call { callee := .invoke x nm, args := xs.toArray, argTypes := ts }, ty, pos, aft, gd⟩ K Q := callmG hc (fun F w _ hr => by have := run_methV (P := P) (nm := nm) (t := tv) (e := e) ⟨bl, o, none⟩ vs.toArray w (row_cell (te := te) (rest := r0) (vs := us) hv hr); simpa using this) hx hxs hps.sub hl.perm hd (fun s => by rw [← (a1 s).eq, ← (a2 s).eq]; exact h s)
theorem mki {d : Nat} {ty : TypeId} {pos : String} {aft : Array Edge} {gd : Option (Nat × Bool)} {t : TypeId} {x : Operand} {v : Value} [UPlainT P t] (h : G n ((d, .iface t v) :: env) b ps hp K) (hx : ev env x = some v := by exact rfl) (hd : Nat.blt d n = true := by exact rfl) : GO P n env b ps hp ⟨some d, .makeInterface t x, ty, pos, aft, gd⟩ K Q := rd1 (mki_v hx) hd h
theorem tas {d : Nat} {ty : TypeId} {pos : String} {aft : Array Edge} {gd : Option (Nat × Bool)} {t t' : TypeId} {x : Operand} {v : Value} [UPlainT P t'] (h : G n ((d, v) :: env) b ps hp K) (hx : ev env x = some (.iface t' v) := by exact rfl) (hd : Nat.blt d n = true := by exact rfl) : GO P n env b ps hp ⟨some d, .typeAssert x t t' false, ty, pos, aft, gd⟩ K Q := rd1 (tas_v hx) hd h
end
end Go.GX

/- Shifts, bits and conversions of numbers. Written by wip/gbit.py. No program in sight. -/
namespace Go.GX
open Go Go.RowKit Go.RR Go.RX
def shlV (k : IntKind) (i c : Int) : Int := k.wrap (i * 2 ^ (min c.toNat k.bits))
def shrV (k : IntKind) (i c : Int) : Int := i.fdiv (2 ^ (min c.toNat k.bits))
def bAnd (k : IntKind) (i j : Int) : Int := k.wrap ((BitVec.ofInt k.bits i &&& BitVec.ofInt k.bits j).toNat)
def bOr (k : IntKind) (i j : Int) : Int := k.wrap ((BitVec.ofInt k.bits i ||| BitVec.ofInt k.bits j).toNat)
def bNot (k : IntKind) (i j : Int) : Int := k.wrap ((BitVec.ofInt k.bits i &&& ~~~(BitVec.ofInt k.bits j)).toNat)
def cplV (k : IntKind) (i : Int) : Int := k.wrap ((BitVec.ofInt k.bits (if k.signed then -1 else k.max) ^^^ BitVec.ofInt k.bits i).toNat)
def strEq (u v : ByteArray) : Bool := u.toList == v.toList
def strNe (u v : ByteArray) : Bool := !strEq u v
section
variable {P : Program} {n : Nat} {env : Env} {b : Base} {ps : List Pf} {hp : List Res} {Q : Exit → Act → World → Prop} {K : Act → World → Prop}
section sems
variable {S : World → Prop} {t t' : TypeId} {x y : Operand}
theorem shl_v {k k2 : IntKind} {i c : Int} (hx : ev env x = some (.int k i)) (hy : ev env y = some (.int k2 c)) (hb : 0 ≤ c) : Soft P n env S (.binOp .shl t x y t') (.int k (shlV k i c)) := fun a ha o ho w _ => by
  simp [execOp, ho, ha.ev hx, ha.ev hy, eqGuard, binOp, Op.shift, shlV, Int.not_lt.2 hb]
theorem shr_v {k k2 : IntKind} {i c : Int} (hx : ev env x = some (.int k i)) (hy : ev env y = some (.int k2 c)) (hb : 0 ≤ c) : Soft P n env S (.binOp .shr t x y t') (.int k (shrV k i c)) := fun a ha o ho w _ => by
  simp [execOp, ho, ha.ev hx, ha.ev hy, eqGuard, binOp, Op.shift, shrV, Int.not_lt.2 hb]
theorem and_v {k : IntKind} {i j : Int} (hx : ev env x = some (.int k i)) (hy : ev env y = some (.int k j)) : Soft P n env S (.binOp .and t x y t') (.int k (bAnd k i j)) := fun a ha o ho w _ => by
  simp [execOp, ho, ha.ev hx, ha.ev hy, eqGuard_at_int, binOp, Op.intBits, bAnd]
theorem or_v {k : IntKind} {i j : Int} (hx : ev env x = some (.int k i)) (hy : ev env y = some (.int k j)) : Soft P n env S (.binOp .or t x y t') (.int k (bOr k i j)) := fun a ha o ho w _ => by
  simp [execOp, ho, ha.ev hx, ha.ev hy, eqGuard_at_int, binOp, Op.intBits, bOr]
theorem andNot_v {k : IntKind} {i j : Int} (hx : ev env x = some (.int k i)) (hy : ev env y = some (.int k j)) : Soft P n env S (.binOp .andNot t x y t') (.int k (bNot k i j)) := fun a ha o ho w _ => by
  simp [execOp, ho, ha.ev hx, ha.ev hy, eqGuard_at_int, binOp, Op.intBits, bNot]
theorem cpl_v {k : IntKind} {i : Int} (hx : ev env x = some (.int k i)) : Soft P n env S (.unOp .xor t x) (.int k (cplV k i)) := fun a ha o ho w _ => by
  simp [execOp, ho, ha.ev hx, Op.unary, Op.intBits, cplV]
theorem cv_v {k0 k1 k : IntKind} {i : Int} [h0 : UInt P t k0] [h1 : UInt P t' k] (hx : ev env x = some (.int k1 i)) : Soft P n env S (.convert t t' x) (.int k (k.wrap i)) := fun a ha o ho w _ => by
  simp [execOp, ho, ha.ev hx, convert, run_underlying h0.u, run_underlying h1.u, Conv.intToInt]
theorem seql_v {u v : ByteArray} [h : UString P t] (hx : ev env x = some (.string u)) (hy : ev env y = some (.string v)) : Soft P n env S (.binOp .eql t x y t') (.bool (strEq u v)) := fun a ha o ho w _ => by
  simp [execOp, ho, ha.ev hx, ha.ev hy, eqGuard, binOp, Op.stringOp, strEq]
theorem sneq_v {u v : ByteArray} [h : UString P t] (hx : ev env x = some (.string u)) (hy : ev env y = some (.string v)) : Soft P n env S (.binOp .neq t x y t') (.bool (strNe u v)) := fun a ha o ho w _ => by
  simp [execOp, ho, ha.ev hx, ha.ev hy, eqGuard, binOp, Op.stringOp, bne, strNe, strEq]
theorem cvs_rd {ao : Option Addr} {cap cap' m : Nat} {xs : List Int} {et : TypeId} [ht : USlice P t et] [he : UInt P et .u8] [hs : UString P t'] [hf : FSl ao ps Ty.byte cap xs] (hx : ev env x = some (.slice ao m cap')) (hm : m = xs.length) :
    Rd P n env ps hp (.convert t t' x) (fun _ : Unit => .string (strOfNums xs)) (fun _ => []) := fun F w h1 h2 => by
  subst hm
  obtain ⟨hc, hb, hsl⟩ : (Sl Ty.byte ao cap xs).says F w := h1 _ hf.mem
  refine ⟨(), fun p hp => by simp at hp, fun a ha o ho w' hag => ?_⟩
  have h3 : SlAt Ty.byte (fun k => F k ∨ feet hp k) w' ao xs := (hsl.move (fun _ _ h => .inl h) (Agree.refl _ _)).move (fun _ _ h => h) hag
  have key : (convert t t' (.slice ao xs.length cap')).run P w' = .ok (.string (strOfNums xs)) w' := by
    cases ao with
    | none =>
      have hx0 : xs = [] := by
        cases xs with
        | nil => rfl
        | cons x l => obtain ⟨b, o, cs, h, _⟩ := h3 0 x (by simp); cases h
      subst hx0
      exact run_convert_bytes_nil w' t et ht.u he.u _ _ t' hs.u
    | some a =>
      have hl : (loadCells a xs.length).run P w' = .ok (xs.map (Value.int .u8)).toArray w' := by
        have := run_loadCells_list (P := P) w' a (xs.map (Value.int .u8)) (fun j v hj => by
          rw [List.getElem?_map] at hj
          obtain ⟨x, hxj, rfl⟩ := Option.map_eq_some_iff.1 hj
          obtain ⟨b, o, cs, h4, h5, h6, h7, h8⟩ := h3 j x hxj
          have h8 : cs = [.int .u8 x] := h8
          cases h4
          have hone : (Ty.byte).size = 1 := rfl
          rw [hone, Nat.mul_one, h8] at h7
          have hplain : (⟨b, o, none⟩ : Addr).add j = ⟨b, o + j, none⟩ := Addr.add_lit _ _ _
          rw [hplain]
          have := h7 0 _ rfl
          simpa using this)
        simpa using this
      rw [run_convert_bytes_string w' t t' et _ _ _ ht.u he.u hs.u, run_bytesToString w' _ _ _ xs hl, foldl_push_bytes]
      simp [strOfNums, ByteArray.empty, ByteArray.emptyWithCapacity]
      rfl
  simp [execOp, ho, ha.ev hx, key]
end sems
theorem b_shl {t t' : TypeId} {x y : Operand} {k k2 : IntKind} {i c : Int} {d : Nat} {ty : TypeId} {pos : String} {aft : Array Edge} {gd : Option (Nat × Bool)} (h : G n ((d, .int k (shlV k i c)) :: env) b ps hp K) (hx : ev env x = some (.int k i) := by exact rfl) (hy : ev env y = some (.int k2 c) := by exact rfl) (hb : 0 ≤ c := by omega)  (hd : Nat.blt d n = true := by exact rfl) : GO P n env b ps hp ⟨some d, .binOp .shl t x y t', ty, pos, aft, gd⟩ K Q := rd1 (shl_v hx hy hb) hd h
theorem tb_shl {t t' : TypeId} {x y : Operand} {k k2 : IntKind} {i c : Int} {d : Nat} {ty : TypeId} {pos : String} {aft : Array Edge} {gd : Option (Nat × Bool)} (h : G n ((d, .int k (shlV k i c)) :: env) b ps hp K) (hx : ev env x = some (.int k i) := by exact rfl) (hy : ev env y = some (.int k2 c) := by exact rfl) (hb : 0 ≤ c := by omega)  (hd : Nat.blt d n = true := by exact rfl) : GT P n env b ps hp ⟨some d, .binOp .shl t x y t', ty, pos, aft, gd⟩ K := tp1 (shl_v hx hy hb) hd h
theorem rb_shl {t t' : TypeId} {x y : Operand} {k k2 : IntKind} {i c : Int} {d : Nat} {ty : TypeId} {pos : String} {aft : Array Edge} {gd : Option (Nat × Bool)} {psW : List Pf} {hpS : List Res} {wd : World} {F : Nat → Prop} (h : G n ((d, .int k (shlV k i c)) :: env) b ps hp K) (hx : ev env x = some (.int k i) := by exact rfl) (hy : ev env y = some (.int k2 c) := by exact rfl) (hb : 0 ≤ c := by omega)  (hd : Nat.blt d n = true := by exact rfl) : GTR P n env psW hpS wd F b ps hp K ⟨some d, .binOp .shl t x y t', ty, pos, aft, gd⟩ := .v (.of_soft fun _ => shl_v hx hy hb) hd h
theorem b_shr {t t' : TypeId} {x y : Operand} {k k2 : IntKind} {i c : Int} {d : Nat} {ty : TypeId} {pos : String} {aft : Array Edge} {gd : Option (Nat × Bool)} (h : G n ((d, .int k (shrV k i c)) :: env) b ps hp K) (hx : ev env x = some (.int k i) := by exact rfl) (hy : ev env y = some (.int k2 c) := by exact rfl) (hb : 0 ≤ c := by omega)  (hd : Nat.blt d n = true := by exact rfl) : GO P n env b ps hp ⟨some d, .binOp .shr t x y t', ty, pos, aft, gd⟩ K Q := rd1 (shr_v hx hy hb) hd h
theorem tb_shr {t t' : TypeId} {x y : Operand} {k k2 : IntKind} {i c : Int} {d : Nat} {ty : TypeId} {pos : String} {aft : Array Edge} {gd : Option (Nat × Bool)} (h : G n ((d, .int k (shrV k i c)) :: env) b ps hp K) (hx : ev env x = some (.int k i) := by exact rfl) (hy : ev env y = some (.int k2 c) := by exact rfl) (hb : 0 ≤ c := by omega)  (hd : Nat.blt d n = true := by exact rfl) : GT P n env b ps hp ⟨some d, .binOp .shr t x y t', ty, pos, aft, gd⟩ K := tp1 (shr_v hx hy hb) hd h
theorem rb_shr {t t' : TypeId} {x y : Operand} {k k2 : IntKind} {i c : Int} {d : Nat} {ty : TypeId} {pos : String} {aft : Array Edge} {gd : Option (Nat × Bool)} {psW : List Pf} {hpS : List Res} {wd : World} {F : Nat → Prop} (h : G n ((d, .int k (shrV k i c)) :: env) b ps hp K) (hx : ev env x = some (.int k i) := by exact rfl) (hy : ev env y = some (.int k2 c) := by exact rfl) (hb : 0 ≤ c := by omega)  (hd : Nat.blt d n = true := by exact rfl) : GTR P n env psW hpS wd F b ps hp K ⟨some d, .binOp .shr t x y t', ty, pos, aft, gd⟩ := .v (.of_soft fun _ => shr_v hx hy hb) hd h
theorem b_andv {t t' : TypeId} {x y : Operand} {k : IntKind} {i j : Int} {d : Nat} {ty : TypeId} {pos : String} {aft : Array Edge} {gd : Option (Nat × Bool)} (h : G n ((d, .int k (bAnd k i j)) :: env) b ps hp K) (hx : ev env x = some (.int k i) := by exact rfl) (hy : ev env y = some (.int k j) := by exact rfl)  (hd : Nat.blt d n = true := by exact rfl) : GO P n env b ps hp ⟨some d, .binOp .and t x y t', ty, pos, aft, gd⟩ K Q := rd1 (and_v hx hy) hd h
theorem tb_andv {t t' : TypeId} {x y : Operand} {k : IntKind} {i j : Int} {d : Nat} {ty : TypeId} {pos : String} {aft : Array Edge} {gd : Option (Nat × Bool)} (h : G n ((d, .int k (bAnd k i j)) :: env) b ps hp K) (hx : ev env x = some (.int k i) := by exact rfl) (hy : ev env y = some (.int k j) := by exact rfl)  (hd : Nat.blt d n = true := by exact rfl) : GT P n env b ps hp ⟨some d, .binOp .and t x y t', ty, pos, aft, gd⟩ K := tp1 (and_v hx hy) hd h
theorem rb_andv {t t' : TypeId} {x y : Operand} {k : IntKind} {i j : Int} {d : Nat} {ty : TypeId} {pos : String} {aft : Array Edge} {gd : Option (Nat × Bool)} {psW : List Pf} {hpS : List Res} {wd : World} {F : Nat → Prop} (h : G n ((d, .int k (bAnd k i j)) :: env) b ps hp K) (hx : ev env x = some (.int k i) := by exact rfl) (hy : ev env y = some (.int k j) := by exact rfl)  (hd : Nat.blt d n = true := by exact rfl) : GTR P n env psW hpS wd F b ps hp K ⟨some d, .binOp .and t x y t', ty, pos, aft, gd⟩ := .v (.of_soft fun _ => and_v hx hy) hd h
theorem b_orv {t t' : TypeId} {x y : Operand} {k : IntKind} {i j : Int} {d : Nat} {ty : TypeId} {pos : String} {aft : Array Edge} {gd : Option (Nat × Bool)} (h : G n ((d, .int k (bOr k i j)) :: env) b ps hp K) (hx : ev env x = some (.int k i) := by exact rfl) (hy : ev env y = some (.int k j) := by exact rfl)  (hd : Nat.blt d n = true := by exact rfl) : GO P n env b ps hp ⟨some d, .binOp .or t x y t', ty, pos, aft, gd⟩ K Q := rd1 (or_v hx hy) hd h
theorem tb_orv {t t' : TypeId} {x y : Operand} {k : IntKind} {i j : Int} {d : Nat} {ty : TypeId} {pos : String} {aft : Array Edge} {gd : Option (Nat × Bool)} (h : G n ((d, .int k (bOr k i j)) :: env) b ps hp K) (hx : ev env x = some (.int k i) := by exact rfl) (hy : ev env y = some (.int k j) := by exact rfl)  (hd : Nat.blt d n = true := by exact rfl) : GT P n env b ps hp ⟨some d, .binOp .or t x y t', ty, pos, aft, gd⟩ K := tp1 (or_v hx hy) hd h
theorem rb_orv {t t' : TypeId} {x y : Operand} {k : IntKind} {i j : Int} {d : Nat} {ty : TypeId} {pos : String} {aft : Array Edge} {gd : Option (Nat × Bool)} {psW : List Pf} {hpS : List Res} {wd : World} {F : Nat → Prop} (h : G n ((d, .int k (bOr k i j)) :: env) b ps hp K) (hx : ev env x = some (.int k i) := by exact rfl) (hy : ev env y = some (.int k j) := by exact rfl)  (hd : Nat.blt d n = true := by exact rfl) : GTR P n env psW hpS wd F b ps hp K ⟨some d, .binOp .or t x y t', ty, pos, aft, gd⟩ := .v (.of_soft fun _ => or_v hx hy) hd h
theorem b_andNotv {t t' : TypeId} {x y : Operand} {k : IntKind} {i j : Int} {d : Nat} {ty : TypeId} {pos : String} {aft : Array Edge} {gd : Option (Nat × Bool)} (h : G n ((d, .int k (bNot k i j)) :: env) b ps hp K) (hx : ev env x = some (.int k i) := by exact rfl) (hy : ev env y = some (.int k j) := by exact rfl)  (hd : Nat.blt d n = true := by exact rfl) : GO P n env b ps hp ⟨some d, .binOp .andNot t x y t', ty, pos, aft, gd⟩ K Q := rd1 (andNot_v hx hy) hd h
theorem tb_andNotv {t t' : TypeId} {x y : Operand} {k : IntKind} {i j : Int} {d : Nat} {ty : TypeId} {pos : String} {aft : Array Edge} {gd : Option (Nat × Bool)} (h : G n ((d, .int k (bNot k i j)) :: env) b ps hp K) (hx : ev env x = some (.int k i) := by exact rfl) (hy : ev env y = some (.int k j) := by exact rfl)  (hd : Nat.blt d n = true := by exact rfl) : GT P n env b ps hp ⟨some d, .binOp .andNot t x y t', ty, pos, aft, gd⟩ K := tp1 (andNot_v hx hy) hd h
theorem rb_andNotv {t t' : TypeId} {x y : Operand} {k : IntKind} {i j : Int} {d : Nat} {ty : TypeId} {pos : String} {aft : Array Edge} {gd : Option (Nat × Bool)} {psW : List Pf} {hpS : List Res} {wd : World} {F : Nat → Prop} (h : G n ((d, .int k (bNot k i j)) :: env) b ps hp K) (hx : ev env x = some (.int k i) := by exact rfl) (hy : ev env y = some (.int k j) := by exact rfl)  (hd : Nat.blt d n = true := by exact rfl) : GTR P n env psW hpS wd F b ps hp K ⟨some d, .binOp .andNot t x y t', ty, pos, aft, gd⟩ := .v (.of_soft fun _ => andNot_v hx hy) hd h
theorem u_cpl {t : TypeId} {x : Operand} {k : IntKind} {i : Int} {d : Nat} {ty : TypeId} {pos : String} {aft : Array Edge} {gd : Option (Nat × Bool)} (h : G n ((d, .int k (cplV k i)) :: env) b ps hp K) (hx : ev env x = some (.int k i) := by exact rfl)  (hd : Nat.blt d n = true := by exact rfl) : GO P n env b ps hp ⟨some d, .unOp .xor t x, ty, pos, aft, gd⟩ K Q := rd1 (cpl_v hx) hd h
theorem tu_cpl {t : TypeId} {x : Operand} {k : IntKind} {i : Int} {d : Nat} {ty : TypeId} {pos : String} {aft : Array Edge} {gd : Option (Nat × Bool)} (h : G n ((d, .int k (cplV k i)) :: env) b ps hp K) (hx : ev env x = some (.int k i) := by exact rfl)  (hd : Nat.blt d n = true := by exact rfl) : GT P n env b ps hp ⟨some d, .unOp .xor t x, ty, pos, aft, gd⟩ K := tp1 (cpl_v hx) hd h
theorem ru_cpl {t : TypeId} {x : Operand} {k : IntKind} {i : Int} {d : Nat} {ty : TypeId} {pos : String} {aft : Array Edge} {gd : Option (Nat × Bool)} {psW : List Pf} {hpS : List Res} {wd : World} {F : Nat → Prop} (h : G n ((d, .int k (cplV k i)) :: env) b ps hp K) (hx : ev env x = some (.int k i) := by exact rfl)  (hd : Nat.blt d n = true := by exact rfl) : GTR P n env psW hpS wd F b ps hp K ⟨some d, .unOp .xor t x, ty, pos, aft, gd⟩ := .v (.of_soft fun _ => cpl_v hx) hd h
theorem cv {t t' : TypeId} {x : Operand} {k0 k1 k : IntKind} {i : Int} [UInt P t k0] [UInt P t' k] {d : Nat} {ty : TypeId} {pos : String} {aft : Array Edge} {gd : Option (Nat × Bool)} (h : G n ((d, .int k (k.wrap i)) :: env) b ps hp K) (hx : ev env x = some (.int k1 i) := by exact rfl)  (hd : Nat.blt d n = true := by exact rfl) : GO P n env b ps hp ⟨some d, .convert t t' x, ty, pos, aft, gd⟩ K Q := rd1 (cv_v (k0 := k0) hx) hd h
theorem tcv {t t' : TypeId} {x : Operand} {k0 k1 k : IntKind} {i : Int} [UInt P t k0] [UInt P t' k] {d : Nat} {ty : TypeId} {pos : String} {aft : Array Edge} {gd : Option (Nat × Bool)} (h : G n ((d, .int k (k.wrap i)) :: env) b ps hp K) (hx : ev env x = some (.int k1 i) := by exact rfl)  (hd : Nat.blt d n = true := by exact rfl) : GT P n env b ps hp ⟨some d, .convert t t' x, ty, pos, aft, gd⟩ K := tp1 (cv_v (k0 := k0) hx) hd h
theorem rcv {t t' : TypeId} {x : Operand} {k0 k1 k : IntKind} {i : Int} [UInt P t k0] [UInt P t' k] {d : Nat} {ty : TypeId} {pos : String} {aft : Array Edge} {gd : Option (Nat × Bool)} {psW : List Pf} {hpS : List Res} {wd : World} {F : Nat → Prop} (h : G n ((d, .int k (k.wrap i)) :: env) b ps hp K) (hx : ev env x = some (.int k1 i) := by exact rfl)  (hd : Nat.blt d n = true := by exact rfl) : GTR P n env psW hpS wd F b ps hp K ⟨some d, .convert t t' x, ty, pos, aft, gd⟩ := .v (.of_soft fun _ => cv_v (k0 := k0) hx) hd h
theorem b_seq {t t' : TypeId} {x y : Operand} {u v : ByteArray} [UString P t] {d : Nat} {ty : TypeId} {pos : String} {aft : Array Edge} {gd : Option (Nat × Bool)} (h : G n ((d, .bool (strEq u v)) :: env) b ps hp K) (hx : ev env x = some (.string u) := by exact rfl) (hy : ev env y = some (.string v) := by exact rfl)  (hd : Nat.blt d n = true := by exact rfl) : GO P n env b ps hp ⟨some d, .binOp .eql t x y t', ty, pos, aft, gd⟩ K Q := rd1 (seql_v hx hy) hd h
theorem tb_seq {t t' : TypeId} {x y : Operand} {u v : ByteArray} [UString P t] {d : Nat} {ty : TypeId} {pos : String} {aft : Array Edge} {gd : Option (Nat × Bool)} (h : G n ((d, .bool (strEq u v)) :: env) b ps hp K) (hx : ev env x = some (.string u) := by exact rfl) (hy : ev env y = some (.string v) := by exact rfl)  (hd : Nat.blt d n = true := by exact rfl) : GT P n env b ps hp ⟨some d, .binOp .eql t x y t', ty, pos, aft, gd⟩ K := tp1 (seql_v hx hy) hd h
theorem rb_seq {t t' : TypeId} {x y : Operand} {u v : ByteArray} [UString P t] {d : Nat} {ty : TypeId} {pos : String} {aft : Array Edge} {gd : Option (Nat × Bool)} {psW : List Pf} {hpS : List Res} {wd : World} {F : Nat → Prop} (h : G n ((d, .bool (strEq u v)) :: env) b ps hp K) (hx : ev env x = some (.string u) := by exact rfl) (hy : ev env y = some (.string v) := by exact rfl)  (hd : Nat.blt d n = true := by exact rfl) : GTR P n env psW hpS wd F b ps hp K ⟨some d, .binOp .eql t x y t', ty, pos, aft, gd⟩ := .v (.of_soft fun _ => seql_v hx hy) hd h
theorem b_sne {t t' : TypeId} {x y : Operand} {u v : ByteArray} [UString P t] {d : Nat} {ty : TypeId} {pos : String} {aft : Array Edge} {gd : Option (Nat × Bool)} (h : G n ((d, .bool (strNe u v)) :: env) b ps hp K) (hx : ev env x = some (.string u) := by exact rfl) (hy : ev env y = some (.string v) := by exact rfl)  (hd : Nat.blt d n = true := by exact rfl) : GO P n env b ps hp ⟨some d, .binOp .neq t x y t', ty, pos, aft, gd⟩ K Q := rd1 (sneq_v hx hy) hd h
theorem tb_sne {t t' : TypeId} {x y : Operand} {u v : ByteArray} [UString P t] {d : Nat} {ty : TypeId} {pos : String} {aft : Array Edge} {gd : Option (Nat × Bool)} (h : G n ((d, .bool (strNe u v)) :: env) b ps hp K) (hx : ev env x = some (.string u) := by exact rfl) (hy : ev env y = some (.string v) := by exact rfl)  (hd : Nat.blt d n = true := by exact rfl) : GT P n env b ps hp ⟨some d, .binOp .neq t x y t', ty, pos, aft, gd⟩ K := tp1 (sneq_v hx hy) hd h
theorem rb_sne {t t' : TypeId} {x y : Operand} {u v : ByteArray} [UString P t] {d : Nat} {ty : TypeId} {pos : String} {aft : Array Edge} {gd : Option (Nat × Bool)} {psW : List Pf} {hpS : List Res} {wd : World} {F : Nat → Prop} (h : G n ((d, .bool (strNe u v)) :: env) b ps hp K) (hx : ev env x = some (.string u) := by exact rfl) (hy : ev env y = some (.string v) := by exact rfl)  (hd : Nat.blt d n = true := by exact rfl) : GTR P n env psW hpS wd F b ps hp K ⟨some d, .binOp .neq t x y t', ty, pos, aft, gd⟩ := .v (.of_soft fun _ => sneq_v hx hy) hd h
theorem cvs {ao : Option Addr} {cap cap' m : Nat} {xs : List Int} {t t' et : TypeId} {x : Operand} {d : Nat} {ty : TypeId} {pos : String} {aft : Array Edge} {gd : Option (Nat × Bool)} [USlice P t et] [UInt P et .u8] [UString P t'] [FSl ao ps Ty.byte cap xs] (h : G n ((d, .string (strOfNums xs)) :: env) b ps hp K) (hx : ev env x = some (.slice ao m cap') := by exact rfl) (hm : m = xs.length := by first | exact rfl | (simp; done) | omega) (hd : Nat.blt d n = true := by exact rfl) : GO P n env b ps hp ⟨some d, .convert t t' x, ty, pos, aft, gd⟩ K Q := rd (cvs_rd (cap := cap) hx hm) hd (fun _ => h)
theorem rcvs {psW : List Pf} {hpS : List Res} {wd : World} {F : Nat → Prop} {ao : Option Addr} {cap cap' m : Nat} {xs : List Int} {t t' et : TypeId} {x : Operand} {d : Nat} {ty : TypeId} {pos : String} {aft : Array Edge} {gd : Option (Nat × Bool)} [USlice P t et] [UInt P et .u8] [UString P t'] [FSl ao psW Ty.byte cap xs] (h : G n ((d, .string (strOfNums xs)) :: env) b ps hp K) (hx : ev env x = some (.slice ao m cap') := by exact rfl) (hm : m = xs.length := by first | exact rfl | (simp; done) | omega) (hd : Nat.blt d n = true := by exact rfl) : GTR P n env psW hpS wd F b ps hp K ⟨some d, .convert t t' x, ty, pos, aft, gd⟩ := .mk (cvs_rd (cap := cap) hx hm) hd (fun _ _ => h)
end
end Go.GX
