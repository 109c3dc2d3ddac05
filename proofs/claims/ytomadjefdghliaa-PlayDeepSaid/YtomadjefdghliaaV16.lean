import Derived.Test.YtomadjefdghliaaV9
import Derived.Test.YtomadjefdghliaaV12
import Derived.Laws.BytesArg
import Derived.Laws.Strings
import Derived.Laws.CopyRow
import Derived.Laws.IdiomCopy
/- Shifts, bits and conversions of numbers. Written by wip/gbit.py. No program in sight. -/
namespace Go.GX
open Go Go.RowKit Go.RR Go.RX
def shlV (k : IntKind) (i c : Int) : Int := k.wrap (i * 2 ^ (min c.toNat k.bits))
def shrV (k : IntKind) (i c : Int) : Int := i.fdiv (2 ^ (min c.toNat k.bits))
def bAnd (k : IntKind) (i j : Int) : Int := k.wrap ((BitVec.ofInt k.bits i &&& BitVec.ofInt k.bits j).toNat)
def bOr (k : IntKind) (i j : Int) : Int := k.wrap ((BitVec.ofInt k.bits i ||| BitVec.ofInt k.bits j).toNat)
def bNot (k : IntKind) (i j : Int) : Int := k.wrap ((BitVec.ofInt k.bits i &&& ~~~(BitVec.ofInt k.bits j)).toNat)
def cplV (k : IntKind) (i : Int) : Int := k.wrap ((BitVec.ofInt k.bits (if k.signed then -1 else k.max) ^^^ BitVec.ofInt k.bits i).toNat)
def strEq (u v : ByteArray) : Bool := u.toList == v.toList
def strNe (u v : ByteArray) : Bool := !strEq u v
section
variable {P : Program} {n : Nat} {env : Env} {b : Base} {ps : List Pf} {hp : List Res} {Q : Exit → Act → World → Prop} {K : Act → World → Prop}
section sems
variable {S : World → Prop} {t t' : TypeId} {x y : Operand}
theorem shl_v {k k2 : IntKind} {i c : Int} (hx : ev env x = some (.int k i)) (hy : ev env y = some (.int k2 c)) (hb : 0 ≤ c) : Soft P n env S (.binOp .shl t x y t') (.int k (shlV k i c)) := fun a ha o ho w _ => by
  simp [execOp, ho, ha.ev hx, ha.ev hy, eqGuard, binOp, Op.shift, shlV, Int.not_lt.2 hb]
theorem shr_v {k k2 : IntKind} {i c : Int} (hx : ev env x = some (.int k i)) (hy : ev env y = some (.int k2 c)) (hb : 0 ≤ c) : Soft P n env S (.binOp .shr t x y t') (.int k (shrV k i c)) := fun a ha o ho w _ => by
  simp [execOp, ho, ha.ev hx, ha.ev hy, eqGuard, binOp, Op.shift, shrV, Int.not_lt.2 hb]
theorem and_v {k : IntKind} {i j : Int} (hx : ev env x = some (.int k i)) (hy : ev env y = some (.int k j)) : Soft P n env S (.binOp .and t x y t') (.int k (bAnd k i j)) := fun a ha o ho w _ => by
  simp [execOp, ho, ha.ev hx, ha.ev hy, eqGuard_at_int, binOp, Op.intBits, bAnd]
theorem or_v {k : IntKind} {i j : Int} (hx : ev env x = some (.int k i)) (hy : ev env y = some (.int k j)) : Soft P n env S (.binOp .or t x y t') (.int k (bOr k i j)) := fun a ha o ho w _ => by
  simp [execOp, ho, ha.ev hx, ha.ev hy, eqGuard_at_int, binOp, Op.intBits, bOr]
theorem andNot_v {k : IntKind} {i j : Int} (hx : ev env x = some (.int k i)) (hy : ev env y = some (.int k j)) : Soft P n env S (.binOp .andNot t x y t') (.int k (bNot k i j)) := fun a ha o ho w _ => by
  simp [execOp, ho, ha.ev hx, ha.ev hy, eqGuard_at_int, binOp, Op.intBits, bNot]
theorem cpl_v {k : IntKind} {i : Int} (hx : ev env x = some (.int k i)) : Soft P n env S (.unOp .xor t x) (.int k (cplV k i)) := fun a ha o ho w _ => by
  simp [execOp, ho, ha.ev hx, Op.unary, Op.intBits, cplV]
theorem cv_v {k0 k1 k : IntKind} {i : Int} [h0 : UInt P t k0] [h1 : UInt P t' k] (hx : ev env x = some (.int k1 i)) : Soft P n env S (.convert t t' x) (.int k (k.wrap i)) := fun a ha o ho w _ => by
  simp [execOp, ho, ha.ev hx, convert, run_underlying h0.u, run_underlying h1.u, Conv.intToInt]
theorem seql_v {u v : ByteArray} [h : UString P t] (hx : ev env x = some (.string u)) (hy : ev env y = some (.string v)) : Soft P n env S (.binOp .eql t x y t') (.bool (strEq u v)) := fun a ha o ho w _ => by
  simp [execOp, ho, ha.ev hx, ha.ev hy, eqGuard, binOp, Op.stringOp, strEq]
theorem sneq_v {u v : ByteArray} [h : UString P t] (hx : ev env x = some (.string u)) (hy : ev env y = some (.string v)) : Soft P n env S (.binOp .neq t x y t') (.bool (strNe u v)) := fun a ha o ho w _ => by
  simp [execOp, ho, ha.ev hx, ha.ev hy, eqGuard, binOp, Op.stringOp, bne, strNe, strEq]
theorem cvs_rd {ao : Option Addr} {cap cap' m : Nat} {xs : List Int} {et : TypeId} [ht : USlice P t et] [he : UInt P et .u8] [hs : UString P t'] [hf : FSl ao ps Ty.byte cap xs] (hx : ev env x = some (.slice ao m cap')) (hm : m = xs.length) :
    Rd P n env ps hp (.convert t t' x) (fun _ : Unit => .string (strOfNums xs)) (fun _ => []) := fun F w h1 h2 => by
  subst hm
  obtain ⟨hc, hb, hsl⟩ : (Sl Ty.byte ao cap xs).says F w := h1 _ hf.mem
  refine ⟨(), fun p hp => by simp at hp, fun a ha o ho w' hag => ?_⟩
  have h3 : SlAt Ty.byte (fun k => F k ∨ feet hp k) w' ao xs := (hsl.move (fun _ _ h => .inl h) (Agree.refl _ _)).move (fun _ _ h => h) hag
  have key : (convert t t' (.slice ao xs.length cap')).run P w' = .ok (.string (strOfNums xs)) w' := by
    cases ao with
    | none =>
      have hx0 : xs = [] := by
        cases xs with
        | nil => rfl
        | cons x l => obtain ⟨b, o, cs, h, _⟩ := h3 0 x (by simp); cases h
      subst hx0
      exact run_convert_bytes_nil w' t et ht.u he.u _ _ t' hs.u
    | some a =>
      have hl : (loadCells a xs.length).run P w' = .ok (xs.map (Value.int .u8)).toArray w' := by
        have := run_loadCells_list (P := P) w' a (xs.map (Value.int .u8)) (fun j v hj => by
          rw [List.getElem?_map] at hj
          obtain ⟨x, hxj, rfl⟩ := Option.map_eq_some_iff.1 hj
          obtain ⟨b, o, cs, h4, h5, h6, h7, h8⟩ := h3 j x hxj
          have h8 : cs = [.int .u8 x] := h8
          cases h4
          have hone : (Ty.byte).size = 1 := rfl
          rw [hone, Nat.mul_one, h8] at h7
          have hplain : (⟨b, o, none⟩ : Addr).add j = ⟨b, o + j, none⟩ := Addr.add_lit _ _ _
          rw [hplain]
          have := h7 0 _ rfl
          simpa using this)
        simpa using this
      rw [run_convert_bytes_string w' t t' et _ _ _ ht.u he.u hs.u, run_bytesToString w' _ _ _ xs hl, foldl_push_bytes]
      simp [strOfNums, ByteArray.empty, ByteArray.emptyWithCapacity]
      rfl
  simp [execOp, ho, ha.ev hx, key]
end sems
theorem b_shl {t t' : TypeId} {x y : Operand} {k k2 : IntKind} {i c : Int} {d : Nat} {ty : TypeId} {pos : String} {aft : Array Edge} {gd : Option (Nat × Bool)} (h : G n ((d, .int k (shlV k i c)) :: env) b ps hp K) (hx : ev env x = some (.int k i) := by exact rfl) (hy : ev env y = some (.int k2 c) := by exact rfl) (hb : 0 ≤ c := by omega)  (hd : Nat.blt d n = true := by exact rfl) : GO P n env b ps hp ⟨some d, .binOp .shl t x y t', ty, pos, aft, gd⟩ K Q := rd1 (shl_v hx hy hb) hd h
theorem tb_shl {t t' : TypeId} {x y : Operand} {k k2 : IntKind} {i c : Int} {d : Nat} {ty : TypeId} {pos : String} {aft : Array Edge} {gd : Option (Nat × Bool)} (h : G n ((d, .int k (shlV k i c)) :: env) b ps hp K) (hx : ev env x = some (.int k i) := by exact rfl) (hy : ev env y = some (.int k2 c) := by exact rfl) (hb : 0 ≤ c := by omega)  (hd : Nat.blt d n = true := by exact rfl) : GT P n env b ps hp ⟨some d, .binOp .shl t x y t', ty, pos, aft, gd⟩ K := tp1 (shl_v hx hy hb) hd h
theorem rb_shl {t t' : TypeId} {x y : Operand} {k k2 : IntKind} {i c : Int} {d : Nat} {ty : TypeId} {pos : String} {aft : Array Edge} {gd : Option (Nat × Bool)} {psW : List Pf} {hpS : List Res} {wd : World} {F : Nat → Prop} (h : G n ((d, .int k (shlV k i c)) :: env) b ps hp K) (hx : ev env x = some (.int k i) := by exact rfl) (hy : ev env y = some (.int k2 c) := by exact rfl) (hb : 0 ≤ c := by omega)  (hd : Nat.blt d n = true := by exact rfl) : GTR P n env psW hpS wd F b ps hp K ⟨some d, .binOp .shl t x y t', ty, pos, aft, gd⟩ := .v (.of_soft fun _ => shl_v hx hy hb) hd h
theorem b_shr {t t' : TypeId} {x y : Operand} {k k2 : IntKind} {i c : Int} {d : Nat} {ty : TypeId} {pos : String} {aft : Array Edge} {gd : Option (Nat × Bool)} (h : G n ((d, .int k (shrV k i c)) :: env) b ps hp K) (hx : ev env x = some (.int k i) := by exact rfl) (hy : ev env y = some (.int k2 c) := by exact rfl) (hb : 0 ≤ c := by omega)  (hd : Nat.blt d n = true := by exact rfl) : GO P n env b ps hp ⟨some d, .binOp .shr t x y t', ty, pos, aft, gd⟩ K Q := rd1 (shr_v hx hy hb) hd h
theorem tb_shr {t t' : TypeId} {x y : Operand} {k k2 : IntKind} {i c : Int} {d : Nat} {ty : TypeId} {pos : String} {aft : Array Edge} {gd : Option (Nat × Bool)} (h : G n ((d, .int k (shrV k i c)) :: env) b ps hp K) (hx : ev env x = some (.int k i) := by exact rfl) (hy : ev env y = some (.int k2 c) := by exact rfl) (hb : 0 ≤ c := by omega)  (hd : Nat.blt d n = true := by exact rfl) : GT P n env b ps hp ⟨some d, .binOp .shr t x y t', ty, pos, aft, gd⟩ K := tp1 (shr_v hx hy hb) hd h
theorem rb_shr {t t' : TypeId} {x y : Operand} {k k2 : IntKind} {i c : Int} {d : Nat} {ty : TypeId} {pos : String} {aft : Array Edge} {gd : Option (Nat × Bool)} {psW : List Pf} {hpS : List Res} {wd : World} {F : Nat → Prop} (h : G n ((d, .int k (shrV k i c)) :: env) b ps hp K) (hx : ev env x = some (.int k i) := by exact rfl) (hy : ev env y = some (.int k2 c) := by exact rfl) (hb : 0 ≤ c := by omega)  (hd : Nat.blt d n = true := by exact rfl) : GTR P n env psW hpS wd F b ps hp K ⟨some d, .binOp .shr t x y t', ty, pos, aft, gd⟩ := .v (.of_soft fun _ => shr_v hx hy hb) hd h
theorem b_andv {t t' : TypeId} {x y : Operand} {k : IntKind} {i j : Int} {d : Nat} {ty : TypeId} {pos : String} {aft : Array Edge} {gd : Option (Nat × Bool)} (h : G n ((d, .int k (bAnd k i j)) :: env) b ps hp K) (hx : ev env x = some (.int k i) := by exact rfl) (hy : ev env y = some (.int k j) := by exact rfl)  (hd : Nat.blt d n = true := by exact rfl) : GO P n env b ps hp ⟨some d, .binOp .and t x y t', ty, pos, aft, gd⟩ K Q := rd1 (and_v hx hy) hd h
theorem tb_andv {t t' : TypeId} {x y : Operand} {k : IntKind} {i j : Int} {d : Nat} {ty : TypeId} {pos : String} {aft : Array Edge} {gd : Option (Nat × Bool)} (h : G n ((d, .int k (bAnd k i j)) :: env) b ps hp K) (hx : ev env x = some (.int k i) := by exact rfl) (hy : ev env y = some (.int k j) := by exact rfl)  (hd : Nat.blt d n = true := by exact rfl) : GT P n env b ps hp ⟨some d, .binOp .and t x y t', ty, pos, aft, gd⟩ K := tp1 (and_v hx hy) hd h
theorem rb_andv {t t' : TypeId} {x y : Operand} {k : IntKind} {i j : Int} {d : Nat} {ty : TypeId} {pos : String} {aft : Array Edge} {gd : Option (Nat × Bool)} {psW : List Pf} {hpS : List Res} {wd : World} {F : Nat → Prop} (h : G n ((d, .int k (bAnd k i j)) :: env) b ps hp K) (hx : ev env x = some (.int k i) := by exact rfl) (hy : ev env y = some (.int k j) := by exact rfl)  (hd : Nat.blt d n = true := by exact rfl) : GTR P n env psW hpS wd F b ps hp K ⟨some d, .binOp .and t x y t', ty, pos, aft, gd⟩ := .v (.of_soft fun _ => and_v hx hy) hd h
theorem b_orv {t t' : TypeId} {x y : Operand} {k : IntKind} {i j : Int} {d : Nat} {ty : TypeId} {pos : String} {aft : Array Edge} {gd : Option (Nat × Bool)} (h : G n ((d, .int k (bOr k i j)) :: env) b ps hp K) (hx : ev env x = some (.int k i) := by exact rfl) (hy : ev env y = some (.int k j) := by exact rfl)  (hd : Nat.blt d n = true := by exact rfl) : GO P n env b ps hp ⟨some d, .binOp .or t x y t', ty, pos, aft, gd⟩ K Q := rd1 (or_v hx hy) hd h
theorem tb_orv {t t' : TypeId} {x y : Operand} {k : IntKind} {i j : Int} {d : Nat} {ty : TypeId} {pos : String} {aft : Array Edge} {gd : Option (Nat × Bool)} (h : G n ((d, .int k (bOr k i j)) :: env) b ps hp K) (hx : ev env x = some (.int k i) := by exact rfl) (hy : ev env y = some (.int k j) := by exact rfl)  (hd : Nat.blt d n = true := by exact rfl) : GT P n env b ps hp ⟨some d, .binOp .or t x y t', ty, pos, aft, gd⟩ K := tp1 (or_v hx hy) hd h
theorem rb_orv {t t' : TypeId} {x y : Operand} {k : IntKind} {i j : Int} {d : Nat} {ty : TypeId} {pos : String} {aft : Array Edge} {gd : Option (Nat × Bool)} {psW : List Pf} {hpS : List Res} {wd : World} {F : Nat → Prop} (h : G n ((d, .int k (bOr k i j)) :: env) b ps hp K) (hx : ev env x = some (.int k i) := by exact rfl) (hy : ev env y = some (.int k j) := by exact rfl)  (hd : Nat.blt d n = true := by exact rfl) : GTR P n env psW hpS wd F b ps hp K ⟨some d, .binOp .or t x y t', ty, pos, aft, gd⟩ := .v (.of_soft fun _ => or_v hx hy) hd h
theorem b_andNotv {t t' : TypeId} {x y : Operand} {k : IntKind} {i j : Int} {d : Nat} {ty : TypeId} {pos : String} {aft : Array Edge} {gd : Option (Nat × Bool)} (h : G n ((d, .int k (bNot k i j)) :: env) b ps hp K) (hx : ev env x = some (.int k i) := by exact rfl) (hy : ev env y = some (.int k j) := by exact rfl)  (hd : Nat.blt d n = true := by exact rfl) : GO P n env b ps hp ⟨some d, .binOp .andNot t x y t', ty, pos, aft, gd⟩ K Q := rd1 (andNot_v hx hy) hd h
theorem tb_andNotv {t t' : TypeId} {x y : Operand} {k : IntKind} {i j : Int} {d : Nat} {ty : TypeId} {pos : String} {aft : Array Edge} {gd : Option (Nat × Bool)} (h : G n ((d, .int k (bNot k i j)) :: env) b ps hp K) (hx : ev env x = some (.int k i) := by exact rfl) (hy : ev env y = some (.int k j) := by exact rfl)  (hd : Nat.blt d n = true := by exact rfl) : GT P n env b ps hp ⟨some d, .binOp .andNot t x y t', ty, pos, aft, gd⟩ K := tp1 (andNot_v hx hy) hd h
theorem rb_andNotv {t t' : TypeId} {x y : Operand} {k : IntKind} {i j : Int} {d : Nat} {ty : TypeId} {pos : String} {aft : Array Edge} {gd : Option (Nat × Bool)} {psW : List Pf} {hpS : List Res} {wd : World} {F : Nat → Prop} (h : G n ((d, .int k (bNot k i j)) :: env) b ps hp K) (hx : ev env x = some (.int k i) := by exact rfl) (hy : ev env y = some (.int k j) := by exact rfl)  (hd : Nat.blt d n = true := by exact rfl) : GTR P n env psW hpS wd F b ps hp K ⟨some d, .binOp .andNot t x y t', ty, pos, aft, gd⟩ := .v (.of_soft fun _ => andNot_v hx hy) hd h
theorem u_cpl {t : TypeId} {x : Operand} {k : IntKind} {i : Int} {d : Nat} {ty : TypeId} {pos : String} {aft : Array Edge} {gd : Option (Nat × Bool)} (h : G n ((d, .int k (cplV k i)) :: env) b ps hp K) (hx : ev env x = some (.int k i) := by exact rfl)  (hd : Nat.blt d n = true := by exact rfl) : GO P n env b ps hp ⟨some d, .unOp .xor t x, ty, pos, aft, gd⟩ K Q := rd1 (cpl_v hx) hd h
theorem tu_cpl {t : TypeId} {x : Operand} {k : IntKind} {i : Int} {d : Nat} {ty : TypeId} {pos : String} {aft : Array Edge} {gd : Option (Nat × Bool)} (h : G n ((d, .int k (cplV k i)) :: env) b ps hp K) (hx : ev env x = some (.int k i) := by exact rfl)  (hd : Nat.blt d n = true := by exact rfl) : GT P n env b ps hp ⟨some d, .unOp .xor t x, ty, pos, aft, gd⟩ K := tp1 (cpl_v hx) hd h
theorem ru_cpl {t : TypeId} {x : Operand} {k : IntKind} {i : Int} {d : Nat} {ty : TypeId} {pos : String} {aft : Array Edge} {gd : Option (Nat × Bool)} {psW : List Pf} {hpS : List Res} {wd : World} {F : Nat → Prop} (h : G n ((d, .int k (cplV k i)) :: env) b ps hp K) (hx : ev env x = some (.int k i) := by exact rfl)  (hd : Nat.blt d n = true := by exact rfl) : GTR P n env psW hpS wd F b ps hp K ⟨some d, .unOp .xor t x, ty, pos, aft, gd⟩ := .v (.of_soft fun _ => cpl_v hx) hd h
theorem cv {t t' : TypeId} {x : Operand} {k0 k1 k : IntKind} {i : Int} [UInt P t k0] [UInt P t' k] {d : Nat} {ty : TypeId} {pos : String} {aft : Array Edge} {gd : Option (Nat × Bool)} (h : G n ((d, .int k (k.wrap i)) :: env) b ps hp K) (hx : ev env x = some (.int k1 i) := by exact rfl)  (hd : Nat.blt d n = true := by exact rfl) : GO P n env b ps hp ⟨some d, .convert t t' x, ty, pos, aft, gd⟩ K Q := rd1 (cv_v (k0 := k0) hx) hd h
theorem tcv {t t' : TypeId} {x : Operand} {k0 k1 k : IntKind} {i : Int} [UInt P t k0] [UInt P t' k] {d : Nat} {ty : TypeId} {pos : String} {aft : Array Edge} {gd : Option (Nat × Bool)} (h : G n ((d, .int k (k.wrap i)) :: env) b ps hp K) (hx : ev env x = some (.int k1 i) := by exact rfl)  (hd : Nat.blt d n = true := by exact rfl) : GT P n env b ps hp ⟨some d, .convert t t' x, ty, pos, aft, gd⟩ K := tp1 (cv_v (k0 := k0) hx) hd h
theorem rcv {t t' : TypeId} {x : Operand} {k0 k1 k : IntKind} {i : Int} [UInt P t k0] [UInt P t' k] {d : Nat} {ty : TypeId} {pos : String} {aft : Array Edge} {gd : Option (Nat × Bool)} {psW : List Pf} {hpS : List Res} {wd : World} {F : Nat → Prop} (h : G n ((d, .int k (k.wrap i)) :: env) b ps hp K) (hx : ev env x = some (.int k1 i) := by exact rfl)  (hd : Nat.blt d n = true := by exact rfl) : GTR P n env psW hpS wd F b ps hp K ⟨some d, .convert t t' x, ty, pos, aft, gd⟩ := .v (.of_soft fun _ => cv_v (k0 := k0) hx) hd h
theorem b_seq {t t' : TypeId} {x y : Operand} {u v : ByteArray} [UString P t] {d : Nat} {ty : TypeId} {pos : String} {aft : Array Edge} {gd : Option (Nat × Bool)} (h : G n ((d, .bool (strEq u v)) :: env) b ps hp K) (hx : ev env x = some (.string u) := by exact rfl) (hy : ev env y = some (.string v) := by exact rfl)  (hd : Nat.blt d n = true := by exact rfl) : GO P n env b ps hp ⟨some d, .binOp .eql t x y t', ty, pos, aft, gd⟩ K Q := rd1 (seql_v hx hy) hd h
theorem tb_seq {t t' : TypeId} {x y : Operand} {u v : ByteArray} [UString P t] {d : Nat} {ty : TypeId} {pos : String} {aft : Array Edge} {gd : Option (Nat × Bool)} (h : G n ((d, .bool (strEq u v)) :: env) b ps hp K) (hx : ev env x = some (.string u) := by exact rfl) (hy : ev env y = some (.string v) := by exact rfl)  (hd : Nat.blt d n = true := by exact rfl) : GT P n env b ps hp ⟨some d, .binOp .eql t x y t', ty, pos, aft, gd⟩ K := tp1 (seql_v hx hy) hd h
theorem rb_seq {t t' : TypeId} {x y : Operand} {u v : ByteArray} [UString P t] {d : Nat} {ty : TypeId} {pos : String} {aft : Array Edge} {gd : Option (Nat × Bool)} {psW : List Pf} {hpS : List Res} {wd : World} {F : Nat → Prop} (h : G n ((d, .bool (strEq u v)) :: env) b ps hp K) (hx : ev env x = some (.string u) := by exact rfl) (hy : ev env y = some (.string v) := by exact rfl)  (hd : Nat.blt d n = true := by exact rfl) : GTR P n env psW hpS wd F b ps hp K ⟨some d, .binOp .eql t x y t', ty, pos, aft, gd⟩ := .v (.of_soft fun _ => seql_v hx hy) hd h
theorem b_sne {t t' : TypeId} {x y : Operand} {u v : ByteArray} [UString P t] {d : Nat} {ty : TypeId} {pos : String} {aft : Array Edge} {gd : Option (Nat × Bool)} (h : G n ((d, .bool (strNe u v)) :: env) b ps hp K) (hx : ev env x = some (.string u) := by exact rfl) (hy : ev env y = some (.string v) := by exact rfl)  (hd : Nat.blt d n = true := by exact rfl) : GO P n env b ps hp ⟨some d, .binOp .neq t x y t', ty, pos, aft, gd⟩ K Q := rd1 (sneq_v hx hy) hd h
theorem tb_sne {t t' : TypeId} {x y : Operand} {u v : ByteArray} [UString P t] {d : Nat} {ty : TypeId} {pos : String} {aft : Array Edge} {gd : Option (Nat × Bool)} (h : G n ((d, .bool (strNe u v)) :: env) b ps hp K) (hx : ev env x = some (.string u) := by exact rfl) (hy : ev env y = some (.string v) := by exact rfl)  (hd : Nat.blt d n = true := by exact rfl) : GT P n env b ps hp ⟨some d, .binOp .neq t x y t', ty, pos, aft, gd⟩ K := tp1 (sneq_v hx hy) hd h
theorem rb_sne {t t' : TypeId} {x y : Operand} {u v : ByteArray} [UString P t] {d : Nat} {ty : TypeId} {pos : String} {aft : Array Edge} {gd : Option (Nat × Bool)} {psW : List Pf} {hpS : List Res} {wd : World} {F : Nat → Prop} (h : G n ((d, .bool (strNe u v)) :: env) b ps hp K) (hx : ev env x = some (.string u) := by exact rfl) (hy : ev env y = some (.string v) := by exact rfl)  (hd : Nat.blt d n = true := by exact rfl) : GTR P n env psW hpS wd F b ps hp K ⟨some d, .binOp .neq t x y t', ty, pos, aft, gd⟩ := .v (.of_soft fun _ => sneq_v hx hy) hd h
theorem cvs {ao : Option Addr} {cap cap' m : Nat} {xs : List Int} {t t' et : TypeId} {x : Operand} {d : Nat} {ty : TypeId} {pos : String} {aft : Array Edge} {gd : Option (Nat × Bool)} [USlice P t et] [UInt P et .u8] [UString P t'] [FSl ao ps Ty.byte cap xs] (h : G n ((d, .string (strOfNums xs)) :: env) b ps hp K) (hx : ev env x = some (.slice ao m cap') := by exact rfl) (hm : m = xs.length := by first | exact rfl | (simp; done) | omega) (hd : Nat.blt d n = true := by exact rfl) : GO P n env b ps hp ⟨some d, .convert t t' x, ty, pos, aft, gd⟩ K Q := rd (cvs_rd (cap := cap) hx hm) hd (fun _ => h)
theorem rcvs {psW : List Pf} {hpS : List Res} {wd : World} {F : Nat → Prop} {ao : Option Addr} {cap cap' m : Nat} {xs : List Int} {t t' et : TypeId} {x : Operand} {d : Nat} {ty : TypeId} {pos : String} {aft : Array Edge} {gd : Option (Nat × Bool)} [USlice P t et] [UInt P et .u8] [UString P t'] [FSl ao psW Ty.byte cap xs] (h : G n ((d, .string (strOfNums xs)) :: env) b ps hp K) (hx : ev env x = some (.slice ao m cap') := by exact rfl) (hm : m = xs.length := by first | exact rfl | (simp; done) | omega) (hd : Nat.blt d n = true := by exact rfl) : GTR P n env psW hpS wd F b ps hp K ⟨some d, .convert t t' x, ty, pos, aft, gd⟩ := .mk (cvs_rd (cap := cap) hx hm) hd (fun _ _ => h)
end
end Go.GX

/- Parts of slices of one's own: cutting, and the built-in clear, for elements of one cell. No program in sight. -/
namespace Go.GX
open Go Go.RowKit Go.RR Go.RX
section
variable {P : Program} {n : Nat} {env : Env} {b : Base} {ps : List Pf} {hp : List Res} {Q : Exit → Act → World → Prop} {K : Act → World → Prop}
variable {ty : TypeId} {pos : String} {aft : Array Edge} {gd : Option (Nat × Bool)} {α : Type} {e : Ty α}

theorem els_take {F : Nat → Prop} {w : World} : ∀ {xs : List α} {cs : List Value} (j : Nat), Els e F w cs xs → Els e F w (cs.take (j * e.size)) (xs.take j)
  | [], cs, j, h => by
    have h : cs = [] := h
    subst h; simp; rfl
  | x :: xs, cs, 0, h => by simp; rfl
  | x :: xs, cs, j + 1, ⟨c1, c2, h1, h2, h3⟩ => by
    have hl := e.len h2
    refine ⟨c1, c2.take (j * e.size), ?_, h2, els_take j h3⟩
    rw [h1, Nat.add_mul, Nat.one_mul, Nat.add_comm, ← hl, List.take_length_add_append]
/-- Fewer of them. -/
theorem ownTake (ao : Option Addr) (j : Nat) {t : TypeId} {cap : Nat} {xs : List α} {rest : List Res} [hf : FOwn ao hp t e cap xs rest] (h : G n env b ps (Own t e ao cap (xs.take j) :: rest) K) : G n env b ps hp K := by
  refine alter (hp1 := [Own t e ao cap xs]) (hp2 := [Own t e ao cap (xs.take j)]) hf.p ?_ ?_ h
  · intro F w h1 _
    refine ⟨fun r hr => ?_, by simp⟩
    obtain rfl : r = _ := by simpa using hr
    obtain ⟨cs, g1, g2⟩ : (Own t e ao cap xs).says F w := h1 _ (by simp)
    have hlen := els_take j g2
    rcases g1.2 with ⟨h3, h4⟩ | ⟨g, cap', cur, h3, hb, hg, h5, h6, h7, h8⟩
    · simp at h3
      obtain ⟨rfl, hx, rfl⟩ := h3
      subst hx
      have : cs = [] := g2
      subst this
      simp; exact own_none
    · simp at h3
      obtain ⟨rfl, rfl⟩ := h3
      refine ⟨cs.take (j * e.size), ⟨hlen.len, .inr ⟨g, cap, cur, rfl, hb, hg, ?_, h6, h7, ?_⟩⟩, hlen⟩
      · rw [List.length_take]; omega
      · have h8 : cur.toList.take (xs.length * e.size) = cs := h8
        show cur.toList.take ((xs.take j).length * e.size) = cs.take (j * e.size)
        rw [← h8, List.take_take, List.length_take, Nat.mul_min_mul_right]
  · rintro k ⟨r, hr, hk⟩
    obtain rfl : r = _ := by simpa using hr
    refine ⟨Own t e ao cap xs, by simp, ?_⟩
    have hk : Value.ownBlock (.slice ao (xs.take j).length cap) = some k := hk
    show Value.ownBlock (.slice ao xs.length cap) = some k
    cases ao <;> exact hk
section cutting
variable {t et : TypeId} {x y : Operand} {k : IntKind} {d : Nat}
/-- 's[:j]' of a slice of one's own, as a value. -/
theorem oh {ao : Option Addr} {m cap j sz : Nat} [ht : USlice P t et] [hs : USize P et sz] (h : G n ((d, .slice ao j cap) :: env) b ps hp K) (hx : ev env x = some (.slice ao m cap) := by exact rfl) (hy : ev env y = some (.int k (j : Int)) := by exact rfl) (hj : j ≤ cap := by omega) (hao : ∀ a, ao = some a → a.spot = none := by intro a ha; cases ha; rfl) (hd : Nat.blt d n = true := by exact rfl) :
    GO P n env b ps hp ⟨some d, .slice t x none (some y) none, ty, pos, aft, gd⟩ K Q := by
  refine rd1 (fun a ha o ho w _ => ?_) hd h
  have hb1 := sliceBound_run (P := P) (k := k) (i := (j : Int)) (y := cap) (c := .sliceAcap) (w := w) ⟨by omega, by omega⟩
  have e0 : (if cap = 0 then ao else ao.map (·.add (0 * sz))) = ao := by
    split
    · rfl
    · cases ao with
      | none => rfl
      | some a =>
        have := hao a rfl
        obtain ⟨b, o, sp⟩ := a
        dsimp only at this; subst this
        simp [Addr.add_lit]
  simp [execOp, ho, ha.ev hx, ha.ev hy, Instr.sliceAt, Instr.slice, run_underlying ht.u, Instr.sliceBounds, hb1, hs.s]
  simpa using e0
/-- 's[j:]', likewise. -/
theorem ol {g o m cap j sz : Nat} [ht : USlice P t et] [hs : USize P et sz] (h : ∀ o2, (j < cap → o2 = o + j * sz) → G n ((d, .slice (some ⟨g, o2, none⟩) (m - j) (cap - j)) :: env) b ps hp K) (hx : ev env x = some (.slice (some ⟨g, o, none⟩) m cap) := by exact rfl) (hy : ev env y = some (.int k (j : Int)) := by exact rfl) (hj : j ≤ m := by omega) (hm : m ≤ cap := by omega) (hd : Nat.blt d n = true := by exact rfl) :
    GO P n env b ps hp ⟨some d, .slice t x (some y) none none, ty, pos, aft, gd⟩ K Q := by
  refine rd1 (v := .slice (some ⟨g, if cap = j then o else o + j * sz, none⟩) (m - j) (cap - j)) (fun a ha o' ho w _ => ?_) hd (h _ (fun hlt => by rw [if_neg (by omega)]))
  have hb1 := sliceBound_run (P := P) (k := k) (i := (j : Int)) (y := m) (c := .sliceB) (w := w) ⟨by omega, by omega⟩
  by_cases hc : cap = j
  · simp [execOp, ho, ha.ev hx, ha.ev hy, Instr.sliceAt, Instr.slice, run_underlying ht.u, Instr.sliceBounds, hb1, hs.s, hc]
  · simp [execOp, ho, ha.ev hx, ha.ev hy, Instr.sliceAt, Instr.slice, run_underlying ht.u, Instr.sliceBounds, hb1, hs.s, hc, Addr.add_lit]

theorem effC {w w' : World} {c : Call} {v : Value} (hs : ∀ a, Has n env a → (execOp a.eval ⟨none, .call c, ty, pos, aft, gd⟩).run P w = .ok (.value v) w') (h : E n env w' K) : OW P n env w ⟨none, .call c, ty, pos, aft, gd⟩ K Q := by
  constructor; intro a ha
  show Oper.upon P _ a K Q ((execOp a.eval _).run P w)
  rw [hs a ha]
  exact h.run _ ha
/-- 'clear(s[k:])': what lies ahead stays. -/
theorem clr {z : α} {zv : Value} {g o m c cap k0 : Nat} {xs : List α} {rest : List Res} [ht : USlice P t et] [hz : UTy P et e z zv] [hf : FOwn (some ⟨g, 0, none⟩) hp et e cap xs rest] (h : ∀ ys, ys.length = xs.length → ys.take k0 = xs.take k0 → G n env b ps (Own et e (some ⟨g, 0, none⟩) cap ys :: rest) K)
    (hx : ev env x = some (.slice (some ⟨g, o, none⟩) m c)) (hes : e.size = 1) (hzs : zv.cells = #[zv]) (h1 : zv.oneCell' = true) (ho : m = 0 ∨ (k0 ≤ o ∧ o + m ≤ xs.length)) : GO P n env b ps hp ⟨none, .call { callee := .builtin .clear, args := #[x], argTypes := #[t] }, ty, pos, aft, gd⟩ K Q := by
  refine Acts.use (hp1 := [Own et e (some ⟨g, 0, none⟩) cap xs]) (ι := { ys : List α // ys.length = xs.length ∧ ys.take k0 = xs.take k0 }) (val := fun _ => undef) (pf := fun _ => []) (hr := fun ys => [Own et e (some ⟨g, 0, none⟩) cap ys.1]) ?_ hf.p (fun ys => h ys.1 ys.2.1 ys.2.2)
  intro F w K Q b s hk
  rcases Nat.eq_zero_or_pos m with hm | hm
  · subst hm
    refine effC (v := .tuple #[]) (w' := w) (fun a ha => ?_) (hk ⟨xs, rfl, rfl⟩ w (mkOk1 s (Upd.refl _ _) (s.rs (Own et e (some ⟨g, 0, none⟩) cap xs) (by simp)) (fun k hk _ => hk)))
    simp [execOp, ha.ev hx, resolve, invoke, builtin, Builtin.clear_, run_underlying ht.u]
  · obtain ⟨ho1, ho2⟩ : k0 ≤ o ∧ o + m ≤ xs.length := by omega
    obtain ⟨cs, tl, g1, g2, g3, g4, g5⟩ := own_open (s.rs (Own et e (some ⟨g, 0, none⟩) cap xs) (by simp))
    have hcl := g2.len
    rw [hes, Nat.mul_one] at hcl
    obtain ⟨w', k1, k2, k3⟩ := run_storeAll (P := P) (bl := g) (o := o) (te := et) (List.replicate m zv) (cs ++ tl) w 0 g1 (by simp; omega) (fun u hu => by rw [List.eq_of_mem_replicate hu]; exact h1)
    have hzc : (Builtin.zeroCells zv.cells m).toList = List.replicate m zv := by
      rw [hzs]
      simp [Builtin.zeroCells]
      apply List.ext_getElem
      · simp
      · intro i h1 h2; simp [Nat.mod_one]
    have hrd : e.rd F w [zv] z := by have := hz.rd F w; rw [hzs] at this; exact this
    refine effC (v := .tuple #[]) (w' := w') (fun a ha => ?_) (hk ⟨xs.take o ++ (List.replicate m z ++ xs.drop (o + m)), by simp; omega, by rw [List.take_append_of_le_length (by simp; omega), List.take_take, Nat.min_eq_left ho1]⟩ w' (mkOk1 s (k3.mono fun k _ hk => by subst hk; rfl) (own_close (cs := cs.take o ++ (List.replicate m zv ++ cs.drop (o + m))) (tl := tl) ?_ ?_ ?_ (by simp; omega) g5) (fun k hk _ => hk)))
    · obtain ⟨m', rfl⟩ : ∃ m', m = m' + 1 := ⟨m - 1, by omega⟩
      simp [execOp, ha.ev hx, resolve, invoke, builtin, Builtin.clear_, run_underlying ht.u, hz.zero, hzc, k1]
    · have e1 : over (cs ++ tl) (o + 0) (List.replicate m zv) = cs.take o ++ (List.replicate m zv ++ cs.drop (o + m)) ++ tl := by
        unfold over
        rw [Nat.add_zero, List.length_replicate, List.take_append_of_le_length (by omega), List.drop_append_of_le_length (by omega)]
        simp
      rw [e1] at k2; exact k2
    · have hu' : Upd (feet [Own et e (some ⟨g, 0, none⟩) cap xs]) w w' := k3.mono fun k _ hk => ⟨Own et e (some ⟨g, 0, none⟩) cap xs, by simp, by subst hk; rfl⟩
      have a1 := els_take o g2
      rw [hes, Nat.mul_one] at a1
      have a3 : Els e F w (cs.drop (o + m)) (xs.drop (o + m)) := by
        have key : ∀ (j : Nat) (xs : List α) (cs : List Value), Els e F w cs xs → Els e F w (cs.drop j) (xs.drop j) := by
          intro j
          induction j with
          | zero => intro xs cs h; simpa using h
          | succ j ih =>
            intro xs cs h
            cases xs with
            | nil => have h : cs = [] := h
                     subst h; simp; rfl
            | cons x xs =>
              obtain ⟨c1, c2, q1, q2, q3⟩ := h
              have hl := e.len q2
              rw [q1, List.drop_succ_cons, show j + 1 = c1.length + j by omega, ← List.drop_drop, List.drop_left]
              exact ih xs c2 q3
        exact key _ _ _ g2
      have a2 : Els e F w (List.replicate m zv) (List.replicate m z) := by
        have := els_rep hrd m
        simpa using this
      exact (a1.append (a2.append a3)).move (fun _ _ h => h) (agF s hu')
    · rw [← g3]; simp; omega
end cutting

/-- A call of a function value; one thing more is one's own, and is not touched. -/
theorem clvR {d : Nat} {f : FuncId} {x : Operand} {xs : List Operand} {ts : Array TypeId} {vs fs cs : List Value} {r : Res} {hpC : List Res} [hf : UFunc P f] {ps1 : List Pf} {σ : Type} {val : σ → Value}
    (hc : Does P f (fs ++ (vs ++ cs)) ps1 hpC val (fun _ => []) (fun _ => hpC)) (h : ∀ s, G n ((d, val s) :: env) b ps (r :: hpC) K)
    (hx : ev env x = some (.func (.func f) fs.toArray cs.toArray) := by exact rfl) (hxs : evs env xs = some vs := by exact rfl)
    (hps : Suf ps1 ps := by repeat (first | (with_reducible apply Go.GX.Suf.refl) | apply Go.GX.Suf.tail)) (hd : Nat.blt d n = true := by exact rfl) :
    GO P n env b ps (r :: hpC) ⟨some d, .call { callee := .value x, args := xs.toArray, argTypes := ts }, ty, pos, aft, gd⟩ K Q :=
  callvG (rest := [r]) hc hx hxs hps.sub (List.perm_append_comm (l₁ := [r])) hd (fun s => perm (List.perm_append_comm (l₂ := [r])) (by rw [List.nil_append]; exact h s))
theorem clR {d : Nat} {f : FuncId} {xs : List Operand} {ts : Array TypeId} {vs : List Value} [hf : UFunc P f] {ps1 : List Pf} {σ : Type} {val : σ → Value} {hp' : σ → List Res}
    (hc : Does P f vs ps1 hp val (fun _ => []) hp') (h : ∀ s, G n ((d, val s) :: env) b ps (hp' s) K) (hxs : evs env xs = some vs := by exact rfl)
    (hps : Suf ps1 ps := by repeat (first | (with_reducible apply Go.GX.Suf.refl) | apply Go.GX.Suf.tail)) (hd : Nat.blt d n = true := by exact rfl) :
    GO P n env b ps hp ⟨some d, .call { callee := .value (.func f), args := xs.toArray, argTypes := ts }, ty, pos, aft, gd⟩ K Q :=
  call hc hxs hps.sub (rest := []) (by rw [List.append_nil]) hd (fun s => by rw [List.nil_append, List.append_nil]; exact h s)
end
end Go.GX

/- Pointers as elements of slices; what lies together as one thing of one's own; the built-in copy for numbers. No program in sight. -/
namespace Go.GX
open Go Go.RowKit Go.RR Go.RX
/-- A pointer, or nil. -/
def Ty.ptr : Ty (Option Addr) := ⟨1, fun _ _ cs x => cs = [.pointer x], fun h => by rw [h]; rfl, fun h c hc => by rw [h] at hc; simp at hc; subst hc; rfl, fun h _ _ => h⟩
theorem ptr_rd {F : Nat → Prop} {w : World} {a : Option Addr} : Ty.ptr.rd F w [.pointer a] a := rfl
instance : Sub Ty.ptr 0 Ty.ptr (fun y => y) (fun z _ => z) := Sub.whole _
instance {ps : List Pf} (a : Option Addr) : Rds ps (.pointer a) Ty.ptr a := ⟨.of fun _ _ _ => rfl⟩
/-- Things of one's own that lie together. -/
def Star (l : List Res) : Res where
  on k := feet l k
  says F w := AllR F w l ∧ l.Pairwise Apart
  inn := by rintro F w k ⟨h, _⟩ ⟨r, hr, hk⟩; exact Res.inn _ (h r hr) hk
  move := by
    rintro F F' w w' ⟨h, h2⟩ hF ha hb
    exact ⟨fun r hr => Res.move _ (h r hr) hF ha (hb.mono fun k _ hk => ⟨r, hr, hk⟩), h2⟩
section
variable {P : Program} {n : Nat} {env : Env} {b : Base} {ps : List Pf} {hp : List Res} {Q : Exit → Act → World → Prop} {K : Act → World → Prop}
theorem apart_star {r : Res} {l : List Res} : Apart r (Star l) ↔ ∀ s ∈ l, Apart r s := by
  constructor
  · intro h s hs k hk hk2; exact h k hk ⟨s, hs, hk2⟩
  · rintro h k hk ⟨s, hs, hk2⟩; exact h s hs k hk hk2
/-- None as yet. -/
theorem starN (h : G n env b ps (Star [] :: hp) K) : G n env b ps hp K := by
  refine alter (hp1 := []) (hp2 := [Star []]) (rest := hp) (List.Perm.refl _) ?_ ?_ h
  · intro F w _ _
    refine ⟨fun r hr => ?_, by simp⟩
    obtain rfl : r = _ := by simpa using hr
    exact ⟨fun r hr => by simp at hr, List.Pairwise.nil⟩
  · rintro k ⟨r, hr, hk⟩
    obtain rfl : r = _ := by simpa using hr
    obtain ⟨r, hr, _⟩ := hk
    simp at hr
/-- Those at the front go in. -/
theorem starI {l m rest : List Res} (h : G n env b ps (Star (l ++ m) :: rest) K)
    (hl : SelR (l ++ [Star m]) hp rest := by first | ((repeat (first | apply Go.GX.SelR.nil | apply Go.GX.SelR.cons | (with_reducible apply Go.GX.TakeR.head) | apply Go.GX.TakeR.tail)); done) | (repeat (first | apply Go.GX.SelR.nil | apply Go.GX.SelR.cons | apply Go.GX.TakeR.head | apply Go.GX.TakeR.tail))) : G n env b ps hp K := by
  refine alter (hp1 := l ++ [Star m]) (hp2 := [Star (l ++ m)]) hl.perm ?_ ?_ h
  · intro F w h1 hap
    obtain ⟨h2, h3⟩ := h1 (Star m) (by simp)
    obtain ⟨p1, _, p3⟩ := List.pairwise_append.1 hap
    refine ⟨fun r hr => ?_, by simp⟩
    obtain rfl : r = _ := by simpa using hr
    refine ⟨fun r hr => ?_, List.pairwise_append.2 ⟨p1, h3, fun r hr s hs => apart_star.1 (p3 r hr _ (by simp)) s hs⟩⟩
    rcases List.mem_append.1 hr with hr | hr
    · exact h1 r (by simp [hr])
    · exact h2 r hr
  · rintro k ⟨r, hr, hk⟩
    obtain rfl : r = _ := by simpa using hr
    obtain ⟨r, hr, hk⟩ := hk
    rcases List.mem_append.1 hr with hr | hr
    · exact ⟨r, by simp [hr], hk⟩
    · exact ⟨Star m, by simp, r, hr, hk⟩
/-- Those at the front come out. -/
theorem starO {l m rest : List Res} (h : G n env b ps (l ++ (Star m :: rest)) K)
    (hl : TakeR (Star (l ++ m)) hp rest := by first | ((repeat (first | (with_reducible apply Go.GX.TakeR.head) | apply Go.GX.TakeR.tail)); done) | (repeat (first | apply Go.GX.TakeR.head | apply Go.GX.TakeR.tail))) : G n env b ps hp K := by
  refine alter (hp1 := [Star (l ++ m)]) (hp2 := l ++ [Star m]) (rest := rest) hl.perm ?_ ?_ (by simpa using h)
  · intro F w h1 _
    obtain ⟨h2, h3⟩ := h1 (Star (l ++ m)) (by simp)
    obtain ⟨p1, p2, p3⟩ := List.pairwise_append.1 h3
    refine ⟨fun r hr => ?_, List.pairwise_append.2 ⟨p1, by simp, fun r hr s hs => ?_⟩⟩
    · rcases List.mem_append.1 hr with hr | hr
      · exact h2 r (by simp [hr])
      · obtain rfl : r = _ := by simpa using hr
        exact ⟨fun s hs => h2 s (by simp [hs]), p2⟩
    · obtain rfl : s = _ := by simpa using hs
      exact apart_star.2 fun q hq => p3 r hr q hq
  · rintro k ⟨r, hr, hk⟩
    refine ⟨Star (l ++ m), by simp, ?_⟩
    rcases List.mem_append.1 hr with hr | hr
    · exact ⟨r, by simp [hr], hk⟩
    · obtain rfl : r = _ := by simpa using hr
      obtain ⟨s, hs, hk⟩ := hk
      exact ⟨s, by simp [hs], hk⟩
theorem lo_ptr {α : Type} {e : Ty α} {g cap i : Nat} {xs : List α} {x0 : α} {te t : TypeId} {x : Operand} {rest : List Res} {get : α → Option Addr} {put : Option Addr → α → α} {off : Nat} [UOne P t] [FOwn (some ⟨g, 0, none⟩) hp te e cap xs rest] [hs : Sub e off Ty.ptr get put] (hx : ev env x = some (.pointer (some ⟨g, i * e.size + off, none⟩))) (hi : xs[i]? = some x0) : RdV P n env ps hp (.load t x) (.pointer (get x0)) := fun F w _ h2 => by
  obtain ⟨cs, h3, h4, h5⟩ := own_cells (te := te) (e := e) (g := g) (cap := cap) (rest := rest) h2 hi
  have h6 : (cs.drop off).take 1 = [.pointer (get x0)] := hs.get h4
  have h7 : cs[off]? = some (.pointer (get x0)) := by
    have := congrArg (·[0]?) h6
    simpa [List.getElem?_take, List.getElem?_drop] using this
  exact RX.load hx (fun w' ha => ha.cell (.inr h5) (h3 off _ h7))
variable {d : Nat} {ty : TypeId} {pos : String} {aft : Array Edge} {gd : Option (Nat × Bool)}
/-- A pointer out of a slice of one's own. -/
theorem o1p {α : Type} {e : Ty α} {g cap i : Nat} {xs : List α} {x0 : α} {te t : TypeId} {x : Operand} {rest : List Res} {get : α → Option Addr} {put : Option Addr → α → α} [UOne P t] (h : G n ((d, .pointer (get x0)) :: env) b ps hp K) (hx : ev env x = some (.pointer (some ⟨g, i, none⟩)) := by exact rfl) (i0 : FOwn (some ⟨g, 0, none⟩) hp te e cap xs rest := by exact inferInstance) (i1 : Sub e 0 Ty.ptr get put := by exact inferInstance) (hi : xs[i]? = some x0 := by with_reducible assumption) (hes : e.size = 1 := by exact rfl) (hd : Nat.blt d n = true := by exact rfl) : GO P n env b ps hp ⟨some d, .load t x, ty, pos, aft, gd⟩ K Q := rdv (lo_ptr (off := 0) (cap := cap) (te := te) (rest := rest) (get := get) (put := put) (plc1 hes hx) hi) hd h
theorem ro1p {psW : List Pf} {hpS : List Res} {α : Type} {e : Ty α} {g cap i : Nat} {xs : List α} {x0 : α} {te t : TypeId} {x : Operand} {rest : List Res} {get : α → Option Addr} {put : Option Addr → α → α} [UOne P t] {wd : World} {F : Nat → Prop} (h : G n ((d, .pointer (get x0)) :: env) b ps hp K) (hx : ev env x = some (.pointer (some ⟨g, i, none⟩)) := by exact rfl) (i0 : FOwn (some ⟨g, 0, none⟩) hpS te e cap xs rest := by exact inferInstance) (i1 : Sub e 0 Ty.ptr get put := by exact inferInstance) (hi : xs[i]? = some x0 := by with_reducible assumption) (hes : e.size = 1 := by exact rfl) (hd : Nat.blt d n = true := by exact rfl) : GTR P n env psW hpS wd F b ps hp K ⟨some d, .load t x, ty, pos, aft, gd⟩ := .v (lo_ptr (off := 0) (cap := cap) (te := te) (rest := rest) (get := get) (put := put) (plc1 hes hx) hi) hd h
/-- 'copy(l, s)' of numbers: all of s, which is no longer. -/
theorem cpI {t1 t2 et te : TypeId} {x y : Operand} {k : IntKind} {g cap m m2 cap2 : Nat} {ao2 : Option Addr} {xs ys : List Int} {zv : Value} {bytes : Nat} {rest : List Res} [ht : USlice P t1 et] [hi : UElem P et zv 1 bytes]
    (h : G n ((d, .int .i64 (ys.length : Int)) :: env) b ps (Own te (Ty.num k) (some ⟨g, 0, none⟩) cap (ys ++ xs.drop ys.length) :: rest) K)
    (hx : ev env x = some (.slice (some ⟨g, 0, none⟩) m cap) := by exact rfl) (hy : ev env y = some (.slice ao2 m2 cap2) := by exact rfl) (hf : FOwn (some ⟨g, 0, none⟩) hp te (Ty.num k) cap xs rest := by exact inferInstance) (hsl : FSl ao2 ps (Ty.num k) cap2 ys := by exact inferInstance)
    (hm : m = xs.length := by first | rfl | omega | (simp; done)) (hm2 : m2 = ys.length := by first | rfl | omega | (simp; done)) (hle : ys.length ≤ xs.length := by omega) (hd : Nat.blt d n = true := by exact rfl) :
    GO P n env b ps hp ⟨some d, .call { callee := .builtin .copy, args := #[x, y], argTypes := #[t1, t2] }, ty, pos, aft, gd⟩ K Q := by
  subst hm; subst hm2
  refine Acts.use (hp1 := [Own te (Ty.num k) (some ⟨g, 0, none⟩) cap xs]) (ι := Unit) (val := fun _ => .int .i64 (ys.length : Int)) (pf := fun _ => []) (hr := fun _ => [Own te (Ty.num k) (some ⟨g, 0, none⟩) cap (ys ++ xs.drop ys.length)]) ?_ hf.p (fun _ => h)
  intro F w K Q b s hk
  have hsz : (P.info? et).map (·.size) = some 1 := by
    have := hi.i
    cases hq : P.info? et with
    | none => rw [hq] at this; simp at this
    | some i => rw [hq] at this; simp at this; simp [this]
  obtain ⟨g1, g2, g3⟩ : (Sl (Ty.num k) ao2 cap2 ys).says F w := s.fs _ hsl.mem
  have hr1 := s.rs (Own te (Ty.num k) (some ⟨g, 0, none⟩) cap xs) (by simp)
  by_cases h0 : ys = []
  · subst h0
    have hrun := run_copy_none (P := P) w t1 t2 ty et (some ⟨g, 0, none⟩) ao2 xs.length cap 0 cap2 ht.u hsz (by simp)
    refine RX.eff (v := .int .i64 0) (w' := w) (fun a ha => ?_) hd (hk () w (mkOk1 s (Upd.refl _ _) (by simpa using hr1) (fun k hk _ => by simpa using hk)))
    have hy' : a.eval y = .slice ao2 0 cap2 := ha.ev hy
    simp [execOp, ha.ev hx, hy', resolve, invoke, builtin, hrun, goInt]
  · obtain ⟨bl, o, news, rfl, h5, h6⟩ := slAt_cells g3 h0
    obtain ⟨cs, tl, q1, q2, q3, q4, q5⟩ := own_open hr1
    have hnl : news.length = ys.length := by rw [h5.len]; exact Nat.mul_one _
    have hcl : cs.length = xs.length := by rw [q2.len]; exact Nat.mul_one _
    have hrun := run_copy_row (P := P) w t1 t2 ty et g 0 xs.length cap ⟨bl, o, none⟩ ys.length cap2 (cs ++ tl).toArray te news ht.u hsz q1 (by rw [hnl]; exact (Nat.min_eq_left hle).symm) (fun j v hj => by rw [Addr.add_lit]; exact h6 j v hj) (by simp; omega) h5.one
    have hnew : ((cs ++ tl).toArray.toList.take 0 ++ news ++ (cs ++ tl).toArray.toList.drop (0 + news.length)) = (news ++ cs.drop ys.length) ++ tl := by
      simp only [List.take_zero, List.nil_append, Nat.zero_add, hnl]
      rw [List.drop_append_of_le_length (by omega), List.append_assoc]
    rw [hnew] at hrun
    have hu : Upd (feet [Own te (Ty.num k) (some ⟨g, 0, none⟩) cap xs]) w (w.setRow g (news ++ cs.drop ys.length ++ tl).toArray) := ⟨rfl, rfl, rfl, by simp [World.setRow], fun k' _ hk => setRow_other w g k' _ fun e => hk ⟨Own te (Ty.num k) (some ⟨g, 0, none⟩) cap xs, by simp, by subst e; rfl⟩⟩
    have hu2 : Upd (Own te (Ty.num k) (some ⟨g, 0, none⟩) cap xs).on w (w.setRow g (news ++ cs.drop ys.length ++ tl).toArray) := ⟨rfl, rfl, rfl, by simp [World.setRow], fun k' _ hk => setRow_other w g k' _ fun e => hk (by subst e; rfl)⟩
    refine RX.eff (v := .int .i64 (ys.length : Int)) (w' := w.setRow g (news ++ cs.drop ys.length ++ tl).toArray) (fun a ha => ?_) hd (hk () _ (mkOk1 s hu2 ?_ (fun k hk _ => hk)))
    · simp [execOp, ha.ev hx, ha.ev hy, resolve, invoke, builtin, hrun, goInt, hnl]
    · have key : ∀ (j : Nat) (xs : List Int) (cs : List Value), Els (Ty.num k) F w cs xs → Els (Ty.num k) F w (cs.drop j) (xs.drop j) := by
        intro j
        induction j with
        | zero => intro xs cs h; simpa using h
        | succ j ih =>
          intro xs cs h
          cases xs with
          | nil => have h : cs = [] := h
                   subst h; simp; rfl
          | cons x xs =>
            obtain ⟨c1, c2, rfl, h2, h3⟩ := h
            have h2 : c1 = [.int k x] := h2
            subst h2
            simpa using ih _ _ h3
      have hap : Els (Ty.num k) F w (news ++ cs.drop ys.length) (ys ++ xs.drop ys.length) := h5.append (key _ _ _ q2)
      refine own_close (cs := news ++ cs.drop ys.length) (tl := tl) (setRow_heap w g _ _ te _ q1) (hap.move (fun _ _ h => h) (agF s hu)) ?_ ?_ q5
      · rw [← q3]; simp only [List.length_append, List.length_drop]; omega
      · simp only [List.length_append, List.length_drop]; omega
theorem quoI {S : World → Prop} {t t' : TypeId} {x y : Operand} {k : IntKind} {i j : Int} (hx : ev env x = some (.int k i)) (hy : ev env y = some (.int k j)) (hj : j ≠ 0) : Soft P n env S (.binOp .quo t x y t') (.int k (k.wrap (Int.tdiv i j))) := fun a ha o ho w _ => by
  simp [execOp, ho, ha.ev hx, ha.ev hy, eqGuard_at_int, binOp, Op.intDiv, hj]
theorem remI {S : World → Prop} {t t' : TypeId} {x y : Operand} {k : IntKind} {i j : Int} (hx : ev env x = some (.int k i)) (hy : ev env y = some (.int k j)) (hj : j ≠ 0) : Soft P n env S (.binOp .rem t x y t') (.int k (Int.tmod i j)) := fun a ha o ho w _ => by
  simp [execOp, ho, ha.ev hx, ha.ev hy, eqGuard_at_int, binOp, Op.intDiv, hj]
theorem negI {S : World → Prop} {t : TypeId} {x : Operand} {k : IntKind} {i : Int} (hx : ev env x = some (.int k i)) : Soft P n env S (.unOp .neg t x) (.int k (k.wrap (0 - i))) := fun a ha o ho w _ => by
  simp [execOp, ho, ha.ev hx, Op.unary, Op.intArith]
theorem b_quoI {t t' : TypeId} {x y : Operand} {k : IntKind} {i j : Int} (h : G n ((d, .int k (k.wrap (Int.tdiv i j))) :: env) b ps hp K) (hx : ev env x = some (.int k i) := by exact rfl) (hy : ev env y = some (.int k j) := by exact rfl) (hj : j ≠ 0 := by first | (with_reducible assumption) | omega) (hd : Nat.blt d n = true := by exact rfl) : GO P n env b ps hp ⟨some d, .binOp .quo t x y t', ty, pos, aft, gd⟩ K Q := rd1 (quoI hx hy hj) hd h
theorem b_remI {t t' : TypeId} {x y : Operand} {k : IntKind} {i j : Int} (h : G n ((d, .int k (Int.tmod i j)) :: env) b ps hp K) (hx : ev env x = some (.int k i) := by exact rfl) (hy : ev env y = some (.int k j) := by exact rfl) (hj : j ≠ 0 := by first | (with_reducible assumption) | omega) (hd : Nat.blt d n = true := by exact rfl) : GO P n env b ps hp ⟨some d, .binOp .rem t x y t', ty, pos, aft, gd⟩ K Q := rd1 (remI hx hy hj) hd h
theorem ngI {t : TypeId} {x : Operand} {k : IntKind} {i : Int} (h : G n ((d, .int k (k.wrap (0 - i))) :: env) b ps hp K) (hx : ev env x = some (.int k i) := by exact rfl) (hd : Nat.blt d n = true := by exact rfl) : GO P n env b ps hp ⟨some d, .unOp .neg t x, ty, pos, aft, gd⟩ K Q := rd1 (negI hx) hd h
theorem lk_get {bl : Nat} {f : Int → Option Value} {t k e : TypeId} {x y : Operand} {i : Int} {v zv : Value} {rest : List Res} [UMap P t k e] [UInt P k .i64] [UZero P e zv] [FMap bl hp f rest] (hx : ev env x = some (.map (some bl))) (hy : ev env y = some (.int .i64 i)) (hv : (f i).getD zv = v) : RdV P n env ps hp (.lookup t x y false) v := fun _ _ _ h2 => by
  subst hv
  exact RX.lookup (f := f) (e := e) (k := k) (z := zv) hx hy (fun _ ha => map_at (rest := rest) h2 ha)
theorem lkg {bl : Nat} {f : Int → Option Value} {t k e : TypeId} {x y : Operand} {i : Int} {zv v : Value} {rest : List Res} [UMap P t k e] [UInt P k .i64] [UZero P e zv] (h : G n ((d, v) :: env) b ps hp K) (hx : ev env x = some (.map (some bl)) := by exact rfl) (hy : ev env y = some (.int .i64 i) := by exact rfl) (i0 : FMap bl hp f rest := by exact inferInstance) (hv : (f i).getD zv = v := by with_reducible assumption) (hd : Nat.blt d n = true := by exact rfl) : GO P n env b ps hp ⟨some d, .lookup t x y false, ty, pos, aft, gd⟩ K Q := rdv (lk_get (f := f) (e := e) (k := k) (zv := zv) (rest := rest) hx hy hv) hd h
theorem rlkg {psW : List Pf} {hpS : List Res} {bl : Nat} {f : Int → Option Value} {t k e : TypeId} {x y : Operand} {i : Int} {zv v : Value} {rest : List Res} [UMap P t k e] [UInt P k .i64] [UZero P e zv] {wd : World} {F : Nat → Prop} (h : G n ((d, v) :: env) b ps hp K) (hx : ev env x = some (.map (some bl)) := by exact rfl) (hy : ev env y = some (.int .i64 i) := by exact rfl) (i0 : FMap bl hpS f rest := by exact inferInstance) (hv : (f i).getD zv = v := by with_reducible assumption) (hd : Nat.blt d n = true := by exact rfl) : GTR P n env psW hpS wd F b ps hp K ⟨some d, .lookup t x y false, ty, pos, aft, gd⟩ := .v (lk_get (f := f) (e := e) (k := k) (zv := zv) (rest := rest) hx hy hv) hd h
end
end Go.GX
