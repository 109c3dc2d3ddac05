/- Shifts, bits and conversions of numbers. Written by wip/gbit.py. No program in sight. -/
import Derived.Test.YtnpbadghodkhlaaGFun
import Derived.Laws.BytesArg
import Derived.Laws.Strings
namespace Go.GX
open Go Go.RowKit Go.RR Go.RX
def shlV (k : IntKind) (i c : Int) : Int := k.wrap (i * 2 ^ (min c.toNat k.bits))
def shrV (k : IntKind) (i c : Int) : Int := i.fdiv (2 ^ (min c.toNat k.bits))
def bAnd (k : IntKind) (i j : Int) : Int := k.wrap ((BitVec.ofInt k.bits i &&& BitVec.ofInt k.bits j).toNat)
def bOr (k : IntKind) (i j : Int) : Int := k.wrap ((BitVec.ofInt k.bits i ||| BitVec.ofInt k.bits j).toNat)
def bNot (k : IntKind) (i j : Int) : Int := k.wrap ((BitVec.ofInt k.bits i &&& ~~~(BitVec.ofInt k.bits j)).toNat)
def cplV (k : IntKind) (i : Int) : Int := k.wrap ((BitVec.ofInt k.bits (if k.signed then -1 else k.max) ^^^ BitVec.ofInt k.bits i).toNat)
def strEq (u v : ByteArray) : Bool := u.toList == v.toList
def strNe (u v : ByteArray) : Bool := !strEq u v
theorem strEq_self (u : ByteArray) : strEq u u = true := by unfold strEq; simp
theorem strNe_self (u : ByteArray) : strNe u u = false := by unfold strNe; rw [strEq_self]; rfl
theorem strEq_nums {xs ys : List Int} (hx : ∀ x ∈ xs, 0 ≤ x ∧ x ≤ 255) (hy : ∀ x ∈ ys, 0 ≤ x ∧ x ≤ 255) : strEq (strOfNums xs) (strOfNums ys) = decide (xs = ys) := by
  unfold strEq
  rw [ByteArray.toList_eq, ByteArray.toList_eq, strOfNums_data, strOfNums_data, Bool.eq_iff_iff, beq_iff_eq, decide_eq_true_iff]
  constructor
  · intro h
    have inj : ∀ (l m : List Int), (∀ x ∈ l, 0 ≤ x ∧ x ≤ 255) → (∀ x ∈ m, 0 ≤ x ∧ x ≤ 255) → (l.map fun n => UInt8.ofNat n.toNat) = (m.map fun n => UInt8.ofNat n.toNat) → l = m := by
      intro l
      induction l with
      | nil => intro m _ _ h; simpa using h.symm
      | cons x l ih =>
        intro m hl hm h
        cases m with
        | nil => simp at h
        | cons y m =>
          simp only [List.map_cons, List.cons.injEq] at h
          have h1 := congrArg UInt8.toNat h.1
          have hx := hl x (by simp)
          have hy := hm y (by simp)
          simp only [UInt8.toNat_ofNat'] at h1
          have : x = y := by omega
          rw [this, ih m (fun z hz => hl z (by simp [hz])) (fun z hz => hm z (by simp [hz])) h.2]
    exact inj _ _ hx hy h
  · intro h; rw [h]
section
variable {P : Program} {n : Nat} {env : Env} {b : Base} {ps : List Pf} {hp : List Res} {Q : Exit → Act → World → Prop} {K : Act → World → Prop}
section sems
variable {S : World → Prop} {t t' : TypeId} {x y : Operand}
theorem shl_v {k k2 : IntKind} {i c : Int} (hx : ev env x = some (.int k i)) (hy : ev env y = some (.int k2 c)) (hb : 0 ≤ c) : Soft P n env S (.binOp .shl t x y t') (.int k (shlV k i c)) := fun a ha o ho w _ => by
  simp [execOp, ho, ha.ev hx, ha.ev hy, eqGuard, binOp, Op.shift, shlV, Int.not_lt.2 hb]
theorem shr_v {k k2 : IntKind} {i c : Int} (hx : ev env x = some (.int k i)) (hy : ev env y = some (.int k2 c)) (hb : 0 ≤ c) : Soft P n env S (.binOp .shr t x y t') (.int k (shrV k i c)) := fun a ha o ho w _ => by
  simp [execOp, ho, ha.ev hx, ha.ev hy, eqGuard, binOp, Op.shift, shrV, Int.not_lt.2 hb]
theorem and_v {k : IntKind} {i j : Int} (hx : ev env x = some (.int k i)) (hy : ev env y = some (.int k j)) : Soft P n env S (.binOp .and t x y t') (.int k (bAnd k i j)) := fun a ha o ho w _ => by
  simp [execOp, ho, ha.ev hx, ha.ev hy, eqGuard_at_int, binOp, Op.intBits, bAnd]
theorem or_v {k : IntKind} {i j : Int} (hx : ev env x = some (.int k i)) (hy : ev env y = some (.int k j)) : Soft P n env S (.binOp .or t x y t') (.int k (bOr k i j)) := fun a ha o ho w _ => by
  simp [execOp, ho, ha.ev hx, ha.ev hy, eqGuard_at_int, binOp, Op.intBits, bOr]
theorem andNot_v {k : IntKind} {i j : Int} (hx : ev env x = some (.int k i)) (hy : ev env y = some (.int k j)) : Soft P n env S (.binOp .andNot t x y t') (.int k (bNot k i j)) := fun a ha o ho w _ => by
  simp [execOp, ho, ha.ev hx, ha.ev hy, eqGuard_at_int, binOp, Op.intBits, bNot]
theorem cpl_v {k : IntKind} {i : Int} (hx : ev env x = some (.int k i)) : Soft P n env S (.unOp .xor t x) (.int k (cplV k i)) := fun a ha o ho w _ => by
  simp [execOp, ho, ha.ev hx, Op.unary, Op.intBits, cplV]
theorem cv_v {k0 k1 k : IntKind} {i : Int} [h0 : UInt P t k0] [h1 : UInt P t' k] (hx : ev env x = some (.int k1 i)) : Soft P n env S (.convert t t' x) (.int k (k.wrap i)) := fun a ha o ho w _ => by
  simp [execOp, ho, ha.ev hx, convert, run_underlying h0.u, run_underlying h1.u, Conv.intToInt]
theorem seql_v {u v : ByteArray} [h : UString P t] (hx : ev env x = some (.string u)) (hy : ev env y = some (.string v)) : Soft P n env S (.binOp .eql t x y t') (.bool (strEq u v)) := fun a ha o ho w _ => by
  simp [execOp, ho, ha.ev hx, ha.ev hy, eqGuard, binOp, Op.stringOp, strEq]
theorem sneq_v {u v : ByteArray} [h : UString P t] (hx : ev env x = some (.string u)) (hy : ev env y = some (.string v)) : Soft P n env S (.binOp .neq t x y t') (.bool (strNe u v)) := fun a ha o ho w _ => by
  simp [execOp, ho, ha.ev hx, ha.ev hy, eqGuard, binOp, Op.stringOp, bne, strNe, strEq]
theorem cvs_rd {ao : Option Addr} {cap cap' m : Nat} {xs : List Int} {et : TypeId} [ht : USlice P t et] [he : UInt P et .u8] [hs : UString P t'] [hf : FSl ao ps Ty.byte cap xs] (hx : ev env x = some (.slice ao m cap')) (hm : m = xs.length) :
    Rd P n env ps hp (.convert t t' x) (fun _ : Unit => .string (strOfNums xs)) (fun _ => []) := fun F w h1 h2 => by
  subst hm
  obtain ⟨hc, hb, hsl⟩ : (Sl Ty.byte ao cap xs).says F w := h1 _ hf.mem
  refine ⟨(), fun p hp => by simp at hp, fun a ha o ho w' hag => ?_⟩
  have h3 : SlAt Ty.byte (fun k => F k ∨ feet hp k) w' ao xs := (hsl.move (fun _ _ h => .inl h) (Agree.refl _ _)).move (fun _ _ h => h) hag
  have key : (convert t t' (.slice ao xs.length cap')).run P w' = .ok (.string (strOfNums xs)) w' := by
    cases ao with
    | none =>
      have hx0 : xs = [] := by
        cases xs with
        | nil => rfl
        | cons x l => obtain ⟨b, o, cs, h, _⟩ := h3 0 x (by simp); cases h
      subst hx0
      exact run_convert_bytes_nil w' t et ht.u he.u _ _ t' hs.u
    | some a =>
      have hl : (loadCells a xs.length).run P w' = .ok (xs.map (Value.int .u8)).toArray w' := by
        have := run_loadCells_list (P := P) w' a (xs.map (Value.int .u8)) (fun j v hj => by
          rw [List.getElem?_map] at hj
          obtain ⟨x, hxj, rfl⟩ := Option.map_eq_some_iff.1 hj
          obtain ⟨b, o, cs, h4, h5, h6, h7, h8⟩ := h3 j x hxj
          have h8 : cs = [.int .u8 x] := h8
          cases h4
          have hone : (Ty.byte).size = 1 := rfl
          rw [hone, Nat.mul_one, h8] at h7
          have hplain : (⟨b, o, none⟩ : Addr).add j = ⟨b, o + j, none⟩ := Addr.add_lit _ _ _
          rw [hplain]
          have := h7 0 _ rfl
          simpa using this)
        simpa using this
      rw [run_convert_bytes_string w' t t' et _ _ _ ht.u he.u hs.u, run_bytesToString w' _ _ _ xs hl, foldl_push_bytes]
      simp [strOfNums, ByteArray.empty, ByteArray.emptyWithCapacity]
      rfl
  simp [execOp, ho, ha.ev hx, key]
end sems
theorem b_shl {t t' : TypeId} {x y : Operand} {k k2 : IntKind} {i c : Int} {d : Nat} {ty : TypeId} {pos : String} {aft : Array Edge} {gd : Option (Nat × Bool)} (h : G n ((d, .int k (shlV k i c)) :: env) b ps hp K) (hx : ev env x = some (.int k i) := by exact rfl) (hy : ev env y = some (.int k2 c) := by exact rfl) (hb : 0 ≤ c := by omega)  (hd : Nat.blt d n = true := by exact rfl) : GO P n env b ps hp ⟨some d, .binOp .shl t x y t', ty, pos, aft, gd⟩ K Q := rd1 (shl_v hx hy hb) hd h
theorem tb_shl {t t' : TypeId} {x y : Operand} {k k2 : IntKind} {i c : Int} {d : Nat} {ty : TypeId} {pos : String} {aft : Array Edge} {gd : Option (Nat × Bool)} (h : G n ((d, .int k (shlV k i c)) :: env) b ps hp K) (hx : ev env x = some (.int k i) := by exact rfl) (hy : ev env y = some (.int k2 c) := by exact rfl) (hb : 0 ≤ c := by omega)  (hd : Nat.blt d n = true := by exact rfl) : GT P n env b ps hp ⟨some d, .binOp .shl t x y t', ty, pos, aft, gd⟩ K := tp1 (shl_v hx hy hb) hd h
theorem rb_shl {t t' : TypeId} {x y : Operand} {k k2 : IntKind} {i c : Int} {d : Nat} {ty : TypeId} {pos : String} {aft : Array Edge} {gd : Option (Nat × Bool)} {psW : List Pf} {hpS : List Res} {wd : World} {F : Nat → Prop} (h : G n ((d, .int k (shlV k i c)) :: env) b ps hp K) (hx : ev env x = some (.int k i) := by exact rfl) (hy : ev env y = some (.int k2 c) := by exact rfl) (hb : 0 ≤ c := by omega)  (hd : Nat.blt d n = true := by exact rfl) : GTR P n env psW hpS wd F b ps hp K ⟨some d, .binOp .shl t x y t', ty, pos, aft, gd⟩ := .v (.of_soft fun _ => shl_v hx hy hb) hd h
theorem b_shr {t t' : TypeId} {x y : Operand} {k k2 : IntKind} {i c : Int} {d : Nat} {ty : TypeId} {pos : String} {aft : Array Edge} {gd : Option (Nat × Bool)} (h : G n ((d, .int k (shrV k i c)) :: env) b ps hp K) (hx : ev env x = some (.int k i) := by exact rfl) (hy : ev env y = some (.int k2 c) := by exact rfl) (hb : 0 ≤ c := by omega)  (hd : Nat.blt d n = true := by exact rfl) : GO P n env b ps hp ⟨some d, .binOp .shr t x y t', ty, pos, aft, gd⟩ K Q := rd1 (shr_v hx hy hb) hd h
theorem tb_shr {t t' : TypeId} {x y : Operand} {k k2 : IntKind} {i c : Int} {d : Nat} {ty : TypeId} {pos : String} {aft : Array Edge} {gd : Option (Nat × Bool)} (h : G n ((d, .int k (shrV k i c)) :: env) b ps hp K) (hx : ev env x = some (.int k i) := by exact rfl) (hy : ev env y = some (.int k2 c) := by exact rfl) (hb : 0 ≤ c := by omega)  (hd : Nat.blt d n = true := by exact rfl) : GT P n env b ps hp ⟨some d, .binOp .shr t x y t', ty, pos, aft, gd⟩ K := tp1 (shr_v hx hy hb) hd h
theorem rb_shr {t t' : TypeId} {x y : Operand} {k k2 : IntKind} {i c : Int} {d : Nat} {ty : TypeId} {pos : String} {aft : Array Edge} {gd : Option (Nat × Bool)} {psW : List Pf} {hpS : List Res} {wd : World} {F : Nat → Prop} (h : G n ((d, .int k (shrV k i c)) :: env) b ps hp K) (hx : ev env x = some (.int k i) := by exact rfl) (hy : ev env y = some (.int k2 c) := by exact rfl) (hb : 0 ≤ c := by omega)  (hd : Nat.blt d n = true := by exact rfl) : GTR P n env psW hpS wd F b ps hp K ⟨some d, .binOp .shr t x y t', ty, pos, aft, gd⟩ := .v (.of_soft fun _ => shr_v hx hy hb) hd h
theorem b_andv {t t' : TypeId} {x y : Operand} {k : IntKind} {i j : Int} {d : Nat} {ty : TypeId} {pos : String} {aft : Array Edge} {gd : Option (Nat × Bool)} (h : G n ((d, .int k (bAnd k i j)) :: env) b ps hp K) (hx : ev env x = some (.int k i) := by exact rfl) (hy : ev env y = some (.int k j) := by exact rfl)  (hd : Nat.blt d n = true := by exact rfl) : GO P n env b ps hp ⟨some d, .binOp .and t x y t', ty, pos, aft, gd⟩ K Q := rd1 (and_v hx hy) hd h
theorem tb_andv {t t' : TypeId} {x y : Operand} {k : IntKind} {i j : Int} {d : Nat} {ty : TypeId} {pos : String} {aft : Array Edge} {gd : Option (Nat × Bool)} (h : G n ((d, .int k (bAnd k i j)) :: env) b ps hp K) (hx : ev env x = some (.int k i) := by exact rfl) (hy : ev env y = some (.int k j) := by exact rfl)  (hd : Nat.blt d n = true := by exact rfl) : GT P n env b ps hp ⟨some d, .binOp .and t x y t', ty, pos, aft, gd⟩ K := tp1 (and_v hx hy) hd h
theorem rb_andv {t t' : TypeId} {x y : Operand} {k : IntKind} {i j : Int} {d : Nat} {ty : TypeId} {pos : String} {aft : Array Edge} {gd : Option (Nat × Bool)} {psW : List Pf} {hpS : List Res} {wd : World} {F : Nat → Prop} (h : G n ((d, .int k (bAnd k i j)) :: env) b ps hp K) (hx : ev env x = some (.int k i) := by exact rfl) (hy : ev env y = some (.int k j) := by exact rfl)  (hd : Nat.blt d n = true := by exact rfl) : GTR P n env psW hpS wd F b ps hp K ⟨some d, .binOp .and t x y t', ty, pos, aft, gd⟩ := .v (.of_soft fun _ => and_v hx hy) hd h
theorem b_orv {t t' : TypeId} {x y : Operand} {k : IntKind} {i j : Int} {d : Nat} {ty : TypeId} {pos : String} {aft : Array Edge} {gd : Option (Nat × Bool)} (h : G n ((d, .int k (bOr k i j)) :: env) b ps hp K) (hx : ev env x = some (.int k i) := by exact rfl) (hy : ev env y = some (.int k j) := by exact rfl)  (hd : Nat.blt d n = true := by exact rfl) : GO P n env b ps hp ⟨some d, .binOp .or t x y t', ty, pos, aft, gd⟩ K Q := rd1 (or_v hx hy) hd h
theorem tb_orv {t t' : TypeId} {x y : Operand} {k : IntKind} {i j : Int} {d : Nat} {ty : TypeId} {pos : String} {aft : Array Edge} {gd : Option (Nat × Bool)} (h : G n ((d, .int k (bOr k i j)) :: env) b ps hp K) (hx : ev env x = some (.int k i) := by exact rfl) (hy : ev env y = some (.int k j) := by exact rfl)  (hd : Nat.blt d n = true := by exact rfl) : GT P n env b ps hp ⟨some d, .binOp .or t x y t', ty, pos, aft, gd⟩ K := tp1 (or_v hx hy) hd h
theorem rb_orv {t t' : TypeId} {x y : Operand} {k : IntKind} {i j : Int} {d : Nat} {ty : TypeId} {pos : String} {aft : Array Edge} {gd : Option (Nat × Bool)} {psW : List Pf} {hpS : List Res} {wd : World} {F : Nat → Prop} (h : G n ((d, .int k (bOr k i j)) :: env) b ps hp K) (hx : ev env x = some (.int k i) := by exact rfl) (hy : ev env y = some (.int k j) := by exact rfl)  (hd : Nat.blt d n = true := by exact rfl) : GTR P n env psW hpS wd F b ps hp K ⟨some d, .binOp .or t x y t', ty, pos, aft, gd⟩ := .v (.of_soft fun _ => or_v hx hy) hd h
theorem b_andNotv {t t' : TypeId} {x y : Operand} {k : IntKind} {i j : Int} {d : Nat} {ty : TypeId} {pos : String} {aft : Array Edge} {gd : Option (Nat × Bool)} (h : G n ((d, .int k (bNot k i j)) :: env) b ps hp K) (hx : ev env x = some (.int k i) := by exact rfl) (hy : ev env y = some (.int k j) := by exact rfl)  (hd : Nat.blt d n = true := by exact rfl) : GO P n env b ps hp ⟨some d, .binOp .andNot t x y t', ty, pos, aft, gd⟩ K Q := rd1 (andNot_v hx hy) hd h
theorem tb_andNotv {t t' : TypeId} {x y : Operand} {k : IntKind} {i j : Int} {d : Nat} {ty : TypeId} {pos : String} {aft : Array Edge} {gd : Option (Nat × Bool)} (h : G n ((d, .int k (bNot k i j)) :: env) b ps hp K) (hx : ev env x = some (.int k i) := by exact rfl) (hy : ev env y = some (.int k j) := by exact rfl)  (hd : Nat.blt d n = true := by exact rfl) : GT P n env b ps hp ⟨some d, .binOp .andNot t x y t', ty, pos, aft, gd⟩ K := tp1 (andNot_v hx hy) hd h
theorem rb_andNotv {t t' : TypeId} {x y : Operand} {k : IntKind} {i j : Int} {d : Nat} {ty : TypeId} {pos : String} {aft : Array Edge} {gd : Option (Nat × Bool)} {psW : List Pf} {hpS : List Res} {wd : World} {F : Nat → Prop} (h : G n ((d, .int k (bNot k i j)) :: env) b ps hp K) (hx : ev env x = some (.int k i) := by exact rfl) (hy : ev env y = some (.int k j) := by exact rfl)  (hd : Nat.blt d n = true := by exact rfl) : GTR P n env psW hpS wd F b ps hp K ⟨some d, .binOp .andNot t x y t', ty, pos, aft, gd⟩ := .v (.of_soft fun _ => andNot_v hx hy) hd h
theorem u_cpl {t : TypeId} {x : Operand} {k : IntKind} {i : Int} {d : Nat} {ty : TypeId} {pos : String} {aft : Array Edge} {gd : Option (Nat × Bool)} (h : G n ((d, .int k (cplV k i)) :: env) b ps hp K) (hx : ev env x = some (.int k i) := by exact rfl)  (hd : Nat.blt d n = true := by exact rfl) : GO P n env b ps hp ⟨some d, .unOp .xor t x, ty, pos, aft, gd⟩ K Q := rd1 (cpl_v hx) hd h
theorem tu_cpl {t : TypeId} {x : Operand} {k : IntKind} {i : Int} {d : Nat} {ty : TypeId} {pos : String} {aft : Array Edge} {gd : Option (Nat × Bool)} (h : G n ((d, .int k (cplV k i)) :: env) b ps hp K) (hx : ev env x = some (.int k i) := by exact rfl)  (hd : Nat.blt d n = true := by exact rfl) : GT P n env b ps hp ⟨some d, .unOp .xor t x, ty, pos, aft, gd⟩ K := tp1 (cpl_v hx) hd h
theorem ru_cpl {t : TypeId} {x : Operand} {k : IntKind} {i : Int} {d : Nat} {ty : TypeId} {pos : String} {aft : Array Edge} {gd : Option (Nat × Bool)} {psW : List Pf} {hpS : List Res} {wd : World} {F : Nat → Prop} (h : G n ((d, .int k (cplV k i)) :: env) b ps hp K) (hx : ev env x = some (.int k i) := by exact rfl)  (hd : Nat.blt d n = true := by exact rfl) : GTR P n env psW hpS wd F b ps hp K ⟨some d, .unOp .xor t x, ty, pos, aft, gd⟩ := .v (.of_soft fun _ => cpl_v hx) hd h
theorem cv {t t' : TypeId} {x : Operand} {k0 k1 k : IntKind} {i : Int} [UInt P t k0] [UInt P t' k] {d : Nat} {ty : TypeId} {pos : String} {aft : Array Edge} {gd : Option (Nat × Bool)} (h : G n ((d, .int k (k.wrap i)) :: env) b ps hp K) (hx : ev env x = some (.int k1 i) := by exact rfl)  (hd : Nat.blt d n = true := by exact rfl) : GO P n env b ps hp ⟨some d, .convert t t' x, ty, pos, aft, gd⟩ K Q := rd1 (cv_v (k0 := k0) hx) hd h
theorem tcv {t t' : TypeId} {x : Operand} {k0 k1 k : IntKind} {i : Int} [UInt P t k0] [UInt P t' k] {d : Nat} {ty : TypeId} {pos : String} {aft : Array Edge} {gd : Option (Nat × Bool)} (h : G n ((d, .int k (k.wrap i)) :: env) b ps hp K) (hx : ev env x = some (.int k1 i) := by exact rfl)  (hd : Nat.blt d n = true := by exact rfl) : GT P n env b ps hp ⟨some d, .convert t t' x, ty, pos, aft, gd⟩ K := tp1 (cv_v (k0 := k0) hx) hd h
theorem rcv {t t' : TypeId} {x : Operand} {k0 k1 k : IntKind} {i : Int} [UInt P t k0] [UInt P t' k] {d : Nat} {ty : TypeId} {pos : String} {aft : Array Edge} {gd : Option (Nat × Bool)} {psW : List Pf} {hpS : List Res} {wd : World} {F : Nat → Prop} (h : G n ((d, .int k (k.wrap i)) :: env) b ps hp K) (hx : ev env x = some (.int k1 i) := by exact rfl)  (hd : Nat.blt d n = true := by exact rfl) : GTR P n env psW hpS wd F b ps hp K ⟨some d, .convert t t' x, ty, pos, aft, gd⟩ := .v (.of_soft fun _ => cv_v (k0 := k0) hx) hd h
theorem b_seq {t t' : TypeId} {x y : Operand} {u v : ByteArray} [UString P t] {d : Nat} {ty : TypeId} {pos : String} {aft : Array Edge} {gd : Option (Nat × Bool)} (h : G n ((d, .bool (strEq u v)) :: env) b ps hp K) (hx : ev env x = some (.string u) := by exact rfl) (hy : ev env y = some (.string v) := by exact rfl)  (hd : Nat.blt d n = true := by exact rfl) : GO P n env b ps hp ⟨some d, .binOp .eql t x y t', ty, pos, aft, gd⟩ K Q := rd1 (seql_v hx hy) hd h
theorem tb_seq {t t' : TypeId} {x y : Operand} {u v : ByteArray} [UString P t] {d : Nat} {ty : TypeId} {pos : String} {aft : Array Edge} {gd : Option (Nat × Bool)} (h : G n ((d, .bool (strEq u v)) :: env) b ps hp K) (hx : ev env x = some (.string u) := by exact rfl) (hy : ev env y = some (.string v) := by exact rfl)  (hd : Nat.blt d n = true := by exact rfl) : GT P n env b ps hp ⟨some d, .binOp .eql t x y t', ty, pos, aft, gd⟩ K := tp1 (seql_v hx hy) hd h
theorem rb_seq {t t' : TypeId} {x y : Operand} {u v : ByteArray} [UString P t] {d : Nat} {ty : TypeId} {pos : String} {aft : Array Edge} {gd : Option (Nat × Bool)} {psW : List Pf} {hpS : List Res} {wd : World} {F : Nat → Prop} (h : G n ((d, .bool (strEq u v)) :: env) b ps hp K) (hx : ev env x = some (.string u) := by exact rfl) (hy : ev env y = some (.string v) := by exact rfl)  (hd : Nat.blt d n = true := by exact rfl) : GTR P n env psW hpS wd F b ps hp K ⟨some d, .binOp .eql t x y t', ty, pos, aft, gd⟩ := .v (.of_soft fun _ => seql_v hx hy) hd h
theorem b_sne {t t' : TypeId} {x y : Operand} {u v : ByteArray} [UString P t] {d : Nat} {ty : TypeId} {pos : String} {aft : Array Edge} {gd : Option (Nat × Bool)} (h : G n ((d, .bool (strNe u v)) :: env) b ps hp K) (hx : ev env x = some (.string u) := by exact rfl) (hy : ev env y = some (.string v) := by exact rfl)  (hd : Nat.blt d n = true := by exact rfl) : GO P n env b ps hp ⟨some d, .binOp .neq t x y t', ty, pos, aft, gd⟩ K Q := rd1 (sneq_v hx hy) hd h
theorem tb_sne {t t' : TypeId} {x y : Operand} {u v : ByteArray} [UString P t] {d : Nat} {ty : TypeId} {pos : String} {aft : Array Edge} {gd : Option (Nat × Bool)} (h : G n ((d, .bool (strNe u v)) :: env) b ps hp K) (hx : ev env x = some (.string u) := by exact rfl) (hy : ev env y = some (.string v) := by exact rfl)  (hd : Nat.blt d n = true := by exact rfl) : GT P n env b ps hp ⟨some d, .binOp .neq t x y t', ty, pos, aft, gd⟩ K := tp1 (sneq_v hx hy) hd h
theorem rb_sne {t t' : TypeId} {x y : Operand} {u v : ByteArray} [UString P t] {d : Nat} {ty : TypeId} {pos : String} {aft : Array Edge} {gd : Option (Nat × Bool)} {psW : List Pf} {hpS : List Res} {wd : World} {F : Nat → Prop} (h : G n ((d, .bool (strNe u v)) :: env) b ps hp K) (hx : ev env x = some (.string u) := by exact rfl) (hy : ev env y = some (.string v) := by exact rfl)  (hd : Nat.blt d n = true := by exact rfl) : GTR P n env psW hpS wd F b ps hp K ⟨some d, .binOp .neq t x y t', ty, pos, aft, gd⟩ := .v (.of_soft fun _ => sneq_v hx hy) hd h
theorem cvs {ao : Option Addr} {cap cap' m : Nat} {xs : List Int} {t t' et : TypeId} {x : Operand} {d : Nat} {ty : TypeId} {pos : String} {aft : Array Edge} {gd : Option (Nat × Bool)} [USlice P t et] [UInt P et .u8] [UString P t'] [FSl ao ps Ty.byte cap xs] (h : G n ((d, .string (strOfNums xs)) :: env) b ps hp K) (hx : ev env x = some (.slice ao m cap') := by exact rfl) (hm : m = xs.length := by first | exact rfl | (simp; done) | omega) (hd : Nat.blt d n = true := by exact rfl) : GO P n env b ps hp ⟨some d, .convert t t' x, ty, pos, aft, gd⟩ K Q := rd (cvs_rd (cap := cap) hx hm) hd (fun _ => h)
theorem rcvs {psW : List Pf} {hpS : List Res} {wd : World} {F : Nat → Prop} {ao : Option Addr} {cap cap' m : Nat} {xs : List Int} {t t' et : TypeId} {x : Operand} {d : Nat} {ty : TypeId} {pos : String} {aft : Array Edge} {gd : Option (Nat × Bool)} [USlice P t et] [UInt P et .u8] [UString P t'] [FSl ao psW Ty.byte cap xs] (h : G n ((d, .string (strOfNums xs)) :: env) b ps hp K) (hx : ev env x = some (.slice ao m cap') := by exact rfl) (hm : m = xs.length := by first | exact rfl | (simp; done) | omega) (hd : Nat.blt d n = true := by exact rfl) : GTR P n env psW hpS wd F b ps hp K ⟨some d, .convert t t' x, ty, pos, aft, gd⟩ := .mk (cvs_rd (cap := cap) hx hm) hd (fun _ _ => h)
end
end Go.GX
