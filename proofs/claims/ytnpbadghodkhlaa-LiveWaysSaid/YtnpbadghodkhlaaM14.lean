import Derived.Test.YtnpbadghodkhlaaM8
import Derived.Test.YtnpbadghodkhlaaM12
import Derived.Test.YtnpbadghodkhlaaM13
import Derived.Laws.BytesArg
import Derived.Laws.Strings
import Derived.ChangeKeysEq
import Derived.Laws.StructEq
/- The walks over isVar, asked, Uses, Def of package live. -/
namespace Go.Proofs.Ytnpbadghodkhlaa
open Go Go.RR Go.RX Go.GX Go.Api Go.FlowM Go.RiseM Go.LivM
attribute [local irreducible] wpList Code.wp wpPlan Exit.then Exit.inBlock bodyPost NoPanic Went GX.Post GX.Again GX.Meet GX.RowR GX.Own GX.Owns GX.Box GX.Sl GX.Pt GX.Ag GX.MapR GX.Kept GX.Pin wpT GoK AtEnd Both

theorem isVar_spec (x : Int) : Does Try.prog 27 [.int .i64 x] [] [] (fun _ : Unit => .bool (decide (In 4000 x))) (fun _ => []) (fun _ => []) := by
  refine enter Try.func27 rfl Try.ntmps27 rfl fun b => ?_
  by_cases h1 : 0 ≤ x
  · refine GX.wR ?_; intros
    exact rt1 () (congrArg Value.bool (decide_eq_decide.2 ⟨fun h => h.2, fun h => ⟨h1, h⟩⟩))
  · refine GX.wR ?_; intros
    exact rt1 () (congrArg Value.bool (decide_eq_false fun h => h1 h.1))
theorem uses1_spec (x : Int) : Does Try.prog 26 [.int .i64 x] [] [] (fun _ : Unit => .bool (decide (¬ In 4000 x))) (fun _ => []) (fun _ => []) := by
  refine enter Try.func26 rfl Try.ntmps26 rfl fun b => ?_
  refine GX.wR ?_; intros
  refine GX.o (cl (isVar_spec x) fun _ => ?_)
  refine GX.wR ?_; intros
  exact rt1 () rfl
set_option maxHeartbeats 2000000 in
theorem asked_spec (cs : List Value) (x : Ins) (hx : x.args.length ≤ 17592186043904) : Does Try.prog 25 [.agg cs.toArray] [Ag tyIns cs x] [] (fun s : Option Addr × Nat => .slice s.1 (asks x).length s.2) (fun _ => []) (fun s => [Own 3 Ty.int s.1 s.2 (asks x)]) := by
  refine enter Try.func25 rfl Try.ntmps25 rfl fun b => ?_
  by_cases e3 : x.op = 3
  · rw [show asks x = [x.b] by simp [asks, e3]]
    refine GX.wRO ?_; intros
    exact rt1 (_, _) rfl
  by_cases e5 : x.op = 5
  · rw [show asks x = [x.b] by simp [asks, e5]]
    refine GX.wRO ?_; intros
    exact rt1 (_, _) rfl
  by_cases e6 : x.op = 6
  · rw [show asks x = [x.b] by simp [asks, e6]]
    refine GX.wRO ?_; intros
    exact rt1 (_, _) rfl
  by_cases e10 : x.op = 10
  · rw [show asks x = [x.b] by simp [asks, e10]]
    refine GX.wRO ?_; intros
    exact rt1 (_, _) rfl
  by_cases e12 : x.op = 12
  · rw [show asks x = [x.b] by simp [asks, e12]]
    refine GX.wRO ?_; intros
    exact rt1 (_, _) rfl
  by_cases e4 : x.op = 4
  · rw [show asks x = [x.b, x.c] by simp [asks, e4]]
    refine GX.wRO ?_; intros
    exact rt1 (_, _) rfl
  by_cases e8 : x.op = 8
  · rw [show asks x = [x.b, x.c] by simp [asks, e8]]
    refine GX.wRO ?_; intros
    exact rt1 (_, _) rfl
  by_cases e7 : x.op = 7
  · rw [show asks x = [x.a, x.b] by simp [asks, e7]]
    refine GX.wRO ?_; intros
    exact rt1 (_, _) rfl
  by_cases e9 : x.op = 9
  · rw [show asks x = [x.a, x.b, x.c] by simp [asks, e9]]
    refine GX.wRO ?_; intros
    exact rt1 (_, _) rfl
  by_cases e13 : x.op = 13
  · rw [show asks x = x.args by simp [asks, e13]]
    refine GX.wRO ?_; intros
    refine GX.o (cl (clone_spec _ _ x.args hx) fun s => ?_)
    obtain ⟨a, c⟩ := s
    dsimp only
    refine GX.wRO ?_; intros
    exact rt1 (_, _) rfl
  by_cases e15 : x.op = 15
  · rw [show asks x = [x.a] by simp [asks, e15]]
    refine GX.wRO ?_; intros
    exact rt1 (_, _) rfl
  by_cases e17 : x.op = 17
  · rw [show asks x = [x.a] by simp [asks, e17]]
    refine GX.wRO ?_; intros
    exact rt1 (_, _) rfl
  by_cases e18 : x.op = 18
  · rw [show asks x = [x.a] by simp [asks, e18]]
    refine GX.wRO ?_; intros
    exact rt1 (_, _) rfl
  by_cases e20 : x.op = 20
  · rw [show asks x = [x.a] by simp [asks, e20]]
    refine GX.wRO ?_; intros
    exact rt1 (_, _) rfl
  rw [show asks x = [] by simp [asks, e3, e5, e6, e10, e12, e4, e8, e7, e9, e13, e15, e17, e18, e20]]
  refine GX.wRO ?_; intros
  refine ownNil 3 Ty.int ?_
  exact rt1 (none, 0) rfl
set_option maxHeartbeats 1000000 in
theorem uses_spec (cs : List Value) (x : Ins) (hx : x.args.length ≤ 17592186043904) : Does Try.prog 13 [.agg cs.toArray] [Ag tyIns cs x] [] (fun s : Option Addr × Nat => .slice s.1 (uses x).length s.2) (fun s => [Sl Ty.int s.1 s.2 (uses x)]) (fun _ => []) := by
  refine enter Try.func13 rfl Try.ntmps13 rfl fun b => ?_
  refine GX.wR ?_; intros
  refine GX.o (cl (asked_spec _ x hx) fun s => ?_)
  obtain ⟨a, c⟩ := s
  dsimp only
  have h4 : (asks x).length ≤ 17592186043904 := by unfold asks; (repeat' split) <;> first | exact hx | (simp only [List.length_cons, List.length_nil]; omega)
  refine GX.wR ?_; intros
  refine GX.o (cl (deleteFunc_spec a c (asks x) 26 [] [] [] (fun y => decide (¬ In 4000 y)) (fun y _ => uses1_spec y)) fun _ => ?_)
  have h5 := kept_len (fun y => decide (¬ In 4000 y)) (asks x) (asks x).length (Nat.le_refl _)
  have e : uses x = once (sorted (kept (fun y => decide (¬ In 4000 y)) (asks x) (asks x).length)) := sorted_once.symm
  rw [e]
  obtain ⟨L, hL⟩ : ∃ L, L = kept (fun y => decide (¬ In 4000 y)) (asks x) (asks x).length := ⟨_, rfl⟩
  rw [← hL] at h5 ⊢
  refine GX.wR ?_; intros
  refine GX.o (cl (sort_spec a c L (by omega)) fun _ => ?_)
  have h6 := sorted_len L
  rw [← h6]
  refine GX.wR ?_; intros
  refine GX.o (cl (compact_spec a c (sorted L) (by omega)) fun _ => ?_)
  refine GX.wR ?_; intros
  refine frz a ?_
  exact rt1 (_, _) rfl
set_option maxHeartbeats 2000000 in
theorem def_spec (cs : List Value) (x : Ins) : Does Try.prog 15 [.agg cs.toArray] [Ag tyIns cs x] [] (fun _ : Unit => .int .i64 (def_ x)) (fun _ => []) (fun _ => []) := by
  refine enter Try.func15 rfl Try.ntmps15 rfl fun b => ?_
  refine GX.wR ?_; intros
  refine GX.nmP 1 ?_; rintro b1 rfl
  refine GX.cut (σ := Bool) (fun q => [(1, .pointer (some ⟨b1, 0, none⟩)), (4, .int .i64 x.op), (5, .bool q)]) (fun _ => []) (fun _ => []) (fun q => q = decide (Sets x.op)) ?_ (fun q hq => ?_)
  · by_cases e1 : x.op = 1
    · refine GX.wR ?_; intros
      exact meet _ ⟨rfl, rfl, rfl, trivial⟩ (by simp [Sets, e1])
    by_cases e2 : x.op = 2
    · refine GX.wR ?_; intros
      exact meet _ ⟨rfl, rfl, rfl, trivial⟩ (by simp [Sets, e2])
    by_cases e3 : x.op = 3
    · refine GX.wR ?_; intros
      exact meet _ ⟨rfl, rfl, rfl, trivial⟩ (by simp [Sets, e3])
    by_cases e4 : x.op = 4
    · refine GX.wR ?_; intros
      exact meet _ ⟨rfl, rfl, rfl, trivial⟩ (by simp [Sets, e4])
    by_cases e5 : x.op = 5
    · refine GX.wR ?_; intros
      exact meet _ ⟨rfl, rfl, rfl, trivial⟩ (by simp [Sets, e5])
    by_cases e6 : x.op = 6
    · refine GX.wR ?_; intros
      exact meet _ ⟨rfl, rfl, rfl, trivial⟩ (by simp [Sets, e6])
    by_cases e8 : x.op = 8
    · refine GX.wR ?_; intros
      exact meet _ ⟨rfl, rfl, rfl, trivial⟩ (by simp [Sets, e8])
    by_cases e10 : x.op = 10
    · refine GX.wR ?_; intros
      exact meet _ ⟨rfl, rfl, rfl, trivial⟩ (by simp [Sets, e10])
    by_cases e11 : x.op = 11
    · refine GX.wR ?_; intros
      exact meet _ ⟨rfl, rfl, rfl, trivial⟩ (by simp [Sets, e11])
    by_cases e12 : x.op = 12
    · refine GX.wR ?_; intros
      exact meet _ ⟨rfl, rfl, rfl, trivial⟩ (by simp [Sets, e12])
    by_cases e13 : x.op = 13
    · refine GX.wR ?_; intros
      exact meet _ ⟨rfl, rfl, rfl, trivial⟩ (by simp [Sets, e13])
    by_cases e14 : x.op = 14
    · refine GX.wR ?_; intros
      exact meet _ ⟨rfl, rfl, rfl, trivial⟩ (by simp [Sets, e14])
    by_cases e19 : x.op = 19
    · refine GX.wR ?_; intros
      exact meet _ ⟨rfl, rfl, rfl, trivial⟩ (by simp [Sets, e19])
    refine GX.wR ?_; intros
    exact meet _ ⟨rfl, rfl, rfl, trivial⟩ (by simp [Sets, e1, e2, e3, e4, e5, e6, e8, e10, e11, e12, e13, e14, e19])
  by_cases hs : Sets x.op
  · have hq1 : q = true := by rw [hq]; exact decide_eq_true hs
    by_cases hv : In 4000 x.a
    · rw [show def_ x = x.a from if_pos ⟨hs, hv⟩]
      refine GX.wR ?_; intros
      refine GX.o (cl (isVar_spec x.a) fun _ => ?_)
      refine GX.wR ?_; intros
      exact rt1 () rfl
    · rw [show def_ x = -1 from if_neg fun h => hv h.2]
      refine GX.wR ?_; intros
      refine GX.o (cl (isVar_spec x.a) fun _ => ?_)
      refine GX.wR ?_; intros
      exact rt1 () rfl
  · have hq1 : q = false := by rw [hq]; exact decide_eq_false hs
    rw [show def_ x = -1 from if_neg fun h => hs h.1]
    refine GX.wR ?_; intros
    exact rt1 () rfl
end Go.Proofs.Ytnpbadghodkhlaa

/- Shifts, bits and conversions of numbers. Written by wip/gbit.py. No program in sight. -/
namespace Go.GX
open Go Go.RowKit Go.RR Go.RX
def shlV (k : IntKind) (i c : Int) : Int := k.wrap (i * 2 ^ (min c.toNat k.bits))
def shrV (k : IntKind) (i c : Int) : Int := i.fdiv (2 ^ (min c.toNat k.bits))
def bAnd (k : IntKind) (i j : Int) : Int := k.wrap ((BitVec.ofInt k.bits i &&& BitVec.ofInt k.bits j).toNat)
def bOr (k : IntKind) (i j : Int) : Int := k.wrap ((BitVec.ofInt k.bits i ||| BitVec.ofInt k.bits j).toNat)
def bNot (k : IntKind) (i j : Int) : Int := k.wrap ((BitVec.ofInt k.bits i &&& ~~~(BitVec.ofInt k.bits j)).toNat)
def cplV (k : IntKind) (i : Int) : Int := k.wrap ((BitVec.ofInt k.bits (if k.signed then -1 else k.max) ^^^ BitVec.ofInt k.bits i).toNat)
def strEq (u v : ByteArray) : Bool := u.toList == v.toList
def strNe (u v : ByteArray) : Bool := !strEq u v
theorem strEq_self (u : ByteArray) : strEq u u = true := by unfold strEq; simp
theorem strNe_self (u : ByteArray) : strNe u u = false := by unfold strNe; rw [strEq_self]; rfl
theorem strEq_nums {xs ys : List Int} (hx : ∀ x ∈ xs, 0 ≤ x ∧ x ≤ 255) (hy : ∀ x ∈ ys, 0 ≤ x ∧ x ≤ 255) : strEq (strOfNums xs) (strOfNums ys) = decide (xs = ys) := by
  unfold strEq
  rw [ByteArray.toList_eq, ByteArray.toList_eq, strOfNums_data, strOfNums_data, Bool.eq_iff_iff, beq_iff_eq, decide_eq_true_iff]
  constructor
  · intro h
    have inj : ∀ (l m : List Int), (∀ x ∈ l, 0 ≤ x ∧ x ≤ 255) → (∀ x ∈ m, 0 ≤ x ∧ x ≤ 255) → (l.map fun n => UInt8.ofNat n.toNat) = (m.map fun n => UInt8.ofNat n.toNat) → l = m := by
      intro l
      induction l with
      | nil => intro m _ _ h; simpa using h.symm
      | cons x l ih =>
        intro m hl hm h
        cases m with
        | nil => simp at h
        | cons y m =>
          simp only [List.map_cons, List.cons.injEq] at h
          have h1 := congrArg UInt8.toNat h.1
          have hx := hl x (by simp)
          have hy := hm y (by simp)
          simp only [UInt8.toNat_ofNat'] at h1
          have : x = y := by omega
          rw [this, ih m (fun z hz => hl z (by simp [hz])) (fun z hz => hm z (by simp [hz])) h.2]
    exact inj _ _ hx hy h
  · intro h; rw [h]
section
variable {P : Program} {n : Nat} {env : Env} {b : Base} {ps : List Pf} {hp : List Res} {Q : Exit → Act → World → Prop} {K : Act → World → Prop}
section sems
variable {S : World → Prop} {t t' : TypeId} {x y : Operand}
theorem shl_v {k k2 : IntKind} {i c : Int} (hx : ev env x = some (.int k i)) (hy : ev env y = some (.int k2 c)) (hb : 0 ≤ c) : Soft P n env S (.binOp .shl t x y t') (.int k (shlV k i c)) := fun a ha o ho w _ => by
  simp [execOp, ho, ha.ev hx, ha.ev hy, eqGuard, binOp, Op.shift, shlV, Int.not_lt.2 hb]
theorem shr_v {k k2 : IntKind} {i c : Int} (hx : ev env x = some (.int k i)) (hy : ev env y = some (.int k2 c)) (hb : 0 ≤ c) : Soft P n env S (.binOp .shr t x y t') (.int k (shrV k i c)) := fun a ha o ho w _ => by
  simp [execOp, ho, ha.ev hx, ha.ev hy, eqGuard, binOp, Op.shift, shrV, Int.not_lt.2 hb]
theorem and_v {k : IntKind} {i j : Int} (hx : ev env x = some (.int k i)) (hy : ev env y = some (.int k j)) : Soft P n env S (.binOp .and t x y t') (.int k (bAnd k i j)) := fun a ha o ho w _ => by
  simp [execOp, ho, ha.ev hx, ha.ev hy, eqGuard_at_int, binOp, Op.intBits, bAnd]
theorem or_v {k : IntKind} {i j : Int} (hx : ev env x = some (.int k i)) (hy : ev env y = some (.int k j)) : Soft P n env S (.binOp .or t x y t') (.int k (bOr k i j)) := fun a ha o ho w _ => by
  simp [execOp, ho, ha.ev hx, ha.ev hy, eqGuard_at_int, binOp, Op.intBits, bOr]
theorem andNot_v {k : IntKind} {i j : Int} (hx : ev env x = some (.int k i)) (hy : ev env y = some (.int k j)) : Soft P n env S (.binOp .andNot t x y t') (.int k (bNot k i j)) := fun a ha o ho w _ => by
  simp [execOp, ho, ha.ev hx, ha.ev hy, eqGuard_at_int, binOp, Op.intBits, bNot]
theorem cpl_v {k : IntKind} {i : Int} (hx : ev env x = some (.int k i)) : Soft P n env S (.unOp .xor t x) (.int k (cplV k i)) := fun a ha o ho w _ => by
  simp [execOp, ho, ha.ev hx, Op.unary, Op.intBits, cplV]
theorem cv_v {k0 k1 k : IntKind} {i : Int} [h0 : UInt P t k0] [h1 : UInt P t' k] (hx : ev env x = some (.int k1 i)) : Soft P n env S (.convert t t' x) (.int k (k.wrap i)) := fun a ha o ho w _ => by
  simp [execOp, ho, ha.ev hx, convert, run_underlying h0.u, run_underlying h1.u, Conv.intToInt]
theorem seql_v {u v : ByteArray} [h : UString P t] (hx : ev env x = some (.string u)) (hy : ev env y = some (.string v)) : Soft P n env S (.binOp .eql t x y t') (.bool (strEq u v)) := fun a ha o ho w _ => by
  simp [execOp, ho, ha.ev hx, ha.ev hy, eqGuard, binOp, Op.stringOp, strEq]
theorem sneq_v {u v : ByteArray} [h : UString P t] (hx : ev env x = some (.string u)) (hy : ev env y = some (.string v)) : Soft P n env S (.binOp .neq t x y t') (.bool (strNe u v)) := fun a ha o ho w _ => by
  simp [execOp, ho, ha.ev hx, ha.ev hy, eqGuard, binOp, Op.stringOp, bne, strNe, strEq]
theorem cvs_rd {ao : Option Addr} {cap cap' m : Nat} {xs : List Int} {et : TypeId} [ht : USlice P t et] [he : UInt P et .u8] [hs : UString P t'] [hf : FSl ao ps Ty.byte cap xs] (hx : ev env x = some (.slice ao m cap')) (hm : m = xs.length) :
    Rd P n env ps hp (.convert t t' x) (fun _ : Unit => .string (strOfNums xs)) (fun _ => []) := fun F w h1 h2 => by
  subst hm
  obtain ⟨hc, hb, hsl⟩ : (Sl Ty.byte ao cap xs).says F w := h1 _ hf.mem
  refine ⟨(), fun p hp => by simp at hp, fun a ha o ho w' hag => ?_⟩
  have h3 : SlAt Ty.byte (fun k => F k ∨ feet hp k) w' ao xs := (hsl.move (fun _ _ h => .inl h) (Agree.refl _ _)).move (fun _ _ h => h) hag
  have key : (convert t t' (.slice ao xs.length cap')).run P w' = .ok (.string (strOfNums xs)) w' := by
    cases ao with
    | none =>
      have hx0 : xs = [] := by
        cases xs with
        | nil => rfl
        | cons x l => obtain ⟨b, o, cs, h, _⟩ := h3 0 x (by simp); cases h
      subst hx0
      exact run_convert_bytes_nil w' t et ht.u he.u _ _ t' hs.u
    | some a =>
      have hl : (loadCells a xs.length).run P w' = .ok (xs.map (Value.int .u8)).toArray w' := by
        have := run_loadCells_list (P := P) w' a (xs.map (Value.int .u8)) (fun j v hj => by
          rw [List.getElem?_map] at hj
          obtain ⟨x, hxj, rfl⟩ := Option.map_eq_some_iff.1 hj
          obtain ⟨b, o, cs, h4, h5, h6, h7, h8⟩ := h3 j x hxj
          have h8 : cs = [.int .u8 x] := h8
          cases h4
          have hone : (Ty.byte).size = 1 := rfl
          rw [hone, Nat.mul_one, h8] at h7
          have hplain : (⟨b, o, none⟩ : Addr).add j = ⟨b, o + j, none⟩ := Addr.add_lit _ _ _
          rw [hplain]
          have := h7 0 _ rfl
          simpa using this)
        simpa using this
      rw [run_convert_bytes_string w' t t' et _ _ _ ht.u he.u hs.u, run_bytesToString w' _ _ _ xs hl, foldl_push_bytes]
      simp [strOfNums, ByteArray.empty, ByteArray.emptyWithCapacity]
      rfl
  simp [execOp, ho, ha.ev hx, key]
end sems
theorem b_shl {t t' : TypeId} {x y : Operand} {k k2 : IntKind} {i c : Int} {d : Nat} {ty : TypeId} {pos : String} {aft : Array Edge} {gd : Option (Nat × Bool)} (h : G n ((d, .int k (shlV k i c)) :: env) b ps hp K) (hx : ev env x = some (.int k i) := by exact rfl) (hy : ev env y = some (.int k2 c) := by exact rfl) (hb : 0 ≤ c := by omega)  (hd : Nat.blt d n = true := by exact rfl) : GO P n env b ps hp ⟨some d, .binOp .shl t x y t', ty, pos, aft, gd⟩ K Q := rd1 (shl_v hx hy hb) hd h
theorem tb_shl {t t' : TypeId} {x y : Operand} {k k2 : IntKind} {i c : Int} {d : Nat} {ty : TypeId} {pos : String} {aft : Array Edge} {gd : Option (Nat × Bool)} (h : G n ((d, .int k (shlV k i c)) :: env) b ps hp K) (hx : ev env x = some (.int k i) := by exact rfl) (hy : ev env y = some (.int k2 c) := by exact rfl) (hb : 0 ≤ c := by omega)  (hd : Nat.blt d n = true := by exact rfl) : GT P n env b ps hp ⟨some d, .binOp .shl t x y t', ty, pos, aft, gd⟩ K := tp1 (shl_v hx hy hb) hd h
theorem rb_shl {t t' : TypeId} {x y : Operand} {k k2 : IntKind} {i c : Int} {d : Nat} {ty : TypeId} {pos : String} {aft : Array Edge} {gd : Option (Nat × Bool)} {psW : List Pf} {hpS : List Res} {wd : World} {F : Nat → Prop} (h : G n ((d, .int k (shlV k i c)) :: env) b ps hp K) (hx : ev env x = some (.int k i) := by exact rfl) (hy : ev env y = some (.int k2 c) := by exact rfl) (hb : 0 ≤ c := by omega)  (hd : Nat.blt d n = true := by exact rfl) : GTR P n env psW hpS wd F b ps hp K ⟨some d, .binOp .shl t x y t', ty, pos, aft, gd⟩ := .v (.of_soft fun _ => shl_v hx hy hb) hd h
theorem b_shr {t t' : TypeId} {x y : Operand} {k k2 : IntKind} {i c : Int} {d : Nat} {ty : TypeId} {pos : String} {aft : Array Edge} {gd : Option (Nat × Bool)} (h : G n ((d, .int k (shrV k i c)) :: env) b ps hp K) (hx : ev env x = some (.int k i) := by exact rfl) (hy : ev env y = some (.int k2 c) := by exact rfl) (hb : 0 ≤ c := by omega)  (hd : Nat.blt d n = true := by exact rfl) : GO P n env b ps hp ⟨some d, .binOp .shr t x y t', ty, pos, aft, gd⟩ K Q := rd1 (shr_v hx hy hb) hd h
theorem tb_shr {t t' : TypeId} {x y : Operand} {k k2 : IntKind} {i c : Int} {d : Nat} {ty : TypeId} {pos : String} {aft : Array Edge} {gd : Option (Nat × Bool)} (h : G n ((d, .int k (shrV k i c)) :: env) b ps hp K) (hx : ev env x = some (.int k i) := by exact rfl) (hy : ev env y = some (.int k2 c) := by exact rfl) (hb : 0 ≤ c := by omega)  (hd : Nat.blt d n = true := by exact rfl) : GT P n env b ps hp ⟨some d, .binOp .shr t x y t', ty, pos, aft, gd⟩ K := tp1 (shr_v hx hy hb) hd h
theorem rb_shr {t t' : TypeId} {x y : Operand} {k k2 : IntKind} {i c : Int} {d : Nat} {ty : TypeId} {pos : String} {aft : Array Edge} {gd : Option (Nat × Bool)} {psW : List Pf} {hpS : List Res} {wd : World} {F : Nat → Prop} (h : G n ((d, .int k (shrV k i c)) :: env) b ps hp K) (hx : ev env x = some (.int k i) := by exact rfl) (hy : ev env y = some (.int k2 c) := by exact rfl) (hb : 0 ≤ c := by omega)  (hd : Nat.blt d n = true := by exact rfl) : GTR P n env psW hpS wd F b ps hp K ⟨some d, .binOp .shr t x y t', ty, pos, aft, gd⟩ := .v (.of_soft fun _ => shr_v hx hy hb) hd h
theorem b_andv {t t' : TypeId} {x y : Operand} {k : IntKind} {i j : Int} {d : Nat} {ty : TypeId} {pos : String} {aft : Array Edge} {gd : Option (Nat × Bool)} (h : G n ((d, .int k (bAnd k i j)) :: env) b ps hp K) (hx : ev env x = some (.int k i) := by exact rfl) (hy : ev env y = some (.int k j) := by exact rfl)  (hd : Nat.blt d n = true := by exact rfl) : GO P n env b ps hp ⟨some d, .binOp .and t x y t', ty, pos, aft, gd⟩ K Q := rd1 (and_v hx hy) hd h
theorem tb_andv {t t' : TypeId} {x y : Operand} {k : IntKind} {i j : Int} {d : Nat} {ty : TypeId} {pos : String} {aft : Array Edge} {gd : Option (Nat × Bool)} (h : G n ((d, .int k (bAnd k i j)) :: env) b ps hp K) (hx : ev env x = some (.int k i) := by exact rfl) (hy : ev env y = some (.int k j) := by exact rfl)  (hd : Nat.blt d n = true := by exact rfl) : GT P n env b ps hp ⟨some d, .binOp .and t x y t', ty, pos, aft, gd⟩ K := tp1 (and_v hx hy) hd h
theorem rb_andv {t t' : TypeId} {x y : Operand} {k : IntKind} {i j : Int} {d : Nat} {ty : TypeId} {pos : String} {aft : Array Edge} {gd : Option (Nat × Bool)} {psW : List Pf} {hpS : List Res} {wd : World} {F : Nat → Prop} (h : G n ((d, .int k (bAnd k i j)) :: env) b ps hp K) (hx : ev env x = some (.int k i) := by exact rfl) (hy : ev env y = some (.int k j) := by exact rfl)  (hd : Nat.blt d n = true := by exact rfl) : GTR P n env psW hpS wd F b ps hp K ⟨some d, .binOp .and t x y t', ty, pos, aft, gd⟩ := .v (.of_soft fun _ => and_v hx hy) hd h
theorem b_orv {t t' : TypeId} {x y : Operand} {k : IntKind} {i j : Int} {d : Nat} {ty : TypeId} {pos : String} {aft : Array Edge} {gd : Option (Nat × Bool)} (h : G n ((d, .int k (bOr k i j)) :: env) b ps hp K) (hx : ev env x = some (.int k i) := by exact rfl) (hy : ev env y = some (.int k j) := by exact rfl)  (hd : Nat.blt d n = true := by exact rfl) : GO P n env b ps hp ⟨some d, .binOp .or t x y t', ty, pos, aft, gd⟩ K Q := rd1 (or_v hx hy) hd h
theorem tb_orv {t t' : TypeId} {x y : Operand} {k : IntKind} {i j : Int} {d : Nat} {ty : TypeId} {pos : String} {aft : Array Edge} {gd : Option (Nat × Bool)} (h : G n ((d, .int k (bOr k i j)) :: env) b ps hp K) (hx : ev env x = some (.int k i) := by exact rfl) (hy : ev env y = some (.int k j) := by exact rfl)  (hd : Nat.blt d n = true := by exact rfl) : GT P n env b ps hp ⟨some d, .binOp .or t x y t', ty, pos, aft, gd⟩ K := tp1 (or_v hx hy) hd h
theorem rb_orv {t t' : TypeId} {x y : Operand} {k : IntKind} {i j : Int} {d : Nat} {ty : TypeId} {pos : String} {aft : Array Edge} {gd : Option (Nat × Bool)} {psW : List Pf} {hpS : List Res} {wd : World} {F : Nat → Prop} (h : G n ((d, .int k (bOr k i j)) :: env) b ps hp K) (hx : ev env x = some (.int k i) := by exact rfl) (hy : ev env y = some (.int k j) := by exact rfl)  (hd : Nat.blt d n = true := by exact rfl) : GTR P n env psW hpS wd F b ps hp K ⟨some d, .binOp .or t x y t', ty, pos, aft, gd⟩ := .v (.of_soft fun _ => or_v hx hy) hd h
theorem b_andNotv {t t' : TypeId} {x y : Operand} {k : IntKind} {i j : Int} {d : Nat} {ty : TypeId} {pos : String} {aft : Array Edge} {gd : Option (Nat × Bool)} (h : G n ((d, .int k (bNot k i j)) :: env) b ps hp K) (hx : ev env x = some (.int k i) := by exact rfl) (hy : ev env y = some (.int k j) := by exact rfl)  (hd : Nat.blt d n = true := by exact rfl) : GO P n env b ps hp ⟨some d, .binOp .andNot t x y t', ty, pos, aft, gd⟩ K Q := rd1 (andNot_v hx hy) hd h
theorem tb_andNotv {t t' : TypeId} {x y : Operand} {k : IntKind} {i j : Int} {d : Nat} {ty : TypeId} {pos : String} {aft : Array Edge} {gd : Option (Nat × Bool)} (h : G n ((d, .int k (bNot k i j)) :: env) b ps hp K) (hx : ev env x = some (.int k i) := by exact rfl) (hy : ev env y = some (.int k j) := by exact rfl)  (hd : Nat.blt d n = true := by exact rfl) : GT P n env b ps hp ⟨some d, .binOp .andNot t x y t', ty, pos, aft, gd⟩ K := tp1 (andNot_v hx hy) hd h
theorem rb_andNotv {t t' : TypeId} {x y : Operand} {k : IntKind} {i j : Int} {d : Nat} {ty : TypeId} {pos : String} {aft : Array Edge} {gd : Option (Nat × Bool)} {psW : List Pf} {hpS : List Res} {wd : World} {F : Nat → Prop} (h : G n ((d, .int k (bNot k i j)) :: env) b ps hp K) (hx : ev env x = some (.int k i) := by exact rfl) (hy : ev env y = some (.int k j) := by exact rfl)  (hd : Nat.blt d n = true := by exact rfl) : GTR P n env psW hpS wd F b ps hp K ⟨some d, .binOp .andNot t x y t', ty, pos, aft, gd⟩ := .v (.of_soft fun _ => andNot_v hx hy) hd h
theorem u_cpl {t : TypeId} {x : Operand} {k : IntKind} {i : Int} {d : Nat} {ty : TypeId} {pos : String} {aft : Array Edge} {gd : Option (Nat × Bool)} (h : G n ((d, .int k (cplV k i)) :: env) b ps hp K) (hx : ev env x = some (.int k i) := by exact rfl)  (hd : Nat.blt d n = true := by exact rfl) : GO P n env b ps hp ⟨some d, .unOp .xor t x, ty, pos, aft, gd⟩ K Q := rd1 (cpl_v hx) hd h
theorem tu_cpl {t : TypeId} {x : Operand} {k : IntKind} {i : Int} {d : Nat} {ty : TypeId} {pos : String} {aft : Array Edge} {gd : Option (Nat × Bool)} (h : G n ((d, .int k (cplV k i)) :: env) b ps hp K) (hx : ev env x = some (.int k i) := by exact rfl)  (hd : Nat.blt d n = true := by exact rfl) : GT P n env b ps hp ⟨some d, .unOp .xor t x, ty, pos, aft, gd⟩ K := tp1 (cpl_v hx) hd h
theorem ru_cpl {t : TypeId} {x : Operand} {k : IntKind} {i : Int} {d : Nat} {ty : TypeId} {pos : String} {aft : Array Edge} {gd : Option (Nat × Bool)} {psW : List Pf} {hpS : List Res} {wd : World} {F : Nat → Prop} (h : G n ((d, .int k (cplV k i)) :: env) b ps hp K) (hx : ev env x = some (.int k i) := by exact rfl)  (hd : Nat.blt d n = true := by exact rfl) : GTR P n env psW hpS wd F b ps hp K ⟨some d, .unOp .xor t x, ty, pos, aft, gd⟩ := .v (.of_soft fun _ => cpl_v hx) hd h
theorem cv {t t' : TypeId} {x : Operand} {k0 k1 k : IntKind} {i : Int} [UInt P t k0] [UInt P t' k] {d : Nat} {ty : TypeId} {pos : String} {aft : Array Edge} {gd : Option (Nat × Bool)} (h : G n ((d, .int k (k.wrap i)) :: env) b ps hp K) (hx : ev env x = some (.int k1 i) := by exact rfl)  (hd : Nat.blt d n = true := by exact rfl) : GO P n env b ps hp ⟨some d, .convert t t' x, ty, pos, aft, gd⟩ K Q := rd1 (cv_v (k0 := k0) hx) hd h
theorem tcv {t t' : TypeId} {x : Operand} {k0 k1 k : IntKind} {i : Int} [UInt P t k0] [UInt P t' k] {d : Nat} {ty : TypeId} {pos : String} {aft : Array Edge} {gd : Option (Nat × Bool)} (h : G n ((d, .int k (k.wrap i)) :: env) b ps hp K) (hx : ev env x = some (.int k1 i) := by exact rfl)  (hd : Nat.blt d n = true := by exact rfl) : GT P n env b ps hp ⟨some d, .convert t t' x, ty, pos, aft, gd⟩ K := tp1 (cv_v (k0 := k0) hx) hd h
theorem rcv {t t' : TypeId} {x : Operand} {k0 k1 k : IntKind} {i : Int} [UInt P t k0] [UInt P t' k] {d : Nat} {ty : TypeId} {pos : String} {aft : Array Edge} {gd : Option (Nat × Bool)} {psW : List Pf} {hpS : List Res} {wd : World} {F : Nat → Prop} (h : G n ((d, .int k (k.wrap i)) :: env) b ps hp K) (hx : ev env x = some (.int k1 i) := by exact rfl)  (hd : Nat.blt d n = true := by exact rfl) : GTR P n env psW hpS wd F b ps hp K ⟨some d, .convert t t' x, ty, pos, aft, gd⟩ := .v (.of_soft fun _ => cv_v (k0 := k0) hx) hd h
theorem b_seq {t t' : TypeId} {x y : Operand} {u v : ByteArray} [UString P t] {d : Nat} {ty : TypeId} {pos : String} {aft : Array Edge} {gd : Option (Nat × Bool)} (h : G n ((d, .bool (strEq u v)) :: env) b ps hp K) (hx : ev env x = some (.string u) := by exact rfl) (hy : ev env y = some (.string v) := by exact rfl)  (hd : Nat.blt d n = true := by exact rfl) : GO P n env b ps hp ⟨some d, .binOp .eql t x y t', ty, pos, aft, gd⟩ K Q := rd1 (seql_v hx hy) hd h
theorem tb_seq {t t' : TypeId} {x y : Operand} {u v : ByteArray} [UString P t] {d : Nat} {ty : TypeId} {pos : String} {aft : Array Edge} {gd : Option (Nat × Bool)} (h : G n ((d, .bool (strEq u v)) :: env) b ps hp K) (hx : ev env x = some (.string u) := by exact rfl) (hy : ev env y = some (.string v) := by exact rfl)  (hd : Nat.blt d n = true := by exact rfl) : GT P n env b ps hp ⟨some d, .binOp .eql t x y t', ty, pos, aft, gd⟩ K := tp1 (seql_v hx hy) hd h
theorem rb_seq {t t' : TypeId} {x y : Operand} {u v : ByteArray} [UString P t] {d : Nat} {ty : TypeId} {pos : String} {aft : Array Edge} {gd : Option (Nat × Bool)} {psW : List Pf} {hpS : List Res} {wd : World} {F : Nat → Prop} (h : G n ((d, .bool (strEq u v)) :: env) b ps hp K) (hx : ev env x = some (.string u) := by exact rfl) (hy : ev env y = some (.string v) := by exact rfl)  (hd : Nat.blt d n = true := by exact rfl) : GTR P n env psW hpS wd F b ps hp K ⟨some d, .binOp .eql t x y t', ty, pos, aft, gd⟩ := .v (.of_soft fun _ => seql_v hx hy) hd h
theorem b_sne {t t' : TypeId} {x y : Operand} {u v : ByteArray} [UString P t] {d : Nat} {ty : TypeId} {pos : String} {aft : Array Edge} {gd : Option (Nat × Bool)} (h : G n ((d, .bool (strNe u v)) :: env) b ps hp K) (hx : ev env x = some (.string u) := by exact rfl) (hy : ev env y = some (.string v) := by exact rfl)  (hd : Nat.blt d n = true := by exact rfl) : GO P n env b ps hp ⟨some d, .binOp .neq t x y t', ty, pos, aft, gd⟩ K Q := rd1 (sneq_v hx hy) hd h
theorem tb_sne {t t' : TypeId} {x y : Operand} {u v : ByteArray} [UString P t] {d : Nat} {ty : TypeId} {pos : String} {aft : Array Edge} {gd : Option (Nat × Bool)} (h : G n ((d, .bool (strNe u v)) :: env) b ps hp K) (hx : ev env x = some (.string u) := by exact rfl) (hy : ev env y = some (.string v) := by exact rfl)  (hd : Nat.blt d n = true := by exact rfl) : GT P n env b ps hp ⟨some d, .binOp .neq t x y t', ty, pos, aft, gd⟩ K := tp1 (sneq_v hx hy) hd h
theorem rb_sne {t t' : TypeId} {x y : Operand} {u v : ByteArray} [UString P t] {d : Nat} {ty : TypeId} {pos : String} {aft : Array Edge} {gd : Option (Nat × Bool)} {psW : List Pf} {hpS : List Res} {wd : World} {F : Nat → Prop} (h : G n ((d, .bool (strNe u v)) :: env) b ps hp K) (hx : ev env x = some (.string u) := by exact rfl) (hy : ev env y = some (.string v) := by exact rfl)  (hd : Nat.blt d n = true := by exact rfl) : GTR P n env psW hpS wd F b ps hp K ⟨some d, .binOp .neq t x y t', ty, pos, aft, gd⟩ := .v (.of_soft fun _ => sneq_v hx hy) hd h
theorem cvs {ao : Option Addr} {cap cap' m : Nat} {xs : List Int} {t t' et : TypeId} {x : Operand} {d : Nat} {ty : TypeId} {pos : String} {aft : Array Edge} {gd : Option (Nat × Bool)} [USlice P t et] [UInt P et .u8] [UString P t'] [FSl ao ps Ty.byte cap xs] (h : G n ((d, .string (strOfNums xs)) :: env) b ps hp K) (hx : ev env x = some (.slice ao m cap') := by exact rfl) (hm : m = xs.length := by first | exact rfl | (simp; done) | omega) (hd : Nat.blt d n = true := by exact rfl) : GO P n env b ps hp ⟨some d, .convert t t' x, ty, pos, aft, gd⟩ K Q := rd (cvs_rd (cap := cap) hx hm) hd (fun _ => h)
theorem rcvs {psW : List Pf} {hpS : List Res} {wd : World} {F : Nat → Prop} {ao : Option Addr} {cap cap' m : Nat} {xs : List Int} {t t' et : TypeId} {x : Operand} {d : Nat} {ty : TypeId} {pos : String} {aft : Array Edge} {gd : Option (Nat × Bool)} [USlice P t et] [UInt P et .u8] [UString P t'] [FSl ao psW Ty.byte cap xs] (h : G n ((d, .string (strOfNums xs)) :: env) b ps hp K) (hx : ev env x = some (.slice ao m cap') := by exact rfl) (hm : m = xs.length := by first | exact rfl | (simp; done) | omega) (hd : Nat.blt d n = true := by exact rfl) : GTR P n env psW hpS wd F b ps hp K ⟨some d, .convert t t' x, ty, pos, aft, gd⟩ := .mk (cvs_rd (cap := cap) hx hm) hd (fun _ _ => h)
end
end Go.GX

/- Arrays of numbers. Written by wip/garr.py. No program in sight. -/
namespace Go.GX
open Go Go.RowKit Go.RR Go.RX
/-- An array of numbers. -/
def Ty.arr (m : Nat) (k : IntKind) : Ty (List Int) where
  size := m
  rd _ _ cs x := x.length = m ∧ cs = x.map (Value.int k)
  len := by rintro F w cs x ⟨h1, rfl⟩; rw [List.length_map, h1]
  one := by
    rintro F w cs x ⟨h1, rfl⟩ c hc
    obtain ⟨y, _, rfl⟩ := List.mem_map.1 hc
    rfl
  move h _ _ := h
class UArr (P : Program) (t : TypeId) (m : outParam Nat) (e : outParam TypeId) : Prop where u : P.underlying t = some (.array m e)
class UInf (P : Program) (t : TypeId) : Prop where
  i : (P.info? t).isSome = true
  c : P.cellsOf t = 1
class UPlain (P : Program) (t : TypeId) : Prop where g : P.eqGuardType P.depth t = false
instance (m : Nat) (k : IntKind) : Sub (Ty.arr m k) 0 (Ty.arr m k) (fun y => y) (fun z _ => z) := Sub.whole _
theorem arr_sub {m i : Nat} {k : IntKind} (h : i < m) : Sub (Ty.arr m k) i (Ty.num k) (fun y => y.getD i 0) (fun z y => y.set i z) where
  fits := h
  get := by
    rintro F w cs y ⟨h1, rfl⟩
    show ((y.map (Value.int k)).drop i).take 1 = [.int k (y.getD i 0)]
    rw [← List.map_drop, ← List.map_take]
    have hi : i < y.length := by omega
    rw [List.drop_eq_getElem_cons hi, List.take_succ_cons, List.take_zero]
    simp [List.getD, List.getElem?_eq_getElem hi]
  put := by
    rintro F w cs c2 y z ⟨h1, rfl⟩ h2
    have h2 : c2 = [.int k z] := h2
    subst h2
    refine ⟨by rw [List.length_set]; exact h1, ?_⟩
    show _ ++ (_ ++ (y.map (Value.int k)).drop (i + 1)) = _
    rw [List.map_set, List.set_eq_take_append_cons_drop, if_pos (by rw [List.length_map]; omega)]
    simp
section
variable {P : Program} {n : Nat} {env : Env} {b : Base} {ps : List Pf} {hp : List Res} {Q : Exit → Act → World → Prop} {K : Act → World → Prop}
section sems
variable {S : World → Prop} {t t' e : TypeId} {x y : Operand}
theorem ixo_v {bl o i m : Nat} {k : IntKind} [h : UArr P t m e] [hs : USize P e 1] (hx : ev env x = some (.pointer (some ⟨bl, o, none⟩))) (hy : ev env y = some (.int k (i : Int))) (hi : i < m) : Soft P n env S (.indexAddr t x y) (.pointer (some ⟨bl, o + i, none⟩)) := fun a ha op ho w _ => by
  have h1 : (sizeOf e).run P w = .ok 1 w := hs.s w
  simp [execOp, ho, ha.ev hx, ha.ev hy, Instr.indexAt, asIntOf, Instr.sureAddr, run_underlying h.u, hi, h1, Addr.add_lit]
theorem ixa_v {bl i m : Nat} {k : IntKind} [h : UArr P t m e] [hs : USize P e 1] (hx : ev env x = some (.pointer (some ⟨bl, 0, none⟩))) (hy : ev env y = some (.int k (i : Int))) (hi : i < m) : Soft P n env S (.indexAddr t x y) (.pointer (some ⟨bl, i, none⟩)) := by
  have := ixo_v (P := P) (n := n) (env := env) (S := S) (t := t) (e := e) hx hy hi
  rwa [Nat.zero_add] at this
theorem quo_nat {i j : Nat} (hx : ev env x = some (.int .i64 (i : Int))) (hy : ev env y = some (.int .i64 (j : Int))) (hb : j ≠ 0) (hi : i ≤ 9223372036854775807) : Soft P n env S (.binOp .quo t x y t') (.int .i64 ((i / j : Nat) : Int)) := fun a ha o ho w _ => by
  have hj : ¬ (j : Int) = 0 := by omega
  have hm : Int.tdiv (i : Int) (j : Int) = ((i / j : Nat) : Int) := rfl
  simp [execOp, ho, ha.ev hx, ha.ev hy, eqGuard_at_int, binOp, Op.intDiv, hb, hm]
  have h6 : i / j ≤ i := Nat.div_le_self _ _
  have h5 : (i : Int) / (j : Int) = ((i / j : Nat) : Int) := rfl
  rw [h5]
  generalize i / j = q at h6 ⊢
  exact RX.wrap_in (by omega)
theorem ld_arr {m : Nat} {k : IntKind} {bl o' off : Nat} {y : List Int} {x0 : Int} [UOne P t] [hl : Look bl o' ps hp (Ty.arr m k) off y] (hx : ev env x = some (.pointer (some ⟨bl, o', none⟩))) (h0 : y[off]? = some x0) : RdV P n env ps hp (.load t x) (.int k x0) := fun F w h1 h2 => by
  obtain ⟨o, cs, rfl, h3, ⟨_, rfl⟩, h5⟩ := hl.look h1 h2
  exact RX.load hx (fun w' ha => ha.cell h5 (h3 off _ (by rw [List.getElem?_map, h0]; rfl)))
theorem eqItems_nums {w : World} (d : Nat) {k : IntKind} (he : P.underlying e = some (.int k)) (u v : List Int) : ∀ is : List Nat, (∀ i ∈ is, i < u.length ∧ i < v.length) →
    (Op.eqItems (d + 1) e 1 (u.map (Value.int k)).toArray (v.map (Value.int k)).toArray is).run P w = .ok (decide (∀ i ∈ is, u[i]? = v[i]?)) w
  | [], _ => by simp [Op.eqItems]
  | i :: is, h => by
    obtain ⟨h1, h2⟩ := h i (by simp)
    have hp : P.plainKey e = true := by unfold Program.plainKey; rw [he]
    have e1 : (u.map (Value.int k)).toArray[i]? = some (.int k u[i]) := by simp [List.getElem?_eq_getElem h1]
    have e2 : (v.map (Value.int k)).toArray[i]? = some (.int k v[i]) := by simp [List.getElem?_eq_getElem h2]
    have ih := eqItems_nums (w := w) d he u v is (fun j hj => h j (by simp [hj]))
    simp only [Op.eqItems, Nat.mul_one, Sem.run_bind, run_part_plain w hp e1, run_part_plain w hp e2, Result.andThen_ok, run_equalIn_int w d e k k u[i] v[i] he]
    by_cases hq : u[i] = v[i]
    · rw [show (u[i] == v[i]) = true by simpa using hq]
      simp [ih, List.getElem?_eq_getElem h1, List.getElem?_eq_getElem h2, hq]
    · rw [show (u[i] == v[i]) = false by simpa using hq]
      simp [List.getElem?_eq_getElem h1, List.getElem?_eq_getElem h2, hq]
theorem ne_arr0 {m : Nat} {k : IntKind} {cs ds : List Value} {u v : List Int} [h : UArr P t m e] [hk : UInt P e k] [hi : UInf P e] [hg : UPlain P t] (hx : ev env x = some (.agg cs.toArray)) (hy : ev env y = some (.agg ds.toArray)) (i0 : Ag (Ty.arr m k) cs u ∈ ps) (i1 : Ag (Ty.arr m k) ds v ∈ ps) :
    ∀ F w, AllP F w ps → Soft P n env S (.binOp .neq t x y t') (.bool (decide (u ≠ v))) := fun F w h1 => by
  obtain ⟨hu, rfl⟩ : u.length = m ∧ cs = u.map (Value.int k) := h1 _ i0
  obtain ⟨hv, rfl⟩ : v.length = m ∧ ds = v.map (Value.int k) := h1 _ i1
  intro a ha o ho w' _
  obtain ⟨inf, hinf⟩ := Option.isSome_iff_exists.1 hi.i
  have key : (Op.equalIn 10000 t (.agg (u.map (Value.int k)).toArray) (.agg (v.map (Value.int k)).toArray)).run P w' = .ok (decide (u = v)) w' := by
    rw [run_equalIn_array w' 9999 _ _ h.u hinf, hi.c, eqItems_nums 9998 hk.u u v (List.range m) (fun i hi => by have := List.mem_range.1 hi; omega)]
    congr 1
    refine decide_eq_decide.2 ⟨fun h => List.ext_getElem? fun i => ?_, fun h i _ => by rw [h]⟩
    by_cases him : i < m
    · exact h i (List.mem_range.2 him)
    · rw [List.getElem?_eq_none (by omega), List.getElem?_eq_none (by omega)]
  simp [execOp, ho, ha.ev hx, ha.ev hy, run_eqGuard_agg w' .neq t _ _ _ _ hg.g, run_neq_struct, key]
theorem ne_arr {m : Nat} {k : IntKind} {cs ds : List Value} {u v : List Int} [h : UArr P t m e] [hk : UInt P e k] [hi : UInf P e] [hg : UPlain P t] (hx : ev env x = some (.agg cs.toArray)) (hy : ev env y = some (.agg ds.toArray)) (i0 : Ag (Ty.arr m k) cs u ∈ ps) (i1 : Ag (Ty.arr m k) ds v ∈ ps) :
    RdV P n env ps hp (.binOp .neq t x y t') (.bool (decide (u ≠ v))) := fun F w h1 _ => ne_arr0 (m := m) (k := k) (e := e) hx hy i0 i1 F w h1
end sems
theorem xnea {psW : List Pf} {t t' e : TypeId} {x y : Operand} {m : Nat} {k : IntKind} {cs ds : List Value} {u v : List Int} {d : Nat} {ty : TypeId} {pos : String} {aft : Array Edge} {gd : Option (Nat × Bool)} {wd : World} {F : Nat → Prop} [UArr P t m e] [UInt P e k] [UInf P e] [UPlain P t] (h : G n ((d, .bool (decide (u ≠ v))) :: env) b ps hp K)
    (hx : ev env x = some (.agg cs.toArray) := by exact rfl) (hy : ev env y = some (.agg ds.toArray) := by exact rfl) (i0 : FAg cs psW (Ty.arr m k) u := by exact inferInstance) (i1 : FAg ds psW (Ty.arr m k) v := by exact inferInstance) (hd : Nat.blt d n = true := by exact rfl) :
    GTP P n env psW wd F b ps hp K ⟨some d, .binOp .neq t x y t', ty, pos, aft, gd⟩ := .mk (ι := Unit) (val := fun _ => .bool (decide (u ≠ v))) (pf := fun _ => []) (fun F w h1 => ⟨(), no_p, ne_arr0 (m := m) (k := k) (e := e) hx hy i0.mem i1.mem F w h1⟩) hd (fun _ _ => h)
theorem ixa {t e : TypeId} {x y : Operand} {bl i m : Nat} {k : IntKind} [UArr P t m e] [USize P e 1] {d : Nat} {ty : TypeId} {pos : String} {aft : Array Edge} {gd : Option (Nat × Bool)} (h : G n ((d, .pointer (some ⟨bl, i, none⟩)) :: env) b ps hp K) (hx : ev env x = some (.pointer (some ⟨bl, 0, none⟩)) := by exact rfl) (hy : ev env y = some (.int k (i : Int)) := by exact rfl) (hi : i < m := by omega) (hd : Nat.blt d n = true := by exact rfl) : GO P n env b ps hp ⟨some d, .indexAddr t x y, ty, pos, aft, gd⟩ K Q := rd1 (ixa_v hx hy hi) hd h
theorem tixa {t e : TypeId} {x y : Operand} {bl i m : Nat} {k : IntKind} [UArr P t m e] [USize P e 1] {d : Nat} {ty : TypeId} {pos : String} {aft : Array Edge} {gd : Option (Nat × Bool)} (h : G n ((d, .pointer (some ⟨bl, i, none⟩)) :: env) b ps hp K) (hx : ev env x = some (.pointer (some ⟨bl, 0, none⟩)) := by exact rfl) (hy : ev env y = some (.int k (i : Int)) := by exact rfl) (hi : i < m := by omega) (hd : Nat.blt d n = true := by exact rfl) : GT P n env b ps hp ⟨some d, .indexAddr t x y, ty, pos, aft, gd⟩ K := tp1 (ixa_v hx hy hi) hd h
theorem rixa {t e : TypeId} {x y : Operand} {bl i m : Nat} {k : IntKind} [UArr P t m e] [USize P e 1] {d : Nat} {ty : TypeId} {pos : String} {aft : Array Edge} {gd : Option (Nat × Bool)} {psW : List Pf} {hpS : List Res} {wd : World} {F : Nat → Prop} (h : G n ((d, .pointer (some ⟨bl, i, none⟩)) :: env) b ps hp K) (hx : ev env x = some (.pointer (some ⟨bl, 0, none⟩)) := by exact rfl) (hy : ev env y = some (.int k (i : Int)) := by exact rfl) (hi : i < m := by omega) (hd : Nat.blt d n = true := by exact rfl) : GTR P n env psW hpS wd F b ps hp K ⟨some d, .indexAddr t x y, ty, pos, aft, gd⟩ := .v (.of_soft fun _ => ixa_v hx hy hi) hd h
theorem ixo {t e : TypeId} {x y : Operand} {bl o i m : Nat} {k : IntKind} [UArr P t m e] [USize P e 1] {d : Nat} {ty : TypeId} {pos : String} {aft : Array Edge} {gd : Option (Nat × Bool)} (h : G n ((d, .pointer (some ⟨bl, o + i, none⟩)) :: env) b ps hp K) (hx : ev env x = some (.pointer (some ⟨bl, o, none⟩)) := by exact rfl) (hy : ev env y = some (.int k (i : Int)) := by exact rfl) (hi : i < m := by omega) (hd : Nat.blt d n = true := by exact rfl) : GO P n env b ps hp ⟨some d, .indexAddr t x y, ty, pos, aft, gd⟩ K Q := rd1 (ixo_v hx hy hi) hd h
theorem tixo {t e : TypeId} {x y : Operand} {bl o i m : Nat} {k : IntKind} [UArr P t m e] [USize P e 1] {d : Nat} {ty : TypeId} {pos : String} {aft : Array Edge} {gd : Option (Nat × Bool)} (h : G n ((d, .pointer (some ⟨bl, o + i, none⟩)) :: env) b ps hp K) (hx : ev env x = some (.pointer (some ⟨bl, o, none⟩)) := by exact rfl) (hy : ev env y = some (.int k (i : Int)) := by exact rfl) (hi : i < m := by omega) (hd : Nat.blt d n = true := by exact rfl) : GT P n env b ps hp ⟨some d, .indexAddr t x y, ty, pos, aft, gd⟩ K := tp1 (ixo_v hx hy hi) hd h
theorem rixo {t e : TypeId} {x y : Operand} {bl o i m : Nat} {k : IntKind} [UArr P t m e] [USize P e 1] {d : Nat} {ty : TypeId} {pos : String} {aft : Array Edge} {gd : Option (Nat × Bool)} {psW : List Pf} {hpS : List Res} {wd : World} {F : Nat → Prop} (h : G n ((d, .pointer (some ⟨bl, o + i, none⟩)) :: env) b ps hp K) (hx : ev env x = some (.pointer (some ⟨bl, o, none⟩)) := by exact rfl) (hy : ev env y = some (.int k (i : Int)) := by exact rfl) (hi : i < m := by omega) (hd : Nat.blt d n = true := by exact rfl) : GTR P n env psW hpS wd F b ps hp K ⟨some d, .indexAddr t x y, ty, pos, aft, gd⟩ := .v (.of_soft fun _ => ixo_v hx hy hi) hd h
theorem b_quo {t t' : TypeId} {x y : Operand} {i j : Nat} {d : Nat} {ty : TypeId} {pos : String} {aft : Array Edge} {gd : Option (Nat × Bool)} (h : G n ((d, .int .i64 ((i / j : Nat) : Int)) :: env) b ps hp K) (hx : ev env x = some (.int .i64 (i : Int)) := by exact rfl) (hy : ev env y = some (.int .i64 (j : Int)) := by exact rfl) (hb : j ≠ 0 := by omega) (hi : i ≤ 9223372036854775807 := by omega) (hd : Nat.blt d n = true := by exact rfl) : GO P n env b ps hp ⟨some d, .binOp .quo t x y t', ty, pos, aft, gd⟩ K Q := rd1 (quo_nat hx hy hb hi) hd h
theorem tb_quo {t t' : TypeId} {x y : Operand} {i j : Nat} {d : Nat} {ty : TypeId} {pos : String} {aft : Array Edge} {gd : Option (Nat × Bool)} (h : G n ((d, .int .i64 ((i / j : Nat) : Int)) :: env) b ps hp K) (hx : ev env x = some (.int .i64 (i : Int)) := by exact rfl) (hy : ev env y = some (.int .i64 (j : Int)) := by exact rfl) (hb : j ≠ 0 := by omega) (hi : i ≤ 9223372036854775807 := by omega) (hd : Nat.blt d n = true := by exact rfl) : GT P n env b ps hp ⟨some d, .binOp .quo t x y t', ty, pos, aft, gd⟩ K := tp1 (quo_nat hx hy hb hi) hd h
theorem rb_quo {t t' : TypeId} {x y : Operand} {i j : Nat} {d : Nat} {ty : TypeId} {pos : String} {aft : Array Edge} {gd : Option (Nat × Bool)} {psW : List Pf} {hpS : List Res} {wd : World} {F : Nat → Prop} (h : G n ((d, .int .i64 ((i / j : Nat) : Int)) :: env) b ps hp K) (hx : ev env x = some (.int .i64 (i : Int)) := by exact rfl) (hy : ev env y = some (.int .i64 (j : Int)) := by exact rfl) (hb : j ≠ 0 := by omega) (hi : i ≤ 9223372036854775807 := by omega) (hd : Nat.blt d n = true := by exact rfl) : GTR P n env psW hpS wd F b ps hp K ⟨some d, .binOp .quo t x y t', ty, pos, aft, gd⟩ := .v (.of_soft fun _ => quo_nat hx hy hb hi) hd h
theorem b_quoL {t t' : TypeId} {x y : Operand} {i j : Nat} {d : Nat} {ty : TypeId} {pos : String} {aft : Array Edge} {gd : Option (Nat × Bool)} (h : G n ((d, .int .i64 ((i / j : Nat) : Int)) :: env) b ps hp K) (hx : ev env x = some (.int .i64 (i : Int)) := by exact rfl) (hy : ev env y = some (.int .i64 (OfNat.ofNat j : Int)) := by exact rfl) (hb : j ≠ 0 := by first | omega | decide) (hi : i ≤ 9223372036854775807 := by omega) (hd : Nat.blt d n = true := by exact rfl) : GO P n env b ps hp ⟨some d, .binOp .quo t x y t', ty, pos, aft, gd⟩ K Q := rd1 (quo_nat hx hy hb hi) hd h
theorem tb_quoL {t t' : TypeId} {x y : Operand} {i j : Nat} {d : Nat} {ty : TypeId} {pos : String} {aft : Array Edge} {gd : Option (Nat × Bool)} (h : G n ((d, .int .i64 ((i / j : Nat) : Int)) :: env) b ps hp K) (hx : ev env x = some (.int .i64 (i : Int)) := by exact rfl) (hy : ev env y = some (.int .i64 (OfNat.ofNat j : Int)) := by exact rfl) (hb : j ≠ 0 := by first | omega | decide) (hi : i ≤ 9223372036854775807 := by omega) (hd : Nat.blt d n = true := by exact rfl) : GT P n env b ps hp ⟨some d, .binOp .quo t x y t', ty, pos, aft, gd⟩ K := tp1 (quo_nat hx hy hb hi) hd h
theorem rb_quoL {t t' : TypeId} {x y : Operand} {i j : Nat} {d : Nat} {ty : TypeId} {pos : String} {aft : Array Edge} {gd : Option (Nat × Bool)} {psW : List Pf} {hpS : List Res} {wd : World} {F : Nat → Prop} (h : G n ((d, .int .i64 ((i / j : Nat) : Int)) :: env) b ps hp K) (hx : ev env x = some (.int .i64 (i : Int)) := by exact rfl) (hy : ev env y = some (.int .i64 (OfNat.ofNat j : Int)) := by exact rfl) (hb : j ≠ 0 := by first | omega | decide) (hi : i ≤ 9223372036854775807 := by omega) (hd : Nat.blt d n = true := by exact rfl) : GTR P n env psW hpS wd F b ps hp K ⟨some d, .binOp .quo t x y t', ty, pos, aft, gd⟩ := .v (.of_soft fun _ => quo_nat hx hy hb hi) hd h
theorem b_remL {t t' : TypeId} {x y : Operand} {i j : Nat} {d : Nat} {ty : TypeId} {pos : String} {aft : Array Edge} {gd : Option (Nat × Bool)} (h : G n ((d, .int .i64 ((i % j : Nat) : Int)) :: env) b ps hp K) (hx : ev env x = some (.int .i64 (i : Int)) := by exact rfl) (hy : ev env y = some (.int .i64 (OfNat.ofNat j : Int)) := by exact rfl) (hb : j ≠ 0 := by first | omega | decide) (hd : Nat.blt d n = true := by exact rfl) : GO P n env b ps hp ⟨some d, .binOp .rem t x y t', ty, pos, aft, gd⟩ K Q := rd1 (rem_nat hx hy hb) hd h
theorem tb_remL {t t' : TypeId} {x y : Operand} {i j : Nat} {d : Nat} {ty : TypeId} {pos : String} {aft : Array Edge} {gd : Option (Nat × Bool)} (h : G n ((d, .int .i64 ((i % j : Nat) : Int)) :: env) b ps hp K) (hx : ev env x = some (.int .i64 (i : Int)) := by exact rfl) (hy : ev env y = some (.int .i64 (OfNat.ofNat j : Int)) := by exact rfl) (hb : j ≠ 0 := by first | omega | decide) (hd : Nat.blt d n = true := by exact rfl) : GT P n env b ps hp ⟨some d, .binOp .rem t x y t', ty, pos, aft, gd⟩ K := tp1 (rem_nat hx hy hb) hd h
theorem rb_remL {t t' : TypeId} {x y : Operand} {i j : Nat} {d : Nat} {ty : TypeId} {pos : String} {aft : Array Edge} {gd : Option (Nat × Bool)} {psW : List Pf} {hpS : List Res} {wd : World} {F : Nat → Prop} (h : G n ((d, .int .i64 ((i % j : Nat) : Int)) :: env) b ps hp K) (hx : ev env x = some (.int .i64 (i : Int)) := by exact rfl) (hy : ev env y = some (.int .i64 (OfNat.ofNat j : Int)) := by exact rfl) (hb : j ≠ 0 := by first | omega | decide) (hd : Nat.blt d n = true := by exact rfl) : GTR P n env psW hpS wd F b ps hp K ⟨some d, .binOp .rem t x y t', ty, pos, aft, gd⟩ := .v (.of_soft fun _ => rem_nat hx hy hb) hd h
theorem la {m : Nat} {k : IntKind} {bl o' off : Nat} {y : List Int} {x0 : Int} {t : TypeId} {x : Operand} [UOne P t] {d : Nat} {ty : TypeId} {pos : String} {aft : Array Edge} {gd : Option (Nat × Bool)} (h : G n ((d, .int k x0) :: env) b ps hp K) (hx : ev env x = some (.pointer (some ⟨bl, o', none⟩)) := by exact rfl) (i0 : Look bl o' ps hp (Ty.arr m k) off y := by exact inferInstance) (hx0 : y[off]? = some x0 := by with_reducible assumption) (hd : Nat.blt d n = true := by exact rfl) : GO P n env b ps hp ⟨some d, .load t x, ty, pos, aft, gd⟩ K Q := rdv (ld_arr (m := m) (off := off) (y := y) hx hx0) hd h
theorem rla {psW : List Pf} {hpS : List Res} {m : Nat} {k : IntKind} {bl o' off : Nat} {y : List Int} {x0 : Int} {t : TypeId} {x : Operand} [UOne P t] {d : Nat} {ty : TypeId} {pos : String} {aft : Array Edge} {gd : Option (Nat × Bool)} {wd : World} {F : Nat → Prop} (h : G n ((d, .int k x0) :: env) b ps hp K) (hx : ev env x = some (.pointer (some ⟨bl, o', none⟩)) := by exact rfl) (i0 : Look bl o' psW hpS (Ty.arr m k) off y := by exact inferInstance) (hx0 : y[off]? = some x0 := by with_reducible assumption) (hd : Nat.blt d n = true := by exact rfl) : GTR P n env psW hpS wd F b ps hp K ⟨some d, .load t x, ty, pos, aft, gd⟩ := .v (ld_arr (m := m) (off := off) (y := y) hx hx0) hd h
theorem nea {t t' : TypeId} {x y : Operand} {m : Nat} {k : IntKind} {e : TypeId} {cs ds : List Value} {u v : List Int} [UArr P t m e] [UInt P e k] [UInf P e] [UPlain P t] {d : Nat} {ty : TypeId} {pos : String} {aft : Array Edge} {gd : Option (Nat × Bool)} (h : G n ((d, .bool (decide (u ≠ v))) :: env) b ps hp K) (hx : ev env x = some (.agg cs.toArray) := by exact rfl) (hy : ev env y = some (.agg ds.toArray) := by exact rfl) (i0 : FAg cs ps (Ty.arr m k) u := by exact inferInstance) (i1 : FAg ds ps (Ty.arr m k) v := by exact inferInstance) (hd : Nat.blt d n = true := by exact rfl) : GO P n env b ps hp ⟨some d, .binOp .neq t x y t', ty, pos, aft, gd⟩ K Q := rdv (ne_arr (m := m) (k := k) (e := e) hx hy i0.mem i1.mem) hd h
theorem rnea {psW : List Pf} {hpS : List Res} {t t' : TypeId} {x y : Operand} {m : Nat} {k : IntKind} {e : TypeId} {cs ds : List Value} {u v : List Int} [UArr P t m e] [UInt P e k] [UInf P e] [UPlain P t] {d : Nat} {ty : TypeId} {pos : String} {aft : Array Edge} {gd : Option (Nat × Bool)} {wd : World} {F : Nat → Prop} (h : G n ((d, .bool (decide (u ≠ v))) :: env) b ps hp K) (hx : ev env x = some (.agg cs.toArray) := by exact rfl) (hy : ev env y = some (.agg ds.toArray) := by exact rfl) (i0 : FAg cs psW (Ty.arr m k) u := by exact inferInstance) (i1 : FAg ds psW (Ty.arr m k) v := by exact inferInstance) (hd : Nat.blt d n = true := by exact rfl) : GTR P n env psW hpS wd F b ps hp K ⟨some d, .binOp .neq t x y t', ty, pos, aft, gd⟩ := .v (ne_arr (m := m) (k := k) (e := e) hx hy i0.mem i1.mem) hd h
end
end Go.GX
