/- The rules of single operations for the walk by explicit rules. No program in sight: what is asked of the program's types stands in classes. -/
import Derived.Test.YtnpbadghodkhlaaRx
namespace Go.RX
open Go Go.RowKit Go.RR

class USlice (P : Program) (t : TypeId) (e : outParam TypeId) : Prop where u : P.underlying t = some (.slice e)
class UPtr (P : Program) (t : TypeId) (e : outParam TypeId) : Prop where u : P.underlying t = some (.pointer e)
class UMap (P : Program) (t : TypeId) (k e : outParam TypeId) : Prop where u : P.underlying t = some (.map k e)
class UInt (P : Program) (t : TypeId) (k : outParam IntKind) : Prop where u : P.underlying t = some (.int k)
class UBool (P : Program) (t : TypeId) : Prop where u : P.underlying t = some .bool
class UString (P : Program) (t : TypeId) : Prop where u : P.underlying t = some .string
class USize (P : Program) (t : TypeId) (n : outParam Nat) : Prop where s : ∀ w, (sizeOf t).run P w = .ok n w
/-- Of one cell, and no struct or array. -/
class UOne (P : Program) (t : TypeId) : Prop where a : ∀ w, (isAgg t).run P w = .ok false w
/-- A struct or an array. -/
class UAgg (P : Program) (t : TypeId) : Prop where a : ∀ w, (isAgg t).run P w = .ok true w
class UField (P : Program) (s : TypeId) (f : Nat) (off : outParam Nat) : Prop where f : ∀ w b o, (Instr.fieldAt s (.pointer (some ⟨b, o, none⟩)) f).run P w = .ok (.pointer (some ⟨b, o + off, none⟩)) w
/-- A field, out of the program's tables. -/
theorem field_of {P : Program} {s : TypeId} {fs : Array Field} {f sz off : Nat} {fd : Field} (hu : P.underlying s = some (.struct fs)) (hf : fs[f]? = some fd) (hs : ∀ w, (sizeOf fd.type).run P w = .ok sz w) (hz : Nat.beq sz 0 = false) (ho : fd.offset = off)
    (w : World) (b o : Nat) : (Instr.fieldAt s (.pointer (some ⟨b, o, none⟩)) f).run P w = .ok (.pointer (some ⟨b, o + off, none⟩)) w := by
  subst ho
  have hz : sz ≠ 0 := fun e => by subst e; simp at hz
  simp [Instr.fieldAt, run_underlying hu, hf, Instr.sureAddr, fieldPlace, hs, hz, Addr.add_lit]
class UZero (P : Program) (t : TypeId) (z : outParam Value) : Prop where z : ∀ w, (zeroValue t).run P w = .ok z w

section
variable {P : Program} {n : Nat} {env : Env} {w : World} {S : World → Prop} {Q : Exit → Act → World → Prop} {K : Act → World → Prop}


theorem run_equal {t : TypeId} {x y : Value} {b : Bool} (h : ∀ d w, (Op.equalIn (d + 1) t x y).run P w = .ok b w) (w : World) : (Op.equal t x y).run P w = .ok b w := h 9999 w
theorem run_binEql {t : TypeId} {x y : Value} {b : Bool} (he : binOp .eql t x y = (do pure (.bool (← Op.equal t x y)))) (h : ∀ d w, (Op.equalIn (d + 1) t x y).run P w = .ok b w) (w : World) : (binOp .eql t x y).run P w = .ok (.bool b) w := by
  rw [he]; simp [run_equal h]
theorem run_binNeq {t : TypeId} {x y : Value} {b : Bool} (he : binOp .neq t x y = (do pure (.bool (!(← Op.equal t x y))))) (h : ∀ d w, (Op.equalIn (d + 1) t x y).run P w = .ok b w) (w : World) : (binOp .neq t x y).run P w = .ok (.bool (!b)) w := by
  rw [he]; simp [run_equal h]

theorem move {x : Operand} {v : Value} (h : ev env x = some v) : Soft P n env S (.move x) v := fun a ha o ho w _ => by
  simp [execOp, ho, ha.ev h]
theorem assign {x : Operand} {v : Value} (h : ev env x = some v) : Soft P n env S (.assign x) v := fun a ha o ho w _ => by
  simp [execOp, ho, ha.ev h]
theorem pick_true {c x y : Operand} {v u : Value} (hc : ev env c = some u) (hu : u = .bool true) (h : ev env x = some v) : Soft P n env S (.pick c x y) v := fun a ha o ho w _ => by
  subst hu
  simp [execOp, ho, ha.ev h, ha.ev hc, asBool]
theorem pick_false {c x y : Operand} {v u : Value} (hc : ev env c = some u) (hu : u = .bool false) (h : ev env y = some v) : Soft P n env S (.pick c x y) v := fun a ha o ho w _ => by
  subst hu
  simp [execOp, ho, ha.ev h, ha.ev hc, asBool]
theorem extract {x : Operand} {i : Nat} {vs : Array Value} {v : Value} (h : ev env x = some (.tuple vs)) (hv : vs[i]? = some v) : Soft P n env S (.extract x i) v := fun a ha o ho w _ => by
  simp [execOp, ho, ha.ev h, Instr.extract, hv]

theorem nilCheck_ptr {x : Operand} {p : Addr} (h : ev env x = some (.pointer (some p))) : Soft P n env S (.nilCheck x) (.pointer (some p)) := fun a ha o ho w _ => by
  simp [execOp, ho, ha.ev h]

section ints
variable {t t' : TypeId} {x y : Operand} {k : IntKind} {i j : Int}
theorem lss (hx : ev env x = some (.int k i)) (hy : ev env y = some (.int k j)) : Soft P n env S (.binOp .lss t x y t') (.bool (decide (i < j))) := fun a ha o ho w _ => by
  simp [execOp, ho, ha.ev hx, ha.ev hy, eqGuard_at_int, binOp_lss]
theorem leq (hx : ev env x = some (.int k i)) (hy : ev env y = some (.int k j)) : Soft P n env S (.binOp .leq t x y t') (.bool (decide (i ≤ j))) := fun a ha o ho w _ => by
  simp [execOp, ho, ha.ev hx, ha.ev hy, eqGuard_at_int, binOp_leq]
theorem gtr (hx : ev env x = some (.int k i)) (hy : ev env y = some (.int k j)) : Soft P n env S (.binOp .gtr t x y t') (.bool (decide (j < i))) := fun a ha o ho w _ => by
  simp [execOp, ho, ha.ev hx, ha.ev hy, eqGuard_at_int, binOp_gtr]
theorem geq (hx : ev env x = some (.int k i)) (hy : ev env y = some (.int k j)) : Soft P n env S (.binOp .geq t x y t') (.bool (decide (j ≤ i))) := fun a ha o ho w _ => by
  simp [execOp, ho, ha.ev hx, ha.ev hy, eqGuard_at_int, binOp_geq]
theorem eql (hx : ev env x = some (.int k i)) (hy : ev env y = some (.int k j)) : Soft P n env S (.binOp .eql t x y t') (.bool (decide (i = j))) := fun a ha o ho w _ => by
  have : (i == j) = decide (i = j) := by rw [Bool.eq_iff_iff]; simp
  simp only [execOp, ho, ha.ev hx, ha.ev hy, eqGuard_at_int, binOp_eql, this]
  simp
theorem neq (hx : ev env x = some (.int k i)) (hy : ev env y = some (.int k j)) : Soft P n env S (.binOp .neq t x y t') (.bool (decide (i ≠ j))) := fun a ha o ho w _ => by
  have : (i != j) = decide (i ≠ j) := by rw [Bool.eq_iff_iff]; simp
  simp only [execOp, ho, ha.ev hx, ha.ev hy, eqGuard_at_int, binOp_neq, this]
  simp
theorem add {r : Int} (hx : ev env x = some (.int k i)) (hy : ev env y = some (.int k j)) (hr : k.wrap (i + j) = r) : Soft P n env S (.binOp .add t x y t') (.int k r) := fun a ha o ho w _ => by
  subst hr
  simp [execOp, ho, ha.ev hx, ha.ev hy, eqGuard_at_int, binOp_add, Op.intArith]
theorem sub {r : Int} (hx : ev env x = some (.int k i)) (hy : ev env y = some (.int k j)) (hr : k.wrap (i - j) = r) : Soft P n env S (.binOp .sub t x y t') (.int k r) := fun a ha o ho w _ => by
  subst hr
  simp [execOp, ho, ha.ev hx, ha.ev hy, eqGuard_at_int, binOp_sub, Op.intArith]
theorem mul {r : Int} (hx : ev env x = some (.int k i)) (hy : ev env y = some (.int k j)) (hr : k.wrap (i * j) = r) : Soft P n env S (.binOp .mul t x y t') (.int k r) := fun a ha o ho w _ => by
  subst hr
  simp [execOp, ho, ha.ev hx, ha.ev hy, eqGuard_at_int, binOp_mul, Op.intArith]
end ints

/-! Marks of a kind of operation, so that the rules of other kinds need not be tried. -/
theorem isBin {d : Option Tmp} {b : BinOp} {t t' ty : TypeId} {x y : Operand} {pos : String} {aft : Array Edge} {gd : Option (Nat × Bool)} (h : OW P n env w ⟨d, .binOp b t x y t', ty, pos, aft, gd⟩ K Q) : OW P n env w ⟨d, .binOp b t x y t', ty, pos, aft, gd⟩ K Q := h
theorem isCall {d : Option Tmp} {b : Builtin} {xs : Array Operand} {ts : Array TypeId} {ty : TypeId} {pos : String} {aft : Array Edge} {gd : Option (Nat × Bool)} (h : OW P n env w ⟨d, .call ⟨.builtin b, xs, ts⟩, ty, pos, aft, gd⟩ K Q) : OW P n env w ⟨d, .call ⟨.builtin b, xs, ts⟩, ty, pos, aft, gd⟩ K Q := h

theorem wrap_in {i : Int} (h : -9223372036854775808 ≤ i ∧ i ≤ 9223372036854775807) : IntKind.i64.wrap i = i := by
  rw [IntKind.wrap_i64]; omega
/-- 'k + 1' of a number that counts. -/
theorem add_one {t t' : TypeId} {x y : Operand} {i : Nat} (hx : ev env x = some (.int .i64 (i : Int))) (hy : ev env y = some (.int .i64 1)) (hb : i < 9223372036854775807) :
    Soft P n env S (.binOp .add t x y t') (.int .i64 ((i + 1 : Nat) : Int)) := add hx hy (by rw [wrap_in (by omega)]; rfl)
theorem add_in {t t' : TypeId} {x y : Operand} {i j : Int} (hx : ev env x = some (.int .i64 i)) (hy : ev env y = some (.int .i64 j)) (hb : -9223372036854775808 ≤ i + j ∧ i + j ≤ 9223372036854775807) :
    Soft P n env S (.binOp .add t x y t') (.int .i64 (i + j)) := add hx hy (wrap_in hb)
theorem sub_in {t t' : TypeId} {x y : Operand} {i j : Int} (hx : ev env x = some (.int .i64 i)) (hy : ev env y = some (.int .i64 j)) (hb : -9223372036854775808 ≤ i - j ∧ i - j ≤ 9223372036854775807) :
    Soft P n env S (.binOp .sub t x y t') (.int .i64 (i - j)) := sub hx hy (wrap_in hb)

section bools
variable {t t' : TypeId} {x y : Operand} {p q : Bool}
theorem eql_bool [h : UBool P t] (hx : ev env x = some (.bool p)) (hy : ev env y = some (.bool q)) : Soft P n env S (.binOp .eql t x y t') (.bool (p == q)) := fun a ha o ho w _ => by
  simp only [execOp, ho, ha.ev hx, ha.ev hy, eqGuard_at_bool]
  simp [run_binEql (P := P) (t := t) (x := .bool p) (y := .bool q) (b := p == q) rfl (fun d w => by simp [Op.equalIn, run_underlying h.u])]
theorem neq_bool [h : UBool P t] (hx : ev env x = some (.bool p)) (hy : ev env y = some (.bool q)) : Soft P n env S (.binOp .neq t x y t') (.bool (p != q)) := fun a ha o ho w _ => by
  simp only [execOp, ho, ha.ev hx, ha.ev hy, eqGuard_at_bool]
  simp [run_binNeq (P := P) (t := t) (x := .bool p) (y := .bool q) (b := p == q) rfl (fun d w => by simp [Op.equalIn, run_underlying h.u])]
  cases p <;> cases q <;> rfl
theorem eql_same [h : UBool P t] {v : Value} (hx : ev env x = some (.bool p)) (hy : ev env y = some v) (hv : v = .bool p) : Soft P n env S (.binOp .eql t x y t') (.bool true) := by
  subst hv
  have := eql_bool (P := P) (S := S) (n := n) (t := t) (t' := t') hx hy
  simpa using this
theorem neq_same [h : UBool P t] {v : Value} (hx : ev env x = some (.bool p)) (hy : ev env y = some v) (hv : v = .bool p) : Soft P n env S (.binOp .neq t x y t') (.bool false) := by
  subst hv
  have := neq_bool (P := P) (S := S) (n := n) (t := t) (t' := t') hx hy
  simpa using this
theorem eql_tf [h : UBool P t] {u v : Value} (hx : ev env x = some u) (hy : ev env y = some v) (hu : u = .bool true) (hv : v = .bool false) : Soft P n env S (.binOp .eql t x y t') (.bool false) := by
  subst hu; subst hv; exact eql_bool hx hy
theorem eql_ft [h : UBool P t] {u v : Value} (hx : ev env x = some u) (hy : ev env y = some v) (hu : u = .bool false) (hv : v = .bool true) : Soft P n env S (.binOp .eql t x y t') (.bool false) := by
  subst hu; subst hv; exact eql_bool hx hy
theorem neq_tf [h : UBool P t] {u v : Value} (hx : ev env x = some u) (hy : ev env y = some v) (hu : u = .bool true) (hv : v = .bool false) : Soft P n env S (.binOp .neq t x y t') (.bool true) := by
  subst hu; subst hv; exact neq_bool hx hy
theorem neq_ft [h : UBool P t] {u v : Value} (hx : ev env x = some u) (hy : ev env y = some v) (hu : u = .bool false) (hv : v = .bool true) : Soft P n env S (.binOp .neq t x y t') (.bool true) := by
  subst hu; subst hv; exact neq_bool hx hy
theorem not {t : TypeId} {x : Operand} {p : Bool} (hx : ev env x = some (.bool p)) : Soft P n env S (.unOp .not t x) (.bool (!p)) := fun a ha o ho w _ => by
  simp [execOp, ho, ha.ev hx, Op.unary]
theorem not_t {t : TypeId} {x : Operand} {v : Value} (hx : ev env x = some v) (hv : v = .bool true) : Soft P n env S (.unOp .not t x) (.bool false) := by subst hv; exact not hx
theorem not_f {t : TypeId} {x : Operand} {v : Value} (hx : ev env x = some v) (hv : v = .bool false) : Soft P n env S (.unOp .not t x) (.bool true) := by subst hv; exact not hx
end bools

section ptrs
variable {t t' e : TypeId} {x y : Operand} {p : Option Addr}
theorem eql_nil [h : UPtr P t e] (hx : ev env x = some (.pointer p)) (hy : ev env y = some (.pointer none)) : Soft P n env S (.binOp .eql t x y t') (.bool p.isNone) := fun a ha o ho w _ => by
  simp only [execOp, ho, ha.ev hx, ha.ev hy, eqGuard_at_pointer]
  simp [run_binEql (P := P) (t := t) (x := .pointer p) (y := .pointer none) (b := p.isNone) (by cases p <;> rfl) (fun d w => by cases p <;> simp [Op.equalIn, run_underlying h.u])]
theorem neq_nil [h : UPtr P t e] (hx : ev env x = some (.pointer p)) (hy : ev env y = some (.pointer none)) : Soft P n env S (.binOp .neq t x y t') (.bool p.isSome) := fun a ha o ho w _ => by
  simp only [execOp, ho, ha.ev hx, ha.ev hy, eqGuard_at_pointer]
  simp [run_binNeq (P := P) (t := t) (x := .pointer p) (y := .pointer none) (b := p.isNone) (by cases p <;> rfl) (fun d w => by cases p <;> simp [Op.equalIn, run_underlying h.u])]
theorem eql_nil_nil [h : UPtr P t e] (hx : ev env x = some (.pointer none)) (hy : ev env y = some (.pointer none)) : Soft P n env S (.binOp .eql t x y t') (.bool true) := eql_nil hx hy
theorem eql_ptr_nil {p : Addr} [h : UPtr P t e] (hx : ev env x = some (.pointer (some p))) (hy : ev env y = some (.pointer none)) : Soft P n env S (.binOp .eql t x y t') (.bool false) := eql_nil hx hy
theorem neq_nil_nil [h : UPtr P t e] (hx : ev env x = some (.pointer none)) (hy : ev env y = some (.pointer none)) : Soft P n env S (.binOp .neq t x y t') (.bool false) := neq_nil hx hy
theorem neq_ptr_nil {p : Addr} [h : UPtr P t e] (hx : ev env x = some (.pointer (some p))) (hy : ev env y = some (.pointer none)) : Soft P n env S (.binOp .neq t x y t') (.bool true) := neq_nil hx hy
theorem eql_slnil {ao : Option Addr} {len cap : Nat} [h : USlice P t e] (hx : ev env x = some (.slice ao len cap)) (hy : ev env y = some (.slice none 0 0)) : Soft P n env S (.binOp .eql t x y t') (.bool ao.isNone) := fun a ha o ho w _ => by
  simp only [execOp, ho, ha.ev hx, ha.ev hy]
  simp [eqGuard, run_binEql (P := P) (t := t) (x := .slice ao len cap) (y := .slice none 0 0) (b := ao.isNone) (by cases ao <;> rfl) (fun d w => by cases ao <;> simp [Op.equalIn, run_underlying h.u])]
end ptrs

theorem fieldAddr {s : TypeId} {x : Operand} {f off b o1 : Nat} [h : UField P s f off] (hx : ev env x = some (.pointer (some ⟨b, o1, none⟩))) : Soft P n env S (.fieldAddr s x f) (.pointer (some ⟨b, o1 + off, none⟩)) := fun a ha o ho w _ => by
  simp [execOp, ho, ha.ev hx, h.f]

/-- The first field; a field of what begins at the head of its block. -/
theorem fieldAddr0 {s : TypeId} {x : Operand} {f : Nat} {b o1 : Nat} [h : UField P s f 0] (hx : ev env x = some (.pointer (some ⟨b, o1, none⟩))) : Soft P n env S (.fieldAddr s x f) (.pointer (some ⟨b, o1, none⟩)) := by
  have := fieldAddr (P := P) (n := n) (S := S) (s := s) (f := f) hx
  simpa using this
theorem fieldAddrH {s : TypeId} {x : Operand} {f off b : Nat} [h : UField P s f off] (hx : ev env x = some (.pointer (some ⟨b, 0, none⟩))) : Soft P n env S (.fieldAddr s x f) (.pointer (some ⟨b, off, none⟩)) := by
  have := fieldAddr (P := P) (n := n) (S := S) (s := s) (f := f) hx
  simpa using this

/-- Element k of a slice that begins at the head of its block. -/
theorem indexAddr {t e : TypeId} {x y : Operand} {b o1 len cap sz : Nat} {k : IntKind} {i : Int} [h : USlice P t e] [hs : USize P e sz] (hx : ev env x = some (.slice (some ⟨b, o1, none⟩) len cap)) (hy : ev env y = some (.int k i))
    (h0 : 0 ≤ i ∧ i < len) : Soft P n env S (.indexAddr t x y) (.pointer (some ⟨b, o1 + i.toNat * sz, none⟩)) := fun a ha o ho w _ => by
  simp [execOp, ho, ha.ev hx, ha.ev hy, Instr.indexAt, asIntOf, run_underlying h.u, hs.s, h0, Addr.add_lit]
theorem indexAddr1 {t e : TypeId} {x y : Operand} {b len cap i : Nat} {k : IntKind} [h : USlice P t e] [hs : USize P e 1] (hx : ev env x = some (.slice (some ⟨b, 0, none⟩) len cap)) (hy : ev env y = some (.int k (i : Int)))
    (h0 : i < len) : Soft P n env S (.indexAddr t x y) (.pointer (some ⟨b, i, none⟩)) := by
  have := indexAddr (P := P) (n := n) (env := env) (S := S) (t := t) hx hy ⟨by omega, by omega⟩
  simpa using this

/-- The same, of a slice that begins anywhere. -/
theorem indexAddrO {t e : TypeId} {x y : Operand} {b o1 len cap i : Nat} {k : IntKind} [h : USlice P t e] [hs : USize P e 1] (hx : ev env x = some (.slice (some ⟨b, o1, none⟩) len cap)) (hy : ev env y = some (.int k (i : Int)))
    (h0 : i < len) : Soft P n env S (.indexAddr t x y) (.pointer (some ⟨b, o1 + i, none⟩)) := by
  have := indexAddr (P := P) (n := n) (env := env) (S := S) (t := t) hx hy ⟨by omega, by omega⟩
  simpa using this
/-- The same, of elements of more than one cell. -/
theorem indexAddrS {t e : TypeId} {x y : Operand} {b o1 len cap sz i : Nat} {k : IntKind} [h : USlice P t e] [hs : USize P e sz] (hx : ev env x = some (.slice (some ⟨b, o1, none⟩) len cap)) (hy : ev env y = some (.int k (i : Int)))
    (h0 : i < len) : Soft P n env S (.indexAddr t x y) (.pointer (some ⟨b, o1 + i * sz, none⟩)) := by
  have := indexAddr (P := P) (n := n) (env := env) (S := S) (t := t) hx hy ⟨by omega, by omega⟩
  simpa using this

theorem len_slice {t e : TypeId} {x : Operand} {o1 : Option Addr} {len cap : Nat} [h : USlice P t e] (hx : ev env x = some (.slice o1 len cap)) :
    Soft P n env S (.call { callee := .builtin .len, args := #[x], argTypes := #[t] }) (.int .i64 (len : Int)) := fun a ha o ho w _ => by
  simp [execOp, ho, ha.ev hx, resolve, invoke, builtin, Builtin.len_, run_underlying h.u, goInt]
theorem max2 {t : Array TypeId} {x y : Operand} {k : IntKind} {i j : Int} (hx : ev env x = some (.int k i)) (hy : ev env y = some (.int k j)) :
    Soft P n env S (.call { callee := .builtin .max, args := #[x, y], argTypes := t }) (.int k (max i j)) := fun a ha o ho w _ => by
  have : (if i < j then j else i) = max i j := by omega
  simp [execOp, ho, ha.ev hx, ha.ev hy, resolve, invoke, builtin, Builtin.max_, Builtin.max2, this]
theorem min2 {t : Array TypeId} {x y : Operand} {k : IntKind} {i j : Int} (hx : ev env x = some (.int k i)) (hy : ev env y = some (.int k j)) :
    Soft P n env S (.call { callee := .builtin .min, args := #[x, y], argTypes := t }) (.int k (min i j)) := fun a ha o ho w _ => by
  have : (if j < i then j else i) = min i j := by omega
  simp [execOp, ho, ha.ev hx, ha.ev hy, resolve, invoke, builtin, Builtin.min_, Builtin.min2, this]

theorem load {t : TypeId} {x : Operand} {p : Addr} {v : Value} [h : UOne P t] (hx : ev env x = some (.pointer (some p))) (hc : ∀ w, S w → w.cell? p = some v) : Soft P n env S (.load t x) v := fun a ha o ho w hw => by
  simp [execOp, ho, ha.ev hx, Instr.loadAt, Instr.sureAddr, loadVar, h.a, hc w hw]
/-- A load in the world at hand. -/
theorem load_at {t : TypeId} {x : Operand} {p : Addr} {v : Value} [h : UOne P t] (hx : ev env x = some (.pointer (some p))) (hc : w.cell? p = some v) : Soft P n env (fun w' => w' = w) (.load t x) v :=
  load hx (fun w' e => by subst e; exact hc)

theorem store {t : TypeId} {x y : Operand} {p : Addr} {v u : Value} {ty : TypeId} {pos : String} {aft : Array Edge} {gd : Option (Nat × Bool)} [hs : USize P t 1] (hx : ev env x = some (.pointer (some p))) (hy : ev env y = some v) (hv : v.oneCell' = true)
    (hc : w.cell? p = some u) (hf : w.frozen? p = false) (h : E n env (w.setCell p v) K) : OW P n env w ⟨none, .store t x y, ty, pos, aft, gd⟩ K Q := by
  refine effU (w' := w.setCell p v) (fun a ha => ?_) h
  have hcs : v.cells = #[v] := by cases v <;> first | rfl | (simp [Value.oneCell'] at hv)
  simp [execOp, ha.ev hx, ha.ev hy, Instr.storeAt, Instr.sureAddr, storeVar, hcs, hs.s, storeCells, run_store P w _ v _ hv, hc, hf, Addr.add_zero']

end
end Go.RX
