import Derived.Test.YtomfpmbapdhbgaaGreatP21
import Derived.ChangeKeysEq
import Derived.Laws.StructEq
/- Arrays of numbers. Written by wip/garr.py. No program in sight. -/
namespace Go.GX
open Go Go.RowKit Go.RR Go.RX
/-- An array of numbers. -/
def Ty.arr (m : Nat) (k : IntKind) : Ty (List Int) where
  size := m
  rd _ _ cs x := x.length = m ∧ cs = x.map (Value.int k)
  len := by rintro F w cs x ⟨h1, rfl⟩; rw [List.length_map, h1]
  one := by
    rintro F w cs x ⟨h1, rfl⟩ c hc
    obtain ⟨y, _, rfl⟩ := List.mem_map.1 hc
    rfl
  move h _ _ := h
class UArr (P : Program) (t : TypeId) (m : outParam Nat) (e : outParam TypeId) : Prop where u : P.underlying t = some (.array m e)
class UInf (P : Program) (t : TypeId) : Prop where
  i : (P.info? t).isSome = true
  c : P.cellsOf t = 1
class UPlain (P : Program) (t : TypeId) : Prop where g : P.eqGuardType P.depth t = false
instance (m : Nat) (k : IntKind) : Sub (Ty.arr m k) 0 (Ty.arr m k) (fun y => y) (fun z _ => z) := Sub.whole _
section
variable {P : Program} {n : Nat} {env : Env} {b : Base} {ps : List Pf} {hp : List Res} {Q : Exit → Act → World → Prop} {K : Act → World → Prop}
section sems
variable {S : World → Prop} {t t' e : TypeId} {x y : Operand}
theorem ixo_v {bl o i m : Nat} {k : IntKind} [h : UArr P t m e] [hs : USize P e 1] (hx : ev env x = some (.pointer (some ⟨bl, o, none⟩))) (hy : ev env y = some (.int k (i : Int))) (hi : i < m) : Soft P n env S (.indexAddr t x y) (.pointer (some ⟨bl, o + i, none⟩)) := fun a ha op ho w _ => by
  have h1 : (sizeOf e).run P w = .ok 1 w := hs.s w
  simp [execOp, ho, ha.ev hx, ha.ev hy, Instr.indexAt, asIntOf, Instr.sureAddr, run_underlying h.u, hi, h1, Addr.add_lit]
theorem ixa_v {bl i m : Nat} {k : IntKind} [h : UArr P t m e] [hs : USize P e 1] (hx : ev env x = some (.pointer (some ⟨bl, 0, none⟩))) (hy : ev env y = some (.int k (i : Int))) (hi : i < m) : Soft P n env S (.indexAddr t x y) (.pointer (some ⟨bl, i, none⟩)) := by
  have := ixo_v (P := P) (n := n) (env := env) (S := S) (t := t) (e := e) hx hy hi
  rwa [Nat.zero_add] at this
theorem quo_nat {i j : Nat} (hx : ev env x = some (.int .i64 (i : Int))) (hy : ev env y = some (.int .i64 (j : Int))) (hb : j ≠ 0) (hi : i ≤ 9223372036854775807) : Soft P n env S (.binOp .quo t x y t') (.int .i64 ((i / j : Nat) : Int)) := fun a ha o ho w _ => by
  have hj : ¬ (j : Int) = 0 := by omega
  have hm : Int.tdiv (i : Int) (j : Int) = ((i / j : Nat) : Int) := rfl
  simp [execOp, ho, ha.ev hx, ha.ev hy, eqGuard_at_int, binOp, Op.intDiv, hb, hm]
  have h6 : i / j ≤ i := Nat.div_le_self _ _
  have h5 : (i : Int) / (j : Int) = ((i / j : Nat) : Int) := rfl
  rw [h5]
  generalize i / j = q at h6 ⊢
  exact RX.wrap_in (by omega)
theorem ld_arr {m : Nat} {k : IntKind} {bl o' off : Nat} {y : List Int} {x0 : Int} [UOne P t] [hl : Look bl o' ps hp (Ty.arr m k) off y] (hx : ev env x = some (.pointer (some ⟨bl, o', none⟩))) (h0 : y[off]? = some x0) : RdV P n env ps hp (.load t x) (.int k x0) := fun F w h1 h2 => by
  obtain ⟨o, cs, rfl, h3, ⟨_, rfl⟩, h5⟩ := hl.look h1 h2
  exact RX.load hx (fun w' ha => ha.cell h5 (h3 off _ (by rw [List.getElem?_map, h0]; rfl)))
theorem eqItems_nums {w : World} (d : Nat) {k : IntKind} (he : P.underlying e = some (.int k)) (u v : List Int) : ∀ is : List Nat, (∀ i ∈ is, i < u.length ∧ i < v.length) →
    (Op.eqItems (d + 1) e 1 (u.map (Value.int k)).toArray (v.map (Value.int k)).toArray is).run P w = .ok (decide (∀ i ∈ is, u[i]? = v[i]?)) w
  | [], _ => by simp [Op.eqItems]
  | i :: is, h => by
    obtain ⟨h1, h2⟩ := h i (by simp)
    have hp : P.plainKey e = true := by unfold Program.plainKey; rw [he]
    have e1 : (u.map (Value.int k)).toArray[i]? = some (.int k u[i]) := by simp [List.getElem?_eq_getElem h1]
    have e2 : (v.map (Value.int k)).toArray[i]? = some (.int k v[i]) := by simp [List.getElem?_eq_getElem h2]
    have ih := eqItems_nums (w := w) d he u v is (fun j hj => h j (by simp [hj]))
    simp only [Op.eqItems, Nat.mul_one, Sem.run_bind, run_part_plain w hp e1, run_part_plain w hp e2, Result.andThen_ok, run_equalIn_int w d e k k u[i] v[i] he]
    by_cases hq : u[i] = v[i]
    · rw [show (u[i] == v[i]) = true by simpa using hq]
      simp [ih, List.getElem?_eq_getElem h1, List.getElem?_eq_getElem h2, hq]
    · rw [show (u[i] == v[i]) = false by simpa using hq]
      simp [List.getElem?_eq_getElem h1, List.getElem?_eq_getElem h2, hq]
theorem ne_arr0 {m : Nat} {k : IntKind} {cs ds : List Value} {u v : List Int} [h : UArr P t m e] [hk : UInt P e k] [hi : UInf P e] [hg : UPlain P t] (hx : ev env x = some (.agg cs.toArray)) (hy : ev env y = some (.agg ds.toArray)) (i0 : Ag (Ty.arr m k) cs u ∈ ps) (i1 : Ag (Ty.arr m k) ds v ∈ ps) :
    ∀ F w, AllP F w ps → Soft P n env S (.binOp .neq t x y t') (.bool (decide (u ≠ v))) := fun F w h1 => by
  obtain ⟨hu, rfl⟩ : u.length = m ∧ cs = u.map (Value.int k) := h1 _ i0
  obtain ⟨hv, rfl⟩ : v.length = m ∧ ds = v.map (Value.int k) := h1 _ i1
  intro a ha o ho w' _
  obtain ⟨inf, hinf⟩ := Option.isSome_iff_exists.1 hi.i
  have key : (Op.equalIn 10000 t (.agg (u.map (Value.int k)).toArray) (.agg (v.map (Value.int k)).toArray)).run P w' = .ok (decide (u = v)) w' := by
    rw [run_equalIn_array w' 9999 _ _ h.u hinf, hi.c, eqItems_nums 9998 hk.u u v (List.range m) (fun i hi => by have := List.mem_range.1 hi; omega)]
    congr 1
    refine decide_eq_decide.2 ⟨fun h => List.ext_getElem? fun i => ?_, fun h i _ => by rw [h]⟩
    by_cases him : i < m
    · exact h i (List.mem_range.2 him)
    · rw [List.getElem?_eq_none (by omega), List.getElem?_eq_none (by omega)]
  simp [execOp, ho, ha.ev hx, ha.ev hy, run_eqGuard_agg w' .neq t _ _ _ _ hg.g, run_neq_struct, key]
theorem ne_arr {m : Nat} {k : IntKind} {cs ds : List Value} {u v : List Int} [h : UArr P t m e] [hk : UInt P e k] [hi : UInf P e] [hg : UPlain P t] (hx : ev env x = some (.agg cs.toArray)) (hy : ev env y = some (.agg ds.toArray)) (i0 : Ag (Ty.arr m k) cs u ∈ ps) (i1 : Ag (Ty.arr m k) ds v ∈ ps) :
    RdV P n env ps hp (.binOp .neq t x y t') (.bool (decide (u ≠ v))) := fun F w h1 _ => ne_arr0 (m := m) (k := k) (e := e) hx hy i0 i1 F w h1
end sems
theorem xnea {psW : List Pf} {t t' e : TypeId} {x y : Operand} {m : Nat} {k : IntKind} {cs ds : List Value} {u v : List Int} {d : Nat} {ty : TypeId} {pos : String} {aft : Array Edge} {gd : Option (Nat × Bool)} {wd : World} {F : Nat → Prop} [UArr P t m e] [UInt P e k] [UInf P e] [UPlain P t] (h : G n ((d, .bool (decide (u ≠ v))) :: env) b ps hp K)
    (hx : ev env x = some (.agg cs.toArray) := by exact rfl) (hy : ev env y = some (.agg ds.toArray) := by exact rfl) (i0 : FAg cs psW (Ty.arr m k) u := by exact inferInstance) (i1 : FAg ds psW (Ty.arr m k) v := by exact inferInstance) (hd : Nat.blt d n = true := by exact rfl) :
    GTP P n env psW wd F b ps hp K ⟨some d, .binOp .neq t x y t', ty, pos, aft, gd⟩ := .mk (ι := Unit) (val := fun _ => .bool (decide (u ≠ v))) (pf := fun _ => []) (fun F w h1 => ⟨(), no_p, ne_arr0 (m := m) (k := k) (e := e) hx hy i0.mem i1.mem F w h1⟩) hd (fun _ _ => h)
theorem ixa {t e : TypeId} {x y : Operand} {bl i m : Nat} {k : IntKind} [UArr P t m e] [USize P e 1] {d : Nat} {ty : TypeId} {pos : String} {aft : Array Edge} {gd : Option (Nat × Bool)} (h : G n ((d, .pointer (some ⟨bl, i, none⟩)) :: env) b ps hp K) (hx : ev env x = some (.pointer (some ⟨bl, 0, none⟩)) := by exact rfl) (hy : ev env y = some (.int k (i : Int)) := by exact rfl) (hi : i < m := by omega) (hd : Nat.blt d n = true := by exact rfl) : GO P n env b ps hp ⟨some d, .indexAddr t x y, ty, pos, aft, gd⟩ K Q := rd1 (ixa_v hx hy hi) hd h
theorem tixa {t e : TypeId} {x y : Operand} {bl i m : Nat} {k : IntKind} [UArr P t m e] [USize P e 1] {d : Nat} {ty : TypeId} {pos : String} {aft : Array Edge} {gd : Option (Nat × Bool)} (h : G n ((d, .pointer (some ⟨bl, i, none⟩)) :: env) b ps hp K) (hx : ev env x = some (.pointer (some ⟨bl, 0, none⟩)) := by exact rfl) (hy : ev env y = some (.int k (i : Int)) := by exact rfl) (hi : i < m := by omega) (hd : Nat.blt d n = true := by exact rfl) : GT P n env b ps hp ⟨some d, .indexAddr t x y, ty, pos, aft, gd⟩ K := tp1 (ixa_v hx hy hi) hd h
theorem rixa {t e : TypeId} {x y : Operand} {bl i m : Nat} {k : IntKind} [UArr P t m e] [USize P e 1] {d : Nat} {ty : TypeId} {pos : String} {aft : Array Edge} {gd : Option (Nat × Bool)} {psW : List Pf} {hpS : List Res} {wd : World} {F : Nat → Prop} (h : G n ((d, .pointer (some ⟨bl, i, none⟩)) :: env) b ps hp K) (hx : ev env x = some (.pointer (some ⟨bl, 0, none⟩)) := by exact rfl) (hy : ev env y = some (.int k (i : Int)) := by exact rfl) (hi : i < m := by omega) (hd : Nat.blt d n = true := by exact rfl) : GTR P n env psW hpS wd F b ps hp K ⟨some d, .indexAddr t x y, ty, pos, aft, gd⟩ := .v (.of_soft fun _ => ixa_v hx hy hi) hd h
theorem ixo {t e : TypeId} {x y : Operand} {bl o i m : Nat} {k : IntKind} [UArr P t m e] [USize P e 1] {d : Nat} {ty : TypeId} {pos : String} {aft : Array Edge} {gd : Option (Nat × Bool)} (h : G n ((d, .pointer (some ⟨bl, o + i, none⟩)) :: env) b ps hp K) (hx : ev env x = some (.pointer (some ⟨bl, o, none⟩)) := by exact rfl) (hy : ev env y = some (.int k (i : Int)) := by exact rfl) (hi : i < m := by omega) (hd : Nat.blt d n = true := by exact rfl) : GO P n env b ps hp ⟨some d, .indexAddr t x y, ty, pos, aft, gd⟩ K Q := rd1 (ixo_v hx hy hi) hd h
theorem tixo {t e : TypeId} {x y : Operand} {bl o i m : Nat} {k : IntKind} [UArr P t m e] [USize P e 1] {d : Nat} {ty : TypeId} {pos : String} {aft : Array Edge} {gd : Option (Nat × Bool)} (h : G n ((d, .pointer (some ⟨bl, o + i, none⟩)) :: env) b ps hp K) (hx : ev env x = some (.pointer (some ⟨bl, o, none⟩)) := by exact rfl) (hy : ev env y = some (.int k (i : Int)) := by exact rfl) (hi : i < m := by omega) (hd : Nat.blt d n = true := by exact rfl) : GT P n env b ps hp ⟨some d, .indexAddr t x y, ty, pos, aft, gd⟩ K := tp1 (ixo_v hx hy hi) hd h
theorem rixo {t e : TypeId} {x y : Operand} {bl o i m : Nat} {k : IntKind} [UArr P t m e] [USize P e 1] {d : Nat} {ty : TypeId} {pos : String} {aft : Array Edge} {gd : Option (Nat × Bool)} {psW : List Pf} {hpS : List Res} {wd : World} {F : Nat → Prop} (h : G n ((d, .pointer (some ⟨bl, o + i, none⟩)) :: env) b ps hp K) (hx : ev env x = some (.pointer (some ⟨bl, o, none⟩)) := by exact rfl) (hy : ev env y = some (.int k (i : Int)) := by exact rfl) (hi : i < m := by omega) (hd : Nat.blt d n = true := by exact rfl) : GTR P n env psW hpS wd F b ps hp K ⟨some d, .indexAddr t x y, ty, pos, aft, gd⟩ := .v (.of_soft fun _ => ixo_v hx hy hi) hd h
theorem b_quo {t t' : TypeId} {x y : Operand} {i j : Nat} {d : Nat} {ty : TypeId} {pos : String} {aft : Array Edge} {gd : Option (Nat × Bool)} (h : G n ((d, .int .i64 ((i / j : Nat) : Int)) :: env) b ps hp K) (hx : ev env x = some (.int .i64 (i : Int)) := by exact rfl) (hy : ev env y = some (.int .i64 (j : Int)) := by exact rfl) (hb : j ≠ 0 := by omega) (hi : i ≤ 9223372036854775807 := by omega) (hd : Nat.blt d n = true := by exact rfl) : GO P n env b ps hp ⟨some d, .binOp .quo t x y t', ty, pos, aft, gd⟩ K Q := rd1 (quo_nat hx hy hb hi) hd h
theorem tb_quo {t t' : TypeId} {x y : Operand} {i j : Nat} {d : Nat} {ty : TypeId} {pos : String} {aft : Array Edge} {gd : Option (Nat × Bool)} (h : G n ((d, .int .i64 ((i / j : Nat) : Int)) :: env) b ps hp K) (hx : ev env x = some (.int .i64 (i : Int)) := by exact rfl) (hy : ev env y = some (.int .i64 (j : Int)) := by exact rfl) (hb : j ≠ 0 := by omega) (hi : i ≤ 9223372036854775807 := by omega) (hd : Nat.blt d n = true := by exact rfl) : GT P n env b ps hp ⟨some d, .binOp .quo t x y t', ty, pos, aft, gd⟩ K := tp1 (quo_nat hx hy hb hi) hd h
theorem rb_quo {t t' : TypeId} {x y : Operand} {i j : Nat} {d : Nat} {ty : TypeId} {pos : String} {aft : Array Edge} {gd : Option (Nat × Bool)} {psW : List Pf} {hpS : List Res} {wd : World} {F : Nat → Prop} (h : G n ((d, .int .i64 ((i / j : Nat) : Int)) :: env) b ps hp K) (hx : ev env x = some (.int .i64 (i : Int)) := by exact rfl) (hy : ev env y = some (.int .i64 (j : Int)) := by exact rfl) (hb : j ≠ 0 := by omega) (hi : i ≤ 9223372036854775807 := by omega) (hd : Nat.blt d n = true := by exact rfl) : GTR P n env psW hpS wd F b ps hp K ⟨some d, .binOp .quo t x y t', ty, pos, aft, gd⟩ := .v (.of_soft fun _ => quo_nat hx hy hb hi) hd h
theorem b_quoL {t t' : TypeId} {x y : Operand} {i j : Nat} {d : Nat} {ty : TypeId} {pos : String} {aft : Array Edge} {gd : Option (Nat × Bool)} (h : G n ((d, .int .i64 ((i / j : Nat) : Int)) :: env) b ps hp K) (hx : ev env x = some (.int .i64 (i : Int)) := by exact rfl) (hy : ev env y = some (.int .i64 (OfNat.ofNat j : Int)) := by exact rfl) (hb : j ≠ 0 := by first | omega | decide) (hi : i ≤ 9223372036854775807 := by omega) (hd : Nat.blt d n = true := by exact rfl) : GO P n env b ps hp ⟨some d, .binOp .quo t x y t', ty, pos, aft, gd⟩ K Q := rd1 (quo_nat hx hy hb hi) hd h
theorem tb_quoL {t t' : TypeId} {x y : Operand} {i j : Nat} {d : Nat} {ty : TypeId} {pos : String} {aft : Array Edge} {gd : Option (Nat × Bool)} (h : G n ((d, .int .i64 ((i / j : Nat) : Int)) :: env) b ps hp K) (hx : ev env x = some (.int .i64 (i : Int)) := by exact rfl) (hy : ev env y = some (.int .i64 (OfNat.ofNat j : Int)) := by exact rfl) (hb : j ≠ 0 := by first | omega | decide) (hi : i ≤ 9223372036854775807 := by omega) (hd : Nat.blt d n = true := by exact rfl) : GT P n env b ps hp ⟨some d, .binOp .quo t x y t', ty, pos, aft, gd⟩ K := tp1 (quo_nat hx hy hb hi) hd h
theorem rb_quoL {t t' : TypeId} {x y : Operand} {i j : Nat} {d : Nat} {ty : TypeId} {pos : String} {aft : Array Edge} {gd : Option (Nat × Bool)} {psW : List Pf} {hpS : List Res} {wd : World} {F : Nat → Prop} (h : G n ((d, .int .i64 ((i / j : Nat) : Int)) :: env) b ps hp K) (hx : ev env x = some (.int .i64 (i : Int)) := by exact rfl) (hy : ev env y = some (.int .i64 (OfNat.ofNat j : Int)) := by exact rfl) (hb : j ≠ 0 := by first | omega | decide) (hi : i ≤ 9223372036854775807 := by omega) (hd : Nat.blt d n = true := by exact rfl) : GTR P n env psW hpS wd F b ps hp K ⟨some d, .binOp .quo t x y t', ty, pos, aft, gd⟩ := .v (.of_soft fun _ => quo_nat hx hy hb hi) hd h
theorem b_remL {t t' : TypeId} {x y : Operand} {i j : Nat} {d : Nat} {ty : TypeId} {pos : String} {aft : Array Edge} {gd : Option (Nat × Bool)} (h : G n ((d, .int .i64 ((i % j : Nat) : Int)) :: env) b ps hp K) (hx : ev env x = some (.int .i64 (i : Int)) := by exact rfl) (hy : ev env y = some (.int .i64 (OfNat.ofNat j : Int)) := by exact rfl) (hb : j ≠ 0 := by first | omega | decide) (hd : Nat.blt d n = true := by exact rfl) : GO P n env b ps hp ⟨some d, .binOp .rem t x y t', ty, pos, aft, gd⟩ K Q := rd1 (rem_nat hx hy hb) hd h
theorem tb_remL {t t' : TypeId} {x y : Operand} {i j : Nat} {d : Nat} {ty : TypeId} {pos : String} {aft : Array Edge} {gd : Option (Nat × Bool)} (h : G n ((d, .int .i64 ((i % j : Nat) : Int)) :: env) b ps hp K) (hx : ev env x = some (.int .i64 (i : Int)) := by exact rfl) (hy : ev env y = some (.int .i64 (OfNat.ofNat j : Int)) := by exact rfl) (hb : j ≠ 0 := by first | omega | decide) (hd : Nat.blt d n = true := by exact rfl) : GT P n env b ps hp ⟨some d, .binOp .rem t x y t', ty, pos, aft, gd⟩ K := tp1 (rem_nat hx hy hb) hd h
theorem rb_remL {t t' : TypeId} {x y : Operand} {i j : Nat} {d : Nat} {ty : TypeId} {pos : String} {aft : Array Edge} {gd : Option (Nat × Bool)} {psW : List Pf} {hpS : List Res} {wd : World} {F : Nat → Prop} (h : G n ((d, .int .i64 ((i % j : Nat) : Int)) :: env) b ps hp K) (hx : ev env x = some (.int .i64 (i : Int)) := by exact rfl) (hy : ev env y = some (.int .i64 (OfNat.ofNat j : Int)) := by exact rfl) (hb : j ≠ 0 := by first | omega | decide) (hd : Nat.blt d n = true := by exact rfl) : GTR P n env psW hpS wd F b ps hp K ⟨some d, .binOp .rem t x y t', ty, pos, aft, gd⟩ := .v (.of_soft fun _ => rem_nat hx hy hb) hd h
theorem la {m : Nat} {k : IntKind} {bl o' off : Nat} {y : List Int} {x0 : Int} {t : TypeId} {x : Operand} [UOne P t] {d : Nat} {ty : TypeId} {pos : String} {aft : Array Edge} {gd : Option (Nat × Bool)} (h : G n ((d, .int k x0) :: env) b ps hp K) (hx : ev env x = some (.pointer (some ⟨bl, o', none⟩)) := by exact rfl) (i0 : Look bl o' ps hp (Ty.arr m k) off y := by exact inferInstance) (hx0 : y[off]? = some x0 := by with_reducible assumption) (hd : Nat.blt d n = true := by exact rfl) : GO P n env b ps hp ⟨some d, .load t x, ty, pos, aft, gd⟩ K Q := rdv (ld_arr (m := m) (off := off) (y := y) hx hx0) hd h
theorem rla {psW : List Pf} {hpS : List Res} {m : Nat} {k : IntKind} {bl o' off : Nat} {y : List Int} {x0 : Int} {t : TypeId} {x : Operand} [UOne P t] {d : Nat} {ty : TypeId} {pos : String} {aft : Array Edge} {gd : Option (Nat × Bool)} {wd : World} {F : Nat → Prop} (h : G n ((d, .int k x0) :: env) b ps hp K) (hx : ev env x = some (.pointer (some ⟨bl, o', none⟩)) := by exact rfl) (i0 : Look bl o' psW hpS (Ty.arr m k) off y := by exact inferInstance) (hx0 : y[off]? = some x0 := by with_reducible assumption) (hd : Nat.blt d n = true := by exact rfl) : GTR P n env psW hpS wd F b ps hp K ⟨some d, .load t x, ty, pos, aft, gd⟩ := .v (ld_arr (m := m) (off := off) (y := y) hx hx0) hd h
theorem nea {t t' : TypeId} {x y : Operand} {m : Nat} {k : IntKind} {e : TypeId} {cs ds : List Value} {u v : List Int} [UArr P t m e] [UInt P e k] [UInf P e] [UPlain P t] {d : Nat} {ty : TypeId} {pos : String} {aft : Array Edge} {gd : Option (Nat × Bool)} (h : G n ((d, .bool (decide (u ≠ v))) :: env) b ps hp K) (hx : ev env x = some (.agg cs.toArray) := by exact rfl) (hy : ev env y = some (.agg ds.toArray) := by exact rfl) (i0 : FAg cs ps (Ty.arr m k) u := by exact inferInstance) (i1 : FAg ds ps (Ty.arr m k) v := by exact inferInstance) (hd : Nat.blt d n = true := by exact rfl) : GO P n env b ps hp ⟨some d, .binOp .neq t x y t', ty, pos, aft, gd⟩ K Q := rdv (ne_arr (m := m) (k := k) (e := e) hx hy i0.mem i1.mem) hd h
theorem rnea {psW : List Pf} {hpS : List Res} {t t' : TypeId} {x y : Operand} {m : Nat} {k : IntKind} {e : TypeId} {cs ds : List Value} {u v : List Int} [UArr P t m e] [UInt P e k] [UInf P e] [UPlain P t] {d : Nat} {ty : TypeId} {pos : String} {aft : Array Edge} {gd : Option (Nat × Bool)} {wd : World} {F : Nat → Prop} (h : G n ((d, .bool (decide (u ≠ v))) :: env) b ps hp K) (hx : ev env x = some (.agg cs.toArray) := by exact rfl) (hy : ev env y = some (.agg ds.toArray) := by exact rfl) (i0 : FAg cs psW (Ty.arr m k) u := by exact inferInstance) (i1 : FAg ds psW (Ty.arr m k) v := by exact inferInstance) (hd : Nat.blt d n = true := by exact rfl) : GTR P n env psW hpS wd F b ps hp K ⟨some d, .binOp .neq t x y t', ty, pos, aft, gd⟩ := .v (ne_arr (m := m) (k := k) (e := e) hx hy i0.mem i1.mem) hd h
end
end Go.GX
