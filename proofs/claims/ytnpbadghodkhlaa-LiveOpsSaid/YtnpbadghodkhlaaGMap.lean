/- Maps by ints, as things of one's own. No program in sight. -/
import Derived.Test.YtnpbadghodkhlaaGDraw
import Derived.Test.YtnpbadghodkhlaaRxMap
namespace Go.GX
open Go Go.RowKit Go.RR Go.RX
section
variable {P : Program} {n : Nat} {env : Env} {b : Base} {ps : List Pf} {hp : List Res} {Q : Exit → Act → World → Prop} {K : Act → World → Prop}
variable {ty : TypeId} {pos : String} {aft : Array Edge} {gd : Option (Nat × Bool)} {t k e : TypeId} {x y z : Operand}
/-- 'map[int]T{}'. -/
theorem mm {d : Nat} [UMap P t k e] (h : ∀ bl, G n ((d, .map (some bl)) :: env) b ps (MapR bl (fun _ => none) :: hp) K) (hd : Nat.blt d n = true := by exact rfl) : GO P n env b ps hp ⟨some d, .makeMap t none, ty, pos, aft, gd⟩ K Q := by
  refine Acts.use (hp1 := []) (rest := hp) (ι := Nat) (val := fun bl => .map (some bl)) (pf := fun _ => []) (hr := fun bl => [MapR bl (fun _ => none)]) ?_ (List.Perm.refl _) h
  intro F w K Q b s hk
  exact RX.makeMap hd (fun bl w' hbl hm hu => hk bl w' (mkOkN s hu hm (fun k hk => by have hk : k = bl := hk; omega)))
/-- 'm[k] = v'. -/
theorem mu {bl : Nat} {f : Int → Option Value} {i : Int} {v : Value} {rest : List Res} [UMap P t k e] [UInt P k .i64] (h : G n env b ps (MapR bl (upd f i v) :: rest) K)
    (hx : ev env x = some (.map (some bl)) := by exact rfl) (hy : ev env y = some (.int .i64 i) := by exact rfl) (hz : ev env z = some v := by exact rfl) (hf : FMap bl hp f rest := by exact inferInstance) : GO P n env b ps hp ⟨none, .mapUpdate t x y z, ty, pos, aft, gd⟩ K Q := by
  refine Acts.use (hp1 := [MapR bl f]) (ι := Unit) (val := fun _ => undef) (pf := fun _ => []) (hr := fun _ => [MapR bl (upd f i v)]) ?_ hf.p (fun _ => h)
  intro F w K Q b s hk
  have hm : MapF w bl f := s.rs _ (by simp : MapR bl f ∈ [MapR bl f])
  exact RX.mapUpdate hx hy hz hm (fun w' hm' hu => hk () w' (mkOk1 s hu hm' (fun k hk _ => hk)))
theorem map_at {bl : Nat} {f : Int → Option Value} {rest : List Res} [hf : FMap bl hp f rest] {F : Nat → Prop} {w w' : World} (h2 : AllR F w hp) (ha : Agree (fun k => F k ∨ feet hp k) w w') : MapF w' bl f := by
  have hm := hf.p.mem_iff.2 List.mem_cons_self
  have h : MapF w bl f := h2 _ hm
  have hl := h.lt
  obtain ⟨es, c, h1, h2⟩ := h
  exact ⟨es, c, (ha.block _ hl (.inr ⟨_, hm, rfl⟩)).trans h1, h2⟩
theorem lk_some {bl : Nat} {f : Int → Option Value} {i : Int} {v zv : Value} {rest : List Res} [UMap P t k e] [UInt P k .i64] [UZero P e zv] [FMap bl hp f rest] (hx : ev env x = some (.map (some bl))) (hy : ev env y = some (.int .i64 i)) (hv : f i = some v) : RdV P n env ps hp (.lookup t x y false) v := fun _ _ _ h2 =>
  RX.lookup_some (f := f) (e := e) (k := k) (z := zv) hx hy (fun _ ha => map_at (rest := rest) h2 ha) hv
theorem lk_ok {bl : Nat} {f : Int → Option Value} {i : Int} {zv : Value} {rest : List Res} [UMap P t k e] [UInt P k .i64] [UZero P e zv] [FMap bl hp f rest] (hx : ev env x = some (.map (some bl))) (hy : ev env y = some (.int .i64 i)) : RdV P n env ps hp (.lookup t x y true) (.tuple #[(f i).getD zv, .bool (f i).isSome]) := fun _ _ _ h2 =>
  RX.lookup_ok (f := f) (e := e) (k := k) (z := zv) hx hy (fun _ ha => map_at (rest := rest) h2 ha)
/-- The lowest ten bits. -/
def low10 (i : Int) : Nat := (BitVec.ofInt 64 i &&& BitVec.ofInt 64 1023).toNat
theorem low10_le (i : Int) : low10 i ≤ 1023 := by
  unfold low10
  rw [BitVec.toNat_and]
  exact Nat.le_trans Nat.and_le_right (by decide)
theorem and_low {S : World → Prop} {t t' : TypeId} {x y : Operand} {i : Int} (hx : ev env x = some (.int .i64 i)) (hy : ev env y = some (.int .i64 1023)) : Soft P n env S (.binOp .and t x y t') (.int .i64 ((low10 i : Nat) : Int)) := fun a ha o ho w _ => by
  have hl := low10_le i
  have hw : IntKind.i64.wrap ((low10 i : Nat) : Int) = ((low10 i : Nat) : Int) := RX.wrap_in (by omega)
  have hl2 : low10 i = (i % 18446744073709551616).toNat &&& 1023 := by
    unfold low10
    rw [BitVec.toNat_and]
    simp
  have hb : IntKind.i64.bits = 64 := rfl
  simp [execOp, ho, ha.ev hx, ha.ev hy, eqGuard_at_int, binOp, Op.intBits, hb]
  rw [← hl2, hw]
/-- One that is taken first, asks nothing of memory, and whose value a fact tells. -/
inductive GTP (P : Program) (n : Nat) (env : Env) (psW : List Pf) (wd : World) (F : Nat → Prop) (b : Base) (ps : List Pf) (hp : List Res) (K : Act → World → Prop) : Oper → Prop where
  | mk {d : Nat} {p : Op} {ty : TypeId} {pos : String} {aft : Array Edge} {gd : Option (Nat × Bool)} {ι : Type} {val : ι → Value} {pf : ι → List Pf} (hr : ∀ F w, AllP F w psW → ∃ i, AllP F w (pf i) ∧ Soft P n env (fun _ => True) p (val i)) (hd : Nat.blt d n = true)
      (h : ∀ i, AllP F wd (pf i ++ psW) → G n ((d, val i) :: env) b (pf i ++ ps) hp K) : GTP P n env psW wd F b ps hp K ⟨some d, p, ty, pos, aft, gd⟩
theorem tkx {psW : List Pf} {wd : World} {F : Nat → Prop} {S : World → Prop} {hold : Nat → Bool} {ops : Array Oper} {i : Nat} {r : List (Nat × Bool)} {o : Oper} (h : GTP P n env psW wd F b ps hp (wpPlan P ops Q S hold r) o) (hW : AllP F wd psW := by assumption) (hi : nth ops.toList i = some o := by exact rfl) (hpu : isPure o = true := by exact rfl)
    (hw : Wanted n env ops o true := by first | exact Go.RX.plain rfl | exact Go.RX.guarded rfl rfl rfl (by with_reducible rfl))
    (h1 : AllIn [Kept wd F] ps := by repeat (first | apply Go.GX.AllIn.nil | apply Go.GX.AllIn.cons | (with_reducible apply Go.GX.InP.head) | apply Go.GX.InP.tail)) : G n env b ps hp (wpPlan P ops Q S hold ((i, true) :: r)) := by
  constructor
  rintro w ⟨F', s⟩
  obtain ⟨hA, hF⟩ : (Kept wd F).says F' w := s.fs _ (h1.sub _ (by simp))
  cases h with
  | mk hr hd h =>
    obtain ⟨j, e1, e2⟩ := hr F wd hW
    have hWj : AllP F wd (_ ++ psW) := fun q hq => (List.mem_append.1 hq).elim (e1 q) (hW q)
    refine RX.take_pure hi hw hpu (RX.tsoft e2 hd ((h j hWj).run w ⟨F', s.upd, s.lt, s.old, fun q hq => ?_, s.rs, s.apF, s.apart, s.on⟩))
    rcases List.mem_append.1 hq with hq | hq
    · exact q.move (e1 q hq) hF hA
    · exact s.fs q hq
theorem ix_slp {psW : List Pf} {α : Type} {e : Ty α} {ao : Option Addr} {cap cap' : Nat} {xs : List α} {x0 : α} {t et : TypeId} {x y : Operand} {k : IntKind} {i : Int} {m : Nat} {sz : Nat} [USlice P t et] [USize P et sz] [hf : FSl ao psW e cap xs] (hx : ev env x = some (.slice ao m cap')) (hy : ev env y = some (.int k i))
    (hi : ∃ j : Nat, i = (j : Int) ∧ xs[j]? = some x0) (hm : m = xs.length) (hsz : e.size = sz) (F : Nat → Prop) (w : World) (h1 : AllP F w psW) :
    ∃ i : Nat × Nat, AllP F w [Pt e i.1 i.2 x0] ∧ Soft P n env (fun _ => True) (.indexAddr t x y) (.pointer (some ⟨i.1, i.2, none⟩)) := by
  subst hm; subst hsz
  obtain ⟨j, rfl, hj⟩ := hi
  obtain ⟨_, _, hs⟩ : (Sl e ao cap xs).says F w := h1 _ hf.mem
  obtain ⟨b, o, cs, rfl, h3, h4, h5, h6⟩ := hs j x0 hj
  have hlt : j < xs.length := (List.getElem?_eq_some_iff.1 hj).1
  refine ⟨(b, o + j * e.size), ?_, RX.indexAddrS hx hy hlt⟩
  intro p hp
  rcases List.mem_cons.1 hp with rfl | hp
  · exact ⟨h3, h4, cs, h5, h6⟩
  · simp at hp
theorem xix {psW : List Pf} {wd : World} {F : Nat → Prop} {α : Type} {e : Ty α} {ao : Option Addr} {cap cap' : Nat} {xs : List α} {x0 : α} {t et : TypeId} {x y : Operand} {k : IntKind} {i : Int} {m : Nat} {sz d : Nat} [USlice P t et] [USize P et sz]
    (h : ∀ bl o, AllP F wd (Pt e bl o x0 :: psW) → G n ((d, .pointer (some ⟨bl, o, none⟩)) :: env) b (Pt e bl o x0 :: ps) hp K) (hx : ev env x = some (.slice ao m cap') := by exact rfl) (hy : ev env y = some (.int k i) := by exact rfl) (hf : FSl ao psW e cap xs := by exact inferInstance)
    (hi : ∃ j : Nat, i = (j : Int) ∧ xs[j]? = some x0 := by first | exact ⟨_, rfl, by with_reducible assumption⟩ | (refine ⟨_, ?_, by with_reducible assumption⟩; omega)) (hm : m = xs.length := by first | rfl | omega | (simp; done)) (hsz : e.size = sz := by exact rfl) (hd : Nat.blt d n = true := by exact rfl) :
    GTP P n env psW wd F b ps hp K ⟨some d, .indexAddr t x y, ty, pos, aft, gd⟩ := .mk (fun F w h1 => ix_slp (cap := cap) hx hy hi hm hsz F w h1) hd (fun i hW => h i.1 i.2 hW)
end
end Go.GX
