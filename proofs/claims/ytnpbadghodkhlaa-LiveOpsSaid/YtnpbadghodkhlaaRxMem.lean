/- The rules of operations that make or write memory, and of calls, for the walk by explicit rules. No program in sight. -/
import Derived.Maps.AppendAt
import Derived.Test.YtnpbadghodkhlaaRxDraw
namespace Go.RX
open Go Go.RowKit Go.RR

class UElem (P : Program) (e : TypeId) (z : outParam Value) (size bytes : outParam Nat) : Prop where i : (P.info? e).map (fun i => (i.zero, i.size, i.bytes)) = some (some z, size, bytes)
class UFunc (P : Program) (f : FuncId) : Prop where c : ∀ args w, (callFunc f args).run P w = .ok (.enter f args) w

section
variable {P : Program} {n : Nat} {env : Env} {w : World} {Q : Exit → Act → World → Prop} {K : Act → World → Prop}

/-- A call of a Go function, by its contract. -/
theorem call {d : Nat} {f : FuncId} {xs : List Operand} {ts : Array TypeId} {ty : TypeId} {pos : String} {aft : Array Edge} {gd : Option (Nat × Bool)} {vs : List Value} {R : Ending → World → Prop} [hf : UFunc P f]
    (hxs : evs env xs = some vs) (hc : Calls P f vs.toArray w R) (hd : Nat.blt d n = true) (h : ∀ e w', R e w' → ∃ v, e = .returned v ∧ E n ((d, v) :: env) w' K) :
    OW P n env w ⟨some d, .call { callee := .value (.func f), args := xs.toArray, argTypes := ts }, ty, pos, aft, gd⟩ K Q := by
  constructor; intro a ha
  show Oper.upon P _ a K Q ((execOp a.eval _).run P w)
  have hr : (execOp a.eval ⟨some d, .call { callee := .value (.func f), args := xs.toArray, argTypes := ts }, ty, pos, aft, gd⟩).run P w = .ok (.enter f vs.toArray) w := by
    have he : (xs.toArray.map a.eval) = vs.toArray := by simp [ha.evs hxs]
    have hv : a.eval (.func f) = .func (.func f) #[] #[] := rfl
    simp only [execOp, resolve, hv, he]
    simp [Deferred.ofValue, invoke, hf.c]
  rw [hr]
  refine Calls.mono hc fun e w' hR => ?_
  obtain ⟨v, rfl, hk⟩ := h e w' hR
  exact hk.run _ (ha.put (d := d) v hd)

/-- A new variable: it lies in a block of its own. -/
theorem box {d : Nat} {ty : TypeId} {pos : String} {aft : Array Edge} {gd : Option (Nat × Bool)} {e : TypeId} {x : Operand} {v : Value} (hx : ev env x = some v) (hd : Nat.blt d n = true)
    (h : ∀ b w', w.heap.size ≤ b → Row w' b e v.cells.toList → Upd (fun _ => False) w w' → E n ((d, .pointer (some ⟨b, 0, none⟩)) :: env) w' K) : OW P n env w ⟨some d, .box e x, ty, pos, aft, gd⟩ K Q := by
  refine eff (v := .pointer (some ⟨w.heap.size, 0, none⟩)) (w' := w.alloc (.cells v.cells e)) (fun a ha => ?_) hd ?_
  · simp [execOp, ha.ev hx, Instr.box, newVar, newRow]
  · exact h _ _ (Nat.le_refl _) (Row.new w e v.cells.toList) ((Upd.refl _ _).alloc _)
theorem alloc {d : Nat} {ty : TypeId} {pos : String} {aft : Array Edge} {gd : Option (Nat × Bool)} {e : TypeId} {z : Value} [hz : UZero P e z] (hd : Nat.blt d n = true)
    (h : ∀ b w', w.heap.size ≤ b → Row w' b e z.cells.toList → Upd (fun _ => False) w w' → E n ((d, .pointer (some ⟨b, 0, none⟩)) :: env) w' K) : OW P n env w ⟨some d, .alloc e, ty, pos, aft, gd⟩ K Q := by
  refine eff (v := .pointer (some ⟨w.heap.size, 0, none⟩)) (w' := w.alloc (.cells z.cells e)) (fun a ha => ?_) hd ?_
  · simp [execOp, Instr.alloc, hz.z, newVar, newRow]
  · exact h _ _ (Nat.le_refl _) (Row.new w e z.cells.toList) ((Upd.refl _ _).alloc _)

theorem oneCell_cells {v : Value} (hv : v.oneCell' = true) : v.cells = #[v] := by cases v <;> first | rfl | (simp [Value.oneCell'] at hv)

/-- A literal of a struct: what 'build' makes of its parts is asked of the model's own run. -/
def evp (env : Env) : List (Nat × Operand) → Option (List (Nat × Value))
  | [] => some []
  | (i, x) :: r => match ev env x, evp env r with
    | some v, some l => some ((i, v) :: l)
    | _, _ => none
theorem _root_.Go.RX.Has.evp {n : Nat} {env : Env} {a : Act} (h : Has n env a) : ∀ {xs : List (Nat × Operand)} {vs : List (Nat × Value)}, RX.evp env xs = some vs → xs.map (fun (i, x) => (i, a.eval x)) = vs
  | [], vs, hx => by simpa [RX.evp] using hx
  | (i, x) :: r, vs, hx => by
    simp only [RX.evp] at hx
    split at hx
    · rename_i v l h1 h2
      cases hx
      simp [h.ev h1, h.evp h2]
    · cases hx
theorem build {S : World → Prop} {t : TypeId} {parts : List (Nat × Operand)} {pv : List (Nat × Value)} {v : Value} (hx : evp env parts = some pv) (hb : ∀ w, (Instr.build t pv.toArray).run P w = .ok v w) : Soft P n env S (.build t parts.toArray) v := fun a ha o ho w _ => by
  have := ha.evp hx
  simp [execOp, ho, this, hb]

/-- A store into a row that is known whole. -/
theorem store_row {ty : TypeId} {pos : String} {aft : Array Edge} {gd : Option (Nat × Bool)} {t e : TypeId} {x y : Operand} {b i : Nat} {v : Value} {vs : List Value} [hs : USize P t 1] (hx : ev env x = some (.pointer (some ⟨b, i, none⟩))) (hy : ev env y = some v)
    (hr : Row w b e vs) (hv : v.oneCell' = true) (hi : i < vs.length) (h : ∀ w', Row w' b e (vs.set i v) → Upd (fun k => k = b) w w' → E n env w' K) : OW P n env w ⟨none, .store t x y, ty, pos, aft, gd⟩ K Q :=
  store hx hy hv (hr.cell_some (List.getElem?_eq_getElem hi)) (hr.free i) (h _ (hr.set i v) ((Upd.refl (fun k => k = b) w).setCell (p := ⟨b, i, none⟩) (fun _ => rfl) v))

/-- 'make([]T, n)'. -/
theorem make {d : Nat} {ty : TypeId} {pos : String} {aft : Array Edge} {gd : Option (Nat × Bool)} {t e : TypeId} {x y : Operand} {kx ky : IntKind} {c : Nat} {i : Int} {z : Value} {size bytes : Nat} [ht : USlice P t e] [hi : UElem P e z size bytes]
    (hx : ev env x = some (.int kx i)) (hy : ev env y = some (.int ky i)) (hi0 : i = (c : Int)) (hb : bytes * c ≤ 281474976710656) (h63 : c ≤ 9223372036854775807) (hd : Nat.blt d n = true)
    (h : ∀ b w', w.heap.size ≤ b → Row w' b e (madeCells z.cells (c * size)).toList → Upd (fun _ => False) w w' → E n ((d, .slice (some ⟨b, 0, none⟩) c c) :: env) w' K) : OW P n env w ⟨some d, .makeSlice t x y, ty, pos, aft, gd⟩ K Q := by
  obtain ⟨ii, h0, h1, h2, h3⟩ := info_parts hi.i
  subst h2; subst h3; subst hi0
  have hr := run_make (P := P) w t e ii z ht.u h0 h1 kx ky (c : Int) (c : Int) (by omega) (Int.le_refl _) (by
    have h : ((ii.bytes * c : Nat) : Int) ≤ 281474976710656 := by omega
    rwa [Int.natCast_mul] at h) (by omega)
  simp only [Int.toNat_natCast] at hr
  refine eff (v := .slice (some ⟨w.heap.size, 0, none⟩) c c) (fun a ha => ?_) hd (h _ _ (Nat.le_refl _) (Row.new w e (madeCells z.cells (c * ii.size)).toList) ((Upd.refl _ _).alloc _))
  simp [execOp, ha.ev hx, ha.ev hy, hr]
theorem madeCells_one (z : Value) (hz : z.cells = #[z]) (c : Nat) : (madeCells z.cells (c * 1)).toList = List.replicate c z := by
  apply List.ext_getElem
  · simp [size_madeCells]
  · intro i h1 h2
    simp [madeCells, hz, Nat.mod_one]

/-- 'append(l, ..)', l of one's own; what is appended lies in cells that are known. -/
theorem append {d : Nat} {ty : TypeId} {pos : String} {aft : Array Edge} {gd : Option (Nat × Bool)} {x y : Operand} {t e : TypeId} {z : Value} {sz bytes m c k B : Nat} {v : Value} {ad : Addr} {xs news : List Value} [ht : USlice P t e] [hi : UElem P e z sz bytes]
    (hd : Nat.blt d n = true) (hx : ev env x = some v) (hy : ev env y = some (.slice (some ad) m c)) (hown : w.ownsRow B e sz v k xs) (hB : B ≤ w.heap.size)
    (hl : news.length = m * sz) (hnews : ∀ j u, news[j]? = some u → w.cell? (ad.add j) = some u) (h1 : ∀ u ∈ news, u.oneCell' = true) (hzs : z.cells.size = sz) (hsz : 0 < sz) (h63 : k + m ≤ maxLen) (hbytes : (k + m) * bytes ≤ 140737488355328)
    (h : ∀ v' w', w'.ownsRow B e sz v' (k + m) (xs ++ news) → Upd (fun j => v.ownBlock = some j) w w' → (v'.ownBlock = v.ownBlock ∨ v'.ownBlock = some w.heap.size) → E n ((d, v') :: env) w' K) : OW P n env w ⟨some d, .call { callee := .builtin .append, args := #[x, y], argTypes := #[t, t] }, ty, pos, aft, gd⟩ K Q := by
  obtain ⟨ii, h0, h2, h3, h4⟩ := info_parts hi.i
  obtain ⟨v', w', hr, hown', hg, _, hlies⟩ := run_append_own_at (P := P) w B t ty e ii z sz bytes ht.u h0 h2 h3 h4 hzs hsz v k xs hown ad m c news hl hnews h1 h63 hbytes hB
  refine eff (v := v') (w' := w') (fun a ha => ?_) hd (h v' w' hown' ⟨hg.os, hg.tape, hg.output, hg.size, fun j hj hn => hg.block j hj (fun e => hn e.symm)⟩ hlies)
  simp [execOp, ha.ev hx, ha.ev hy, resolve, invoke, builtin, hr]

/-- 'append(l, x)' behind the block that holds x: told of the world ahead of that block. -/
theorem append_one {d : Nat} {ty : TypeId} {pos : String} {aft : Array Edge} {gd : Option (Nat × Bool)} {x y : Operand} {t e : TypeId} {z : Value} {sz bytes k B : Nat} {v : Value} {xs news : List Value} [ht : USlice P t e] [hi : UElem P e z sz bytes]
    (hd : Nat.blt d n = true) (hx : ev env x = some v) (hy : ev env y = some (.slice (some ⟨w.heap.size, 0, none⟩) 1 1)) (hown : w.ownsRow B e sz v k xs) (hB : B ≤ w.heap.size)
    (hl : news.length = sz) (h1 : ∀ u ∈ news, u.oneCell' = true) (hzs : z.cells.size = sz) (hsz : 0 < sz) (h63 : k + 1 ≤ maxLen) (hbytes : (k + 1) * bytes ≤ 140737488355328)
    (h : ∀ v' w', w'.ownsRow B e sz v' (k + 1) (xs ++ news) → Upd (fun j => v.ownBlock = some j) w w' → (∀ j, v'.ownBlock = some j → v.ownBlock = some j ∨ w.heap.size < j) → E n ((d, v') :: env) w' K) : OW P n env (w.alloc (.cells news.toArray e)) ⟨some d, .call { callee := .builtin .append, args := #[x, y], argTypes := #[t, t] }, ty, pos, aft, gd⟩ K Q := by
  refine append (P := P) (t := t) (e := e) (m := 1) (news := news) hd hx hy (hown.alloc _) (by simp; omega) (by simpa using hl) (fun j u hj => ?_) h1 hzs hsz h63 hbytes (fun v' w' h2 h3 h4 => h v' w' h2 ?_ ?_)
  · rw [Addr.add_lit, Nat.zero_add]
    exact (Row.new w e news).cell_some hj
  · exact ((Upd.refl (fun _ => False) w).alloc _).trans h3 (fun _ _ h => h.elim) (fun _ _ h => h)
  · intro j hj
    rcases h4 with h4 | h4
    · exact .inl (h4 ▸ hj)
    · rw [hj] at h4; simp at h4; exact .inr (by omega)

theorem fill_ones : ∀ (l : List Value) (k : Nat) (A : Array Value), (∀ v ∈ l, v.oneCell' = true) → k + l.length ≤ A.size →
    Instr.fill (fun i => some (i * 1, 1)) A ((l.zipIdx k).map fun p => (p.2, p.1)) = some (A.toList.take k ++ l ++ A.toList.drop (k + l.length)).toArray
  | [], k, A, _, _ => by simp [Instr.fill]
  | v :: l, k, A, hv, hk => by
    have hc : v.cells = #[v] := by
      have := hv v (by simp)
      cases v <;> first | rfl | (simp [Value.oneCell'] at this)
    have hk' : k + 1 + l.length ≤ (A.setIfInBounds k v).size := by simp at hk ⊢; omega
    have ih := fill_ones l (k + 1) (A.setIfInBounds k v) (fun u hu => hv u (by simp [hu])) hk'
    have hlt : k < A.size := by simp at hk; omega
    have hnot : ¬ (A.size < k + 1) := by omega
    simp only [List.zipIdx_cons, List.map_cons, Instr.fill, hc]
    simp [hnot, Nat.mul_one] at ih ⊢
    rw [ih]
    have h1 : (A.toList.set k v).take (k + 1) = A.toList.take k ++ [v] := by
      apply List.ext_getElem?
      intro j
      simp only [List.getElem?_take, List.getElem?_set, List.getElem?_append, List.length_take, Array.length_toList]
      have hm : min k A.size = k := by omega
      by_cases hj : j < k
      · have : ¬ k = j := by omega
        simp [hj, this, show j < k + 1 by omega, show j < A.size by omega, hm]
      · by_cases hj2 : j = k
        · subst hj2; simp [hlt, hm]
        · have h5 : ¬ j < k + 1 := by omega
          have h6 : [v][j - k]? = none := by rw [List.getElem?_eq_none]; simp; omega
          simp [hj, h5, hm, h6]
    have h2 : (A.toList.set k v).drop (k + 1 + l.length) = A.toList.drop (k + (l.length + 1)) := by
      apply List.ext_getElem?
      intro j
      simp only [List.getElem?_drop, List.getElem?_set]
      rw [if_neg (by omega)]
      congr 1
      omega
    rw [h1, h2]; simp

/-- A literal of a slice, its elements of one cell each. -/
theorem slice_lit {d : Nat} {ty : TypeId} {pos : String} {aft : Array Edge} {gd : Option (Nat × Bool)} {t e : TypeId} {len : Nat} {z : Value} {parts : List (Nat × Operand)} {pv : List (Nat × Value)} [ht : USlice P t e] [hz : UZero P e z] [hs : USize P e 1] (cells : List Value) (hx : evp env parts = some pv) (hd : Nat.blt d n = true)
    (hpv : pv = cells.zipIdx.map fun p => (p.2, p.1)) (hlen : len = cells.length) (h1 : ∀ v ∈ cells, v.oneCell' = true) (hsmall : cells.length ≤ 1000)
    (h : ∀ b w', w.heap.size ≤ b → Row w' b e cells → Upd (fun _ => False) w w' → E n ((d, .slice (some ⟨b, 0, none⟩) len len) :: env) w' K) : OW P n env w ⟨some d, .buildSlice t len parts.toArray, ty, pos, aft, gd⟩ K Q := by
  refine eff (v := .slice (some ⟨w.heap.size, 0, none⟩) len len) (w' := w.alloc (.cells cells.toArray e)) (fun a ha => ?_) hd (h _ _ (Nat.le_refl _) (Row.new w e cells) ((Upd.refl _ _).alloc _))
  have hev := ha.evp hx
  subst hlen
  have hf : ∀ A : Array Value, A.size = cells.length → Instr.fill (fun i => some (i * 1, 1)) A pv = some cells.toArray := fun A hA => by
    rw [hpv, fill_ones cells 0 A h1 (by omega)]; simp [← hA]
  have hg : ¬ (16777216 < cells.length) := by omega
  simp only [Nat.mul_one] at hf
  by_cases h0 : cells.length = 0
  · simp [execOp, hev, Instr.buildSlice, run_underlying ht.u, hs.s, h0, hf, newRow]
  · simp [execOp, hev, Instr.buildSlice, run_underlying ht.u, hs.s, hg, hz.z, h0, hf, newRow]

/-- '[]T{x}', of one cell. -/
theorem slice_one {d : Nat} {ty : TypeId} {pos : String} {aft : Array Edge} {gd : Option (Nat × Bool)} {t e : TypeId} {x : Operand} {z v : Value} [ht : USlice P t e] [hz : UZero P e z] [hs : USize P e 1] (hx : ev env x = some v) (hv : v.oneCell' = true) (hz1 : z.cells.size = 1) (hd : Nat.blt d n = true)
    (h : E n ((d, .slice (some ⟨w.heap.size, 0, none⟩) 1 1) :: env) (w.alloc (.cells [v].toArray e)) K) : OW P n env w ⟨some d, .buildSlice t 1 #[(0, x)], ty, pos, aft, gd⟩ K Q := by
  refine eff (v := .slice (some ⟨w.heap.size, 0, none⟩) 1 1) (w' := w.alloc (.cells [v].toArray e)) (fun a ha => ?_) hd h
  have hcs := oneCell_cells hv
  have hr1 : Array.range 1 = #[0] := rfl
  simp [execOp, ha.ev hx, Instr.buildSlice, run_underlying ht.u, hs.s, hz.z, hz1, Instr.fill, hcs, newRow, hr1]

end

/-! ### Entering and leaving a function -/
section
variable {P : Program} {w : World} {R : Ending → World → Prop}

def mkEnv : Nat → List Value → Env
  | _, [] => []
  | k, v :: r => (k, v) :: mkEnv (k + 1) r
theorem mkEnv_get : ∀ (l : List Value) (k t : Nat) (v : Value), lk (mkEnv k l) t = some v → k ≤ t ∧ l[t - k]? = some v
  | [], k, t, v, h => by simp [mkEnv, lk] at h
  | u :: r, k, t, v, h => by
    rw [mkEnv, lk_cons] at h
    split at h
    · rename_i e; subst e; cases h; simp
    · obtain ⟨h1, h2⟩ := mkEnv_get r (k + 1) t v h
      refine ⟨by omega, ?_⟩
      rw [show t - k = (t - (k + 1)) + 1 by omega]
      simpa using h2

theorem enter {f : FuncId} {fn : Func} {c : Code} {args : List Value} {n : Nat} (hf : P.funcs[f]? = some fn) (hb : fn.body = some c) (hn : fn.ntmps = n) (ha : Nat.ble args.length n = true)
    (h : E n (mkEnv 0 args) w (c.wp P (bodyPost P fn R))) : Calls P f args.toArray w R := by
  refine calls_of_wp hf hb (h.run _ ⟨rfl, ?_, fun t v ht => ?_⟩)
  · have : args.length ≤ n := Nat.le_of_ble_eq_true ha
    simp [hn]; omega
  · obtain ⟨_, h2⟩ := mkEnv_get args 0 t v ht
    have : t < args.length := by
      rcases Nat.lt_or_ge t args.length with h | h
      · exact h
      · simp [h] at h2
    rw [Array.getElem?_append_left (by simpa using this)]
    simpa using h2

theorem enter0 {f : FuncId} {fn : Func} {c : Code} {n : Nat} (hf : P.funcs[f]? = some fn) (hb : fn.body = some c) (hn : fn.ntmps = n) (ha : Nat.ble 0 n = true) (h : E n [] w (c.wp P (bodyPost P fn R))) : Calls P f #[] w R := enter (args := []) hf hb hn ha h
theorem enter1 {f : FuncId} {fn : Func} {c : Code} {n : Nat} {v0 : Value} (hf : P.funcs[f]? = some fn) (hb : fn.body = some c) (hn : fn.ntmps = n) (ha : Nat.ble 1 n = true) (h : E n [(0, v0)] w (c.wp P (bodyPost P fn R))) : Calls P f #[v0] w R := enter (args := [v0]) hf hb hn ha h
theorem enter2 {f : FuncId} {fn : Func} {c : Code} {n : Nat} {v0 v1 : Value} (hf : P.funcs[f]? = some fn) (hb : fn.body = some c) (hn : fn.ntmps = n) (ha : Nat.ble 2 n = true) (h : E n [(0, v0), (1, v1)] w (c.wp P (bodyPost P fn R))) : Calls P f #[v0, v1] w R := enter (args := [v0, v1]) hf hb hn ha h
theorem enter3 {f : FuncId} {fn : Func} {c : Code} {n : Nat} {v0 v1 v2 : Value} (hf : P.funcs[f]? = some fn) (hb : fn.body = some c) (hn : fn.ntmps = n) (ha : Nat.ble 3 n = true) (h : E n [(0, v0), (1, v1), (2, v2)] w (c.wp P (bodyPost P fn R))) : Calls P f #[v0, v1, v2] w R := enter (args := [v0, v1, v2]) hf hb hn ha h
theorem enter4 {f : FuncId} {fn : Func} {c : Code} {n : Nat} {v0 v1 v2 v3 : Value} (hf : P.funcs[f]? = some fn) (hb : fn.body = some c) (hn : fn.ntmps = n) (ha : Nat.ble 4 n = true) (h : E n [(0, v0), (1, v1), (2, v2), (3, v3)] w (c.wp P (bodyPost P fn R))) : Calls P f #[v0, v1, v2, v3] w R := enter (args := [v0, v1, v2, v3]) hf hb hn ha h
theorem enter5 {f : FuncId} {fn : Func} {c : Code} {n : Nat} {v0 v1 v2 v3 v4 : Value} (hf : P.funcs[f]? = some fn) (hb : fn.body = some c) (hn : fn.ntmps = n) (ha : Nat.ble 5 n = true) (h : E n [(0, v0), (1, v1), (2, v2), (3, v3), (4, v4)] w (c.wp P (bodyPost P fn R))) : Calls P f #[v0, v1, v2, v3, v4] w R := enter (args := [v0, v1, v2, v3, v4]) hf hb hn ha h
theorem enter6 {f : FuncId} {fn : Func} {c : Code} {n : Nat} {v0 v1 v2 v3 v4 v5 : Value} (hf : P.funcs[f]? = some fn) (hb : fn.body = some c) (hn : fn.ntmps = n) (ha : Nat.ble 6 n = true) (h : E n [(0, v0), (1, v1), (2, v2), (3, v3), (4, v4), (5, v5)] w (c.wp P (bodyPost P fn R))) : Calls P f #[v0, v1, v2, v3, v4, v5] w R := enter (args := [v0, v1, v2, v3, v4, v5]) hf hb hn ha h
theorem enter7 {f : FuncId} {fn : Func} {c : Code} {n : Nat} {v0 v1 v2 v3 v4 v5 v6 : Value} (hf : P.funcs[f]? = some fn) (hb : fn.body = some c) (hn : fn.ntmps = n) (ha : Nat.ble 7 n = true) (h : E n [(0, v0), (1, v1), (2, v2), (3, v3), (4, v4), (5, v5), (6, v6)] w (c.wp P (bodyPost P fn R))) : Calls P f #[v0, v1, v2, v3, v4, v5, v6] w R := enter (args := [v0, v1, v2, v3, v4, v5, v6]) hf hb hn ha h

variable {n : Nat} {env : Env}
theorem ret1 {fn : Func} {t : Tmp} {v : Value} (hr : fn.results = #[.tmp t]) (hv : lk env t = some v) (h : R (.returned v) w) : E n env w (bodyPost P fn R .ret) := ⟨fun a ha =>
  bodyPost_ret (results_tmp hr _ _ _) ha.defers (by have := ha.get t v hv; simpa [this] using h)⟩
theorem ret2 {fn : Func} {t u : Tmp} {v x : Value} (hr : fn.results = #[.tmp t, .tmp u]) (hv : lk env t = some v) (hx : lk env u = some x) (h : R (.returned (.tuple #[v, x])) w) : E n env w (bodyPost P fn R .ret) := ⟨fun a ha =>
  bodyPost_ret (results_tmp2 hr _ _ _) ha.defers (by have h1 := ha.get t v hv; have h2 := ha.get u x hx; simpa [h1, h2] using h)⟩
theorem ret3 {fn : Func} {t u s : Tmp} {v x y : Value} (hr : fn.results = #[.tmp t, .tmp u, .tmp s]) (hv : lk env t = some v) (hx : lk env u = some x) (hy : lk env s = some y) (h : R (.returned (.tuple #[v, x, y])) w) : E n env w (bodyPost P fn R .ret) := ⟨fun a ha =>
  bodyPost_ret (v := .tuple #[v, x, y]) (by have h1 := ha.get t v hv; have h2 := ha.get u x hx; have h3 := ha.get s y hy; simp [results, hr, h1, h2, h3]) ha.defers h⟩
theorem ret0 {fn : Func} (hr : fn.results = #[]) (h : R (.returned (.tuple #[])) w) : E n env w (bodyPost P fn R .ret) := ⟨fun _ ha =>
  bodyPost_ret (results_none hr _ _ _) ha.defers h⟩
theorem end0 {fn : Func} (hr : fn.results = #[]) (h : R (.returned (.tuple #[])) w) : E n env w (bodyPost P fn R .normal) := ⟨fun _ ha =>
  bodyPost_end (results_none hr _ _ _) ha.defers h⟩
end
end Go.RX
