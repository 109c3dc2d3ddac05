/- The rules of maps whose keys are ints, for the walk by explicit rules. No program in sight. -/
import Derived.Test.YtnpbadghodkhlaaRxMem
namespace Go.RX
open Go Go.RowKit Go.RR

def isKey (v : Value) (k : Int) : Bool := match v with
  | .int .i64 a => a == k
  | _ => false
@[simp] theorem isKey_int (a k : Int) : isKey (.int .i64 a) k = (a == k) := rfl

/-- The first entry of a key. -/
def look (k : Int) : List MapEntry → Option Value
  | [] => none
  | e :: r => if isKey e.key k then some e.val else look k r

/-- Block b is a map that gives f. -/
def MapF (w : World) (b : Nat) (f : Int → Option Value) : Prop :=
  ∃ es clock, w.heap[b]? = some (.map es clock) ∧ (∀ e ∈ es.toList, ∃ k, e.key = .int .i64 k) ∧ ∀ k, look k es.toList = f k

theorem MapF.lt {w : World} {b : Nat} {f : Int → Option Value} (h : MapF w b f) : b < w.heap.size := by
  obtain ⟨es, c, h, _⟩ := h
  exact (Array.getElem?_eq_some_iff.1 h).1
theorem MapF.keep {O : Nat → Prop} {w w' : World} {b : Nat} {f : Int → Option Value} (h : MapF w b f) (hu : Upd O w w') (hb : ¬ O b) : MapF w' b f := by
  have hl := h.lt
  obtain ⟨es, c, h, h2⟩ := h
  exact ⟨es, c, (hu.block b hl hb).trans h, h2⟩

section
variable {P : Program}

theorem findNow_int (k : Int) : ∀ (l : List MapEntry) (i : Nat), (∀ e ∈ l, ∃ k, e.key = .int .i64 k) →
    ∃ r, Instr.findNow (.int .i64) (.int .i64 k) l i = some r ∧ r.map (·.2) = look k l ∧ (∀ j v, r = some (j, v) → ∃ m e, j = i + m ∧ l[m]? = some e ∧ e.key = .int .i64 k ∧ ∀ x, look k (l.modify m fun e => { e with key := .int .i64 k, val := x }) = some x)
  | [], i, _ => ⟨none, rfl, rfl, fun j v h => by cases h⟩
  | e :: r, i, h => by
    obtain ⟨k', hk⟩ := h e (by simp)
    by_cases hkk : k' = k
    · subst hkk
      refine ⟨some (i, e.val), by simp [Instr.findNow, hk, Instr.sameNow], by simp [look, hk], fun j v hj => ?_⟩
      cases hj
      exact ⟨0, e, rfl, rfl, hk, fun x => by simp [look]⟩
    · have hne : isKey e.key k = false := by rw [hk]; simp [hkk]
      obtain ⟨r', h1, h2, h3⟩ := findNow_int k r (i + 1) (fun e he => h e (by simp [he]))
      have hb : (k == k') = false := by simpa using fun e => hkk e.symm
      refine ⟨r', by simp [Instr.findNow, hk, Instr.sameNow, hb, h1], by simp [look, hne, h2], fun j v hj => ?_⟩
      obtain ⟨m, e', e1, e2, e3, e4⟩ := h3 j v hj
      exact ⟨m + 1, e', by omega, by simpa using e2, e3, fun x => by simp [look, hne, e4 x]⟩

theorem look_modify {k k' : Int} (hne : k' ≠ k) (x : Value) : ∀ (l : List MapEntry) (m : Nat) (e : MapEntry), l[m]? = some e → e.key = .int .i64 k → look k' (l.modify m fun e => { e with key := .int .i64 k, val := x }) = look k' l
  | [], _, _, h, _ => by simp at h
  | a :: l, 0, e, h, hk => by
    simp at h; subst h
    have : ¬ k = k' := fun e => hne e.symm
    simp [look, hk, this]
  | a :: l, m + 1, e, h, hk => by
    have ih := look_modify hne x l m e (by simpa using h) hk
    simp [look, ih]

theorem look_append (k k' : Int) (x : Value) (c : Nat) : ∀ l : List MapEntry, look k' (l ++ [{ key := .int .i64 k, val := x, born := c }]) = (look k' l).or (if k' = k then some x else none)
  | [] => by
    by_cases h : k' = k
    · simp [look, h]
    · simp [look, h, show ¬ k = k' from fun e => h e.symm]
  | e :: r => by
    simp only [List.cons_append, look]
    split
    · simp
    · exact look_append k k' x c r

def upd (f : Int → Option Value) (k : Int) (v : Value) : Int → Option Value := fun k' => if k' = k then some v else f k'

variable {n : Nat} {env : Env} {w : World} {S : World → Prop} {Q : Exit → Act → World → Prop} {K : Act → World → Prop}

theorem run_checkKey {t : TypeId} {b : Bool} {k : Int} {d : Nat} (h : P.underlying t = some (.int .i64)) : (Instr.checkKey b (d + 1) t (.int .i64 k)).run P w = .ok () w := by
  simp [Instr.checkKey, run_underlying h]

theorem run_lookup {t k e : TypeId} {b : Nat} {f : Int → Option Value} {i : Int} {z : Value} (ht : P.underlying t = some (.map k e)) (hk : P.underlying k = some (.int .i64)) (hz : (zeroValue e).run P w = .ok z w) (hm : MapF w b f) (ok : Bool) :
    (Instr.lookup t (.map (some b)) (.int .i64 i) ok).run P w = .ok (if ok then .tuple #[(f i).getD z, .bool (f i).isSome] else (f i).getD z) w := by
  obtain ⟨es, c, hb, hkeys, hf⟩ := hm
  obtain ⟨r, h1, h2, _⟩ := findNow_int i es.toList 0 hkeys
  have hc := run_checkKey (P := P) (w := w) (b := es.isEmpty) (k := i) (d := 9999) hk
  have hg : (getObj b).run P w = .ok (.map es c) w := by simp [getObj, Sem.run, hb]
  rw [← hf i, ← h2]
  cases r with
  | none => simp [Instr.lookup, run_underlying ht, hg, hc, Instr.findKey, run_underlying hk, h1, hz]
  | some p => simp [Instr.lookup, run_underlying ht, hg, hc, Instr.findKey, run_underlying hk, h1]

theorem lookup {t k e : TypeId} {x y : Operand} {b : Nat} {f : Int → Option Value} {i : Int} {z : Value} [ht : UMap P t k e] [hk : UInt P k .i64] [hz : UZero P e z] (hx : ev env x = some (.map (some b))) (hy : ev env y = some (.int .i64 i)) (hm : ∀ w, S w → MapF w b f) :
    Soft P n env S (.lookup t x y false) ((f i).getD z) := fun a ha o ho w hw => by
  simp [execOp, ho, ha.ev hx, ha.ev hy, run_lookup ht.u hk.u (hz.z w) (hm w hw)]
theorem lookup_some {t k e : TypeId} {x y : Operand} {b : Nat} {f : Int → Option Value} {i : Int} {z v : Value} [ht : UMap P t k e] [hk : UInt P k .i64] [hz : UZero P e z] (hx : ev env x = some (.map (some b))) (hy : ev env y = some (.int .i64 i)) (hm : ∀ w, S w → MapF w b f) (hv : f i = some v) :
    Soft P n env S (.lookup t x y false) v := by
  have := lookup (P := P) (n := n) (S := S) (t := t) (e := e) (z := z) hx hy hm
  rwa [hv] at this
theorem lookup_ok {t k e : TypeId} {x y : Operand} {b : Nat} {f : Int → Option Value} {i : Int} {z : Value} [ht : UMap P t k e] [hk : UInt P k .i64] [hz : UZero P e z] (hx : ev env x = some (.map (some b))) (hy : ev env y = some (.int .i64 i)) (hm : ∀ w, S w → MapF w b f) :
    Soft P n env S (.lookup t x y true) (.tuple #[(f i).getD z, .bool (f i).isSome]) := fun a ha o ho w hw => by
  simp [execOp, ho, ha.ev hx, ha.ev hy, run_lookup ht.u hk.u (hz.z w) (hm w hw)]
theorem lookup_at {t k e : TypeId} {x y : Operand} {b : Nat} {f : Int → Option Value} {i : Int} {z : Value} [UMap P t k e] [UInt P k .i64] [UZero P e z] (hx : ev env x = some (.map (some b))) (hy : ev env y = some (.int .i64 i)) (hm : MapF w b f) :
    Soft P n env (fun w' => w' = w) (.lookup t x y false) ((f i).getD z) := lookup hx hy (fun w' e => by subst e; exact hm)
theorem lookup_ok_at {t k e : TypeId} {x y : Operand} {b : Nat} {f : Int → Option Value} {i : Int} {z : Value} [UMap P t k e] [UInt P k .i64] [UZero P e z] (hx : ev env x = some (.map (some b))) (hy : ev env y = some (.int .i64 i)) (hm : MapF w b f) :
    Soft P n env (fun w' => w' = w) (.lookup t x y true) (.tuple #[(f i).getD z, .bool (f i).isSome]) := lookup_ok hx hy (fun w' e => by subst e; exact hm)

theorem makeMap {d : Nat} {ty : TypeId} {pos : String} {aft : Array Edge} {gd : Option (Nat × Bool)} {t k e : TypeId} [UMap P t k e] (hd : Nat.blt d n = true)
    (h : ∀ b w', w.heap.size ≤ b → MapF w' b (fun _ => none) → Upd (fun _ => False) w w' → E n ((d, .map (some b)) :: env) w' K) : OW P n env w ⟨some d, .makeMap t none, ty, pos, aft, gd⟩ K Q := by
  refine eff (v := .map (some w.heap.size)) (w' := w.alloc (.map #[] 0)) (fun a ha => ?_) hd (h _ _ (Nat.le_refl _) ⟨#[], 0, heap_alloc_new w _, by simp, fun k => rfl⟩ ((Upd.refl _ _).alloc _))
  simp [execOp, Instr.makeMap]

theorem mapUpdate {ty : TypeId} {pos : String} {aft : Array Edge} {gd : Option (Nat × Bool)} {t k e : TypeId} {x y z : Operand} {b : Nat} {f : Int → Option Value} {i : Int} {v : Value} [ht : UMap P t k e] [hk : UInt P k .i64]
    (hx : ev env x = some (.map (some b))) (hy : ev env y = some (.int .i64 i)) (hz : ev env z = some v) (hm : MapF w b f)
    (h : ∀ w', MapF w' b (upd f i v) → Upd (fun k => k = b) w w' → E n env w' K) : OW P n env w ⟨none, .mapUpdate t x y z, ty, pos, aft, gd⟩ K Q := by
  have hlt := hm.lt
  obtain ⟨es, c, hb, hkeys, hf⟩ := hm
  obtain ⟨r, h1, h2, h3⟩ := findNow_int i es.toList 0 hkeys
  have hc := run_checkKey (P := P) (w := w) (b := false) (k := i) (d := 9999) hk.u
  have hg : (getObj b).run P w = .ok (.map es c) w := by simp [getObj, Sem.run, hb]
  have hset : ∀ o, (setObj b o).run P w = .ok () { w with heap := w.heap.setIfInBounds b o } := fun o => by simp [setObj, Sem.run, hb]
  have hupd : ∀ o, Upd (fun k => k = b) w { w with heap := w.heap.setIfInBounds b o } := fun o => ⟨rfl, rfl, rfl, by simp, fun j hj hn => Array.getElem?_setIfInBounds_ne (fun e => hn e.symm)⟩
  cases r with
  | none =>
    have hnone : look i es.toList = none := by rw [← h2]; rfl
    refine effU (w' := { w with heap := w.heap.setIfInBounds b (.map (es.push { key := .int .i64 i, val := v, born := c }) (c + 1)) }) (fun a ha => ?_) (h _ ⟨es.push { key := .int .i64 i, val := v, born := c }, c + 1, by simp [hlt], ?_, fun k' => ?_⟩ (hupd _))
    · simp [execOp, ha.ev hx, ha.ev hy, ha.ev hz, Instr.mapUpdate, run_underlying ht.u, hg, hc, Instr.findKey, run_underlying hk.u, h1, hset]
    · intro e he
      simp at he
      rcases he with he | rfl
      · exact hkeys e (by simpa using he)
      · exact ⟨i, rfl⟩
    · rw [Array.toList_push, look_append, hf k']
      simp only [upd]
      by_cases hk' : k' = i
      · subst hk'; rw [← hf k', hnone]; simp
      · simp [hk']
  | some p =>
    obtain ⟨j, v0⟩ := p
    obtain ⟨m, e0, hj, he0, hkey, hmod⟩ := h3 j v0 rfl
    have hj : j = m := by omega
    subst hj
    have he0' : es[j]? = some e0 := by simpa using he0
    refine effU (w' := { w with heap := w.heap.setIfInBounds b (.map (es.modify j fun e => { e with key := .int .i64 i, val := v }) c) }) (fun a ha => ?_) (h _ ⟨es.modify j fun e => { e with key := .int .i64 i, val := v }, c, by simp [hlt], ?_, fun k' => ?_⟩ (hupd _))
    · simp [execOp, ha.ev hx, ha.ev hy, ha.ev hz, Instr.mapUpdate, run_underlying ht.u, hg, hc, Instr.findKey, run_underlying hk.u, h1, hset, he0', hkey, Instr.keyThatStays, Instr.sameBits]
    · intro e he
      rw [Array.toList_modify] at he
      obtain ⟨q, hq⟩ := List.getElem?_of_mem he
      rw [List.getElem?_modify] at hq
      obtain ⟨e1, he1, he2⟩ := Option.map_eq_some_iff.1 hq
      split at he2
      · exact ⟨i, by rw [← he2]⟩
      · rw [← he2]; exact hkeys _ (List.mem_of_getElem? he1)
    · rw [Array.toList_modify]
      simp only [upd]
      by_cases hk' : k' = i
      · subst hk'; simp [hmod v]
      · rw [look_modify hk' v _ _ e0 he0 hkey, hf k']; simp [hk']
end
end Go.RX
