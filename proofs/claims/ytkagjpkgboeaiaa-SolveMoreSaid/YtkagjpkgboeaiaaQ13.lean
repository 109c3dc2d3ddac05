import Derived.Test.YtkagjpkgboeaiaaQ7
import Derived.Test.YtkagjpkgboeaiaaQ9
import Derived.Test.YtkagjpkgboeaiaaQ12
/- Sets kept as maps: keys are arrays of numbers, values are empty structs. No program in sight. -/
namespace Go.GX
open Go Go.RowKit Go.RR Go.RX
def kv (k : List Int) : Value := .agg (k.map (Value.int .i64)).toArray
/-- Block b is a map whose keys are these. -/
def MapS (w : World) (b m : Nat) (ks : List (List Int)) : Prop :=
  ∃ es clock, w.heap[b]? = some (.map es clock) ∧ es.toList.map (·.key) = ks.map kv ∧ (∀ e ∈ es.toList, e.val = .agg #[]) ∧ ∀ k ∈ ks, k.length = m
theorem MapS.lt {w : World} {b m : Nat} {ks : List (List Int)} (h : MapS w b m ks) : b < w.heap.size := by
  obtain ⟨es, c, h, _⟩ := h
  exact (Array.getElem?_eq_some_iff.1 h).1
def SetR (b m : Nat) (ks : List (List Int)) : Res :=
  ⟨fun k => k = b, fun _ w => MapS w b m ks, fun h hk => by subst hk; exact h.lt, fun h _ _ ha => by
    have hl := h.lt
    obtain ⟨es, c, h, h2⟩ := h
    exact ⟨es, c, (ha.block b hl rfl).trans h, h2⟩⟩
class FSet (b : Nat) (hp : List Res) (m : outParam Nat) (ks : outParam (List (List Int))) (rest : outParam (List Res)) : Prop where
  p : hp.Perm (SetR b m ks :: rest)
instance (b m : Nat) (ks : List (List Int)) (hp : List Res) : FSet b (SetR b m ks :: hp) m ks hp := ⟨List.Perm.refl _⟩
instance (b m : Nat) (q : Res) (ks : List (List Int)) (hp rest : List Res) [h : FSet b hp m ks rest] : FSet b (q :: hp) m ks (q :: rest) := ⟨(h.p.cons q).trans (List.Perm.swap _ _ _)⟩
section
variable {P : Program} {n : Nat} {env : Env} {b : Base} {ps : List Pf} {hp : List Res} {Q : Exit → Act → World → Prop} {K : Act → World → Prop}
theorem equal_nums {t e : TypeId} {m : Nat} {w : World} [h : UArr P t m e] [hk : UInt P e .i64] [hi : UInf P e] {u v : List Int} (hu : u.length = m) (hv : v.length = m) : (Op.equal t (kv u) (kv v)).run P w = .ok (decide (u = v)) w := by
  obtain ⟨inf, hinf⟩ := Option.isSome_iff_exists.1 hi.i
  have key : (Op.equalIn 10000 t (.agg (u.map (Value.int .i64)).toArray) (.agg (v.map (Value.int .i64)).toArray)).run P w = .ok (decide (u = v)) w := by
    rw [run_equalIn_array w 9999 _ _ h.u hinf, hi.c, eqItems_nums 9998 hk.u u v (List.range m) (fun i hi => by have := List.mem_range.1 hi; omega)]
    congr 1
    refine decide_eq_decide.2 ⟨fun h => List.ext_getElem? fun i => ?_, fun h i _ => by rw [h]⟩
    by_cases him : i < m
    · exact h i (List.mem_range.2 him)
    · rw [List.getElem?_eq_none (by omega), List.getElem?_eq_none (by omega)]
  exact key
theorem findAsking_nums {t e : TypeId} {m : Nat} {w : World} [h : UArr P t m e] [hk : UInt P e .i64] [hi : UInf P e] {k : List Int} (hkm : k.length = m) : ∀ (l : List MapEntry) (ks : List (List Int)) (i : Nat), l.map (·.key) = ks.map kv → (∀ q ∈ ks, q.length = m) → (∀ e ∈ l, e.val = .agg #[]) →
    ∃ r, (Instr.findAsking t (kv k) l i).run P w = .ok r w ∧ (k ∉ ks → r = none) ∧ (k ∈ ks → ∃ j, r = some (j, .agg #[]))
  | [], ks, i, h1, _, _ => by
    have : ks = [] := by cases ks with | nil => rfl | cons => simp at h1
    subst this
    exact ⟨none, rfl, fun _ => rfl, fun h => by simp at h⟩
  | e :: l, [], i, h1, _, _ => by simp at h1
  | e :: l, q :: ks, i, h1, h2, h3 => by
    simp only [List.map_cons, List.cons.injEq] at h1
    obtain ⟨hq, h1⟩ := h1
    have he := equal_nums (P := P) (t := t) (w := w) (u := k) (v := q) hkm (h2 q (by simp))
    by_cases hkq : k = q
    · refine ⟨some (i, .agg #[]), ?_, fun h => absurd (by simp [hkq]) h, fun _ => ⟨i, rfl⟩⟩
      rw [decide_eq_true hkq] at he
      simp [Instr.findAsking, hq, he, h3 e (by simp)]
    · rw [decide_eq_false hkq] at he
      obtain ⟨r, g1, g2, g3⟩ := findAsking_nums (t := t) (w := w) hkm l ks (i + 1) h1 (fun q hq => h2 q (by simp [hq])) (fun e he => h3 e (by simp [he]))
      refine ⟨r, ?_, fun h => g2 fun h4 => h (by simp [h4]), fun h => g3 ?_⟩
      · simp [Instr.findAsking, hq, he, g1]
      · rcases List.mem_cons.1 h with h | h
        · exact absurd h hkq
        · exact h
theorem findKey_nums {t e : TypeId} {m : Nat} {w : World} [h : UArr P t m e] [hk : UInt P e .i64] [hi : UInf P e] {k : List Int} (hkm : k.length = m) (l : List MapEntry) (ks : List (List Int)) (h1 : l.map (·.key) = ks.map kv) (h2 : ∀ q ∈ ks, q.length = m) (h3 : ∀ e ∈ l, e.val = .agg #[]) :
    ∃ r, (Instr.findKey t (kv k) l).run P w = .ok r w ∧ (k ∉ ks → r = none) ∧ (k ∈ ks → ∃ j, r = some (j, .agg #[])) := by
  have hu := run_underlying h.u w
  cases l with
  | nil =>
    have : ks = [] := by cases ks with | nil => rfl | cons => simp at h1
    subst this
    exact ⟨none, by simp [Instr.findKey, hu, Instr.findNow], fun _ => rfl, fun h => by simp at h⟩
  | cons x l =>
    obtain ⟨r, g1, g2⟩ := findAsking_nums (P := P) (t := t) (w := w) hkm (x :: l) ks 0 h1 h2 h3
    refine ⟨r, ?_, g2⟩
    have hn : Instr.findNow (.array m e) (kv k) (x :: l) 0 = none := by simp [Instr.findNow, Instr.sameNow]
    simp only [Instr.findKey, Sem.run_bind, hu, Result.andThen_ok, hn]
    exact g1
theorem run_checkNums {t e : TypeId} {m : Nat} {w : World} {b0 : Bool} {k : List Int} [h : UArr P t m e] [hk : UInt P e .i64] [hs : USize P e 1] (hkm : k.length = m) : (Instr.checkKey b0 10000 t (kv k)).run P w = .ok () w := by
  have hp : P.plainKey e = true := by unfold Program.plainKey; rw [hk.u]
  have h1 : (sizeOf e).run P w = .ok 1 w := hs.s w
  unfold Instr.checkKey kv
  simp only [Sem.run_bind, run_underlying h.u, Result.andThen_ok]
  simp only [Std.Legacy.Range.forIn_eq_forIn_range', Std.Legacy.Range.size, Nat.sub_zero, Nat.add_one_sub_one, Nat.div_one]
  have key : ∀ is : List Nat, (∀ i ∈ is, i < k.length) → ∀ w, (forIn is PUnit.unit (fun i (_ : PUnit) => (do
      Instr.checkKey b0 9999 e (← part e (k.map (Value.int .i64)).toArray (i * (← sizeOf e)))
      pure (ForInStep.yield PUnit.unit) : Sem (ForInStep PUnit)))).run P w = .ok PUnit.unit w := by
    intro is
    induction is with
    | nil => intro _ w; simp
    | cons i is ih =>
      intro hi w
      have hl := hi i (by simp)
      have h1 : (sizeOf e).run P w = .ok 1 w := hs.s w
      have e1 : (k.map (Value.int .i64)).toArray[i]? = some (.int .i64 k[i]) := by simp [List.getElem?_eq_getElem hl]
      have := ih (fun j hj => hi j (by simp [hj])) w
      simp [h1, run_part_plain w hp e1, run_checkKey (P := P) (w := w) (b := b0) (k := k[i]) (d := 9998) hk.u]
      simpa using this
  have := key (List.range' 0 m) (fun i hi => by rw [List.mem_range'] at hi; omega) w
  simp at this ⊢
  rw [this]
  rfl
section
variable {ty : TypeId} {pos : String} {aft : Array Edge} {gd : Option (Nat × Bool)} {t kt el e : TypeId} {x y z : Operand} {d bl m : Nat} {ks : List (List Int)} {k : List Int} {rest : List Res}
theorem set_at [hf : FSet bl hp m ks rest] {F : Nat → Prop} {w w' : World} (h2 : AllR F w hp) (ha : Agree (fun k => F k ∨ feet hp k) w w') : MapS w' bl m ks := by
  have hm := hf.p.mem_iff.2 List.mem_cons_self
  have h : MapS w bl m ks := h2 _ hm
  have hl := h.lt
  obtain ⟨es, c, h1, h2⟩ := h
  exact ⟨es, c, (ha.block _ hl (.inr ⟨_, hm, rfl⟩)).trans h1, h2⟩
/-- 'map[[2]int]struct{}{}'. -/
theorem mmS (m : Nat) [UMap P t kt e] (h : ∀ bl, G n ((d, .map (some bl)) :: env) b ps (SetR bl m [] :: hp) K) (hd : Nat.blt d n = true := by exact rfl) : GO P n env b ps hp ⟨some d, .makeMap t none, ty, pos, aft, gd⟩ K Q := by
  refine Acts.use (hp1 := []) (rest := hp) (ι := Nat) (val := fun bl => .map (some bl)) (pf := fun _ => []) (hr := fun bl => [SetR bl m []]) ?_ (List.Perm.refl _) h
  intro F w K Q b s hk
  refine RX.eff (v := .map (some w.heap.size)) (w' := w.alloc (.map #[] 0)) (fun a ha => ?_) hd (hk _ _ (mkOkN s ((Upd.refl _ _).alloc _) ⟨#[], 0, heap_alloc_new w _, rfl, by simp, by simp⟩ (fun k hk => by have hk : k = w.heap.size := hk; omega)))
  simp [execOp, Instr.makeMap]
/-- '_, is := m[k]'. -/
theorem lkS_v [ht : UMap P t kt e] [ha : UArr P kt m el] [hi : UInt P el .i64] [UInf P el] [USize P el 1] [hz : UZero P e (.agg #[])] [hf : FSet bl hp m ks rest] (hx : ev env x = some (.map (some bl))) (hy : ev env y = some (kv k)) (hkm : k.length = m) : RdV P n env ps hp (.lookup t x y true) (.tuple #[.agg #[], .bool (decide (k ∈ ks))]) := fun F w h1 h2 a ha' o ho w' hag => by
  obtain ⟨es, c, hb, hkeys, hv, hm⟩ := set_at (bl := bl) (rest := rest) h2 hag
  obtain ⟨r, g1, g2, g3⟩ := findKey_nums (P := P) (t := kt) (w := w') hkm es.toList ks hkeys hm hv
  have hc := run_checkNums (P := P) (t := kt) (w := w') (b0 := es.isEmpty) hkm
  have hg : (getObj bl).run P w' = .ok (.map es c) w' := by simp [getObj, Sem.run, hb]
  have hz' := hz.z w'
  by_cases h : k ∈ ks
  · obtain ⟨j, rfl⟩ := g3 h
    simp [execOp, ho, ha'.ev hx, ha'.ev hy, Instr.lookup, run_underlying ht.u, hg, hc, g1, h]
  · have := g2 h
    subst this
    simp [execOp, ho, ha'.ev hx, ha'.ev hy, Instr.lookup, run_underlying ht.u, hg, hc, g1, h, hz']
theorem lkS (k : List Int) [ht : UMap P t kt e] [ha : UArr P kt m el] [hi : UInt P el .i64] [UInf P el] [USize P el 1] [hz : UZero P e (.agg #[])] [hf : FSet bl hp m ks rest] (h : G n ((d, .tuple #[.agg #[], .bool (decide (k ∈ ks))]) :: env) b ps hp K) (hx : ev env x = some (.map (some bl)) := by exact rfl) (hy : ev env y = some (kv k) := by exact rfl) (hkm : k.length = m := by exact rfl) (hd : Nat.blt d n = true := by exact rfl) :
    GO P n env b ps hp ⟨some d, .lookup t x y true, ty, pos, aft, gd⟩ K Q := rdv (lkS_v (rest := rest) (ks := ks) hx hy hkm) hd h
/-- 'm[k] = struct{}{}', a new one. -/
theorem muS (k : List Int) [ht : UMap P t kt e] [ha : UArr P kt m el] [hi : UInt P el .i64] [UInf P el] [USize P el 1] [hf : FSet bl hp m ks rest] (h : G n env b ps (SetR bl m (ks ++ [k]) :: rest) K) (hk : k ∉ ks) (hx : ev env x = some (.map (some bl)) := by exact rfl) (hy : ev env y = some (kv k) := by exact rfl) (hz : ev env z = some (.agg #[]) := by exact rfl) (hkm : k.length = m := by exact rfl) :
    GO P n env b ps hp ⟨none, .mapUpdate t x y z, ty, pos, aft, gd⟩ K Q := by
  refine Acts.use (hp1 := [SetR bl m ks]) (ι := Unit) (val := fun _ => undef) (pf := fun _ => []) (hr := fun _ => [SetR bl m (ks ++ [k])]) ?_ hf.p (fun _ => h)
  intro F w K Q b s hk2
  have hM : MapS w bl m ks := s.rs _ (by simp : SetR bl m ks ∈ [SetR bl m ks])
  have hlt := hM.lt
  obtain ⟨es, c, hb, hkeys, hv, hm⟩ := hM
  obtain ⟨r, g1, g2, _⟩ := findKey_nums (P := P) (t := kt) (w := w) hkm es.toList ks hkeys hm hv
  have := g2 hk
  subst this
  have hc := run_checkNums (P := P) (t := kt) (w := w) (b0 := false) hkm
  have hg : (getObj bl).run P w = .ok (.map es c) w := by simp [getObj, Sem.run, hb]
  have hset : ∀ o, (setObj bl o).run P w = .ok () { w with heap := w.heap.setIfInBounds bl o } := fun o => by simp [setObj, Sem.run, hb]
  have hupd : ∀ o, Upd (fun k => k = bl) w { w with heap := w.heap.setIfInBounds bl o } := fun o => ⟨rfl, rfl, rfl, by simp, fun j hj hn => Array.getElem?_setIfInBounds_ne (fun e => hn e.symm)⟩
  refine RX.effU (w' := { w with heap := w.heap.setIfInBounds bl (.map (es.push { key := kv k, val := .agg #[], born := c }) (c + 1)) }) (fun a ha => ?_) (hk2 () _ (mkOk1 s (hupd _) ⟨es.push { key := kv k, val := .agg #[], born := c }, c + 1, by simp [hlt], by simp [hkeys], fun e he => ?_, fun q hq => ?_⟩ (fun k hk _ => hk)))
  · simp [execOp, ha.ev hx, ha.ev hy, ha.ev hz, Instr.mapUpdate, run_underlying ht.u, hg, hc, g1, hset]
  · rw [Array.toList_push, List.mem_append, List.mem_singleton] at he
    rcases he with he | rfl
    · exact hv e he
    · rfl
  · rw [List.mem_append, List.mem_singleton] at hq
    rcases hq with hq | rfl
    · exact hm q hq
    · exact hkm
end
end
end Go.GX

/- A slice of one's own, lent to a function that only reads it. No program in sight. -/
namespace Go.GX
open Go Go.RowKit Go.RR Go.RX
section
variable {P : Program} {n : Nat} {env : Env} {b : Base} {ps : List Pf} {hp : List Res} {K : Act → World → Prop}
/-- Something stays from now on; what is known tells what it says. -/
theorem frz_stA {r : Res} {p : Pf} {rest : List Res} (hl : hp.Perm (r :: rest)) (hp' : ∀ F w, AllP F w ps → r.says F w → p.says (fun k => F k ∨ r.on k) w) (h : G n env b (p :: ps) rest K) : G n env b ps hp K := by
  constructor
  rintro w ⟨F, s⟩
  have s := s.perm hl
  have ha := List.pairwise_cons.1 s.apart
  refine h.run w ⟨fun k => F k ∨ r.on k, s.upd, ?_, ?_, ?_, ?_, ?_, ha.2, fun q hq => s.on q (List.mem_cons_of_mem _ hq)⟩
  · rintro k (hk | hk)
    · exact s.lt k hk
    · exact r.inn (s.rs r List.mem_cons_self) hk
  · rintro k (hk | hk) hlt
    · exact s.old k hk hlt
    · exact .inr (s.on r List.mem_cons_self k hk hlt)
  · intro q hq
    rcases List.mem_cons.1 hq with rfl | hq
    · exact hp' F w s.fs (s.rs r List.mem_cons_self)
    · exact q.move (s.fs q hq) (fun _ _ h => .inl h) (Agree.refl _ _)
  · intro q hq
    exact q.move (s.rs q (List.mem_cons_of_mem _ hq)) (fun _ _ h => .inl h) (Agree.refl _ _) (Agree.refl _ _)
  · rintro q hq k hk (hf | hr)
    · exact s.apF q (List.mem_cons_of_mem _ hq) k hk hf
    · exact ha.1 q hq k hr hk
end
end Go.GX

/- A variable that holds a slice stays from now on. No program in sight. -/
namespace Go.GX
open Go Go.RowKit Go.RR Go.RX
/-- A variable that holds a slice that stays, and is not turned from now on. -/
theorem frzS {n : Nat} {env : Env} {b : Base} {ps : List Pf} {hp : List Res} {K : Act → World → Prop} (bl : Nat) {α : Type} (e : Ty α) (xs : List α) {t : TypeId} {vs : List Value} {a : Option Addr} {m c : Nat} {rest : List Res} [hf : FRow bl hp t vs rest] (h : G n env b (Pt (Ty.slice e) bl 0 xs :: ps) rest K) (hv : vs = [.slice a m c] := by exact rfl) (hr : Reads ps (.slice a m c) (Ty.slice e) xs := by first | exact Go.GX.Rds.r) : G n env b ps hp K :=
  frz_stA hf.p (fun F w h1 h2 => by
    have hrow : Row w bl t vs := h2
    subst hv
    have hd : (Ty.slice e).rd F w (Value.slice a m c).cells.toList xs := hr.as F w h1
    exact ⟨.inr rfl, hrow.lt, _, fun j c hj => by rw [Nat.zero_add]; exact hrow.cell_some hj, (Ty.slice e).move hd (fun _ _ h => .inl h) (Agree.refl _ _)⟩) h
end Go.GX

/- Regions in which two that act may come up in either order. No program in sight. -/
namespace Go.RX
open Go Go.RowKit Go.RR
section
variable {P : Program} {ops : Array Oper} {S : World → Prop} {hold : Nat → Bool}
/-- Behind what is taken first: either one, then the other. -/
def Fork (P : Program) (ops : Array Oper) (Q : Exit → Act → World → Prop) (S : World → Prop) (hold : Nat → Bool) (la lb : List (Nat × Bool)) : Exit → Act → World → Prop
  | .normal, a, w => wpPlan P ops Q S hold la a w ∧ wpPlan P ops Q S hold lb a w
  | e, a, w => Q e a w
def forkOk (ops : Array Oper) (hold : Nat → Bool) (la lb : List (Nat × Bool)) : List (Nat × Bool) → Array Bool → Bool
  | [], listed => match la, lb with
    | (i, false) :: ra, (j, false) :: rb => (Region.ready .any ops listed) == [i, j] && Nat.beq ra.length rb.length && planOk ops hold ra (listed.setIfInBounds i true) && planOk ops hold rb (listed.setIfInBounds j true)
    | _, _ => false
  | (i, true) :: r, listed => (Region.ready .any ops listed).contains i && freeX ops hold listed i && forkOk ops hold la lb r (listed.setIfInBounds i true)
  | (_, false) :: _, _ => false
theorem wpAnyX_of_fork {Q : Exit → Act → World → Prop} (hs : Region.noSelect ops = true) (hQ : ∀ c a d v w, Q (.panic c) (Act.put a d v) w → Q (.panic c) a w) {la lb : List (Nat × Bool)} : ∀ (pre : List (Nat × Bool)) (listed : Array Bool) (a : Act) (w : World),
    forkOk ops hold la lb pre listed = true → wpPlan P ops (Fork P ops Q S hold la lb) S hold pre a w → wpAnyX P ops Q S hold (pre.length + la.length) listed a w
  | [], listed, a, w, hp, h => by
    unfold forkOk at hp
    split at hp
    · rename_i i ra j rb
      simp only [Bool.and_eq_true, beq_iff] at hp
      obtain ⟨⟨⟨h1, h2⟩, h3⟩, h4⟩ := hp
      have hr : Region.ready .any ops listed = [i, j] := by simpa using h1
      obtain ⟨ha, hb⟩ : wpPlan P ops Q S hold ((i, false) :: ra) a w ∧ wpPlan P ops Q S hold ((j, false) :: rb) a w := h
      rw [List.length_nil, Nat.zero_add, List.length_cons]
      refine ⟨fun h0 => absurd (hr ▸ h0) (by simp), fun k hk => ?_⟩
      rw [hr] at hk
      rcases List.mem_cons.1 hk with rfl | hk
      · exact wpOp_mono (fun a' w' h5 => ⟨h5.1, wpAnyX_of_plan hs hQ ra _ a' w' h3 h5.2⟩) ha
      · obtain rfl : k = j := by simpa using hk
        rw [h2]
        exact wpOp_mono (fun a' w' h5 => ⟨h5.1, wpAnyX_of_plan hs hQ rb _ a' w' h4 h5.2⟩) hb
    · simp at hp
  | (i, true) :: r, listed, a, w, hp, ⟨oi, v, hi, hy, hS, h⟩ => by
    simp only [forkOk, Bool.and_eq_true] at hp
    have := wpAnyX_first (P := P) (Q := Q) hi (Region.noSelect_spec hs) (fun c a w => hQ c a oi.dst v w) _ (Tame oi S) (r.length + la.length) listed a w (waits_spec (List.range ops.size) [] (fun j oj _ h => by simp at h)) (freeX_spec hi hp.1.2) (by simpa using hp.1.1) hy hS (wpAnyX_of_fork hs hQ r _ _ w hp.2 h)
    rw [List.length_cons, Nat.add_right_comm]; exact this
  | (_, false) :: _, _, _, _, hp, _ => by simp [forkOk] at hp
end
theorem drawnF {P : Program} {n : Nat} {env : Env} {w : World} {Q : Exit → Act → World → Prop} {id : Nat} {l : List Oper} (S : World → Prop) (hold : Nat → Bool) (pre la lb : List (Nat × Bool)) [hm : Mixed P] (hlen : Nat.beq l.length (pre.length + la.length) = true) (hs : Region.noSelect l.toArray = true)
    (hp : forkOk l.toArray hold la lb pre (Array.replicate (pre.length + la.length) false) = true)
    (h : E n env w.drew (wpPlan P l.toArray (Fork P l.toArray (NoPanic Q) S hold la lb) S hold pre)) : E n env w ((Code.region id l.toArray true).wp P Q) := by
  constructor; intro a ha
  refine wp_region_noPanic (wp_region_any hm.m (wpAny_of_X (S := S) (hold := hold) _ _ _ _ ?_))
  have hlen : l.toArray.size = pre.length + la.length := by simpa using beq_iff.1 hlen
  rw [hlen]
  exact wpAnyX_of_fork hs (fun c a d v w h => h) pre _ a _ hp (h.run a ha)
end Go.RX
namespace Go.GX
open Go Go.RowKit Go.RR Go.RX
section
variable {P : Program} {n : Nat} {env : Env} {b : Base} {ps : List Pf} {hp hpS : List Res} {Q : Exit → Act → World → Prop} {K : Act → World → Prop}
/-- Either order: nothing of one's own is held. -/
theorem drawnF {id : Nat} {l : List Oper} (hold : Nat → Bool) (pre la lb : List (Nat × Bool)) [hm : Mixed P] (hlen : Nat.beq l.length (pre.length + la.length) = true) (hs : Region.noSelect l.toArray = true) (hpl : forkOk l.toArray hold la lb pre (Array.replicate (pre.length + la.length) false) = true)
    (h : ∀ wd F, AllP F wd ps → AllR F wd [] → G n env b (Kept wd F :: ps) hp (wpPlan P l.toArray (Fork P l.toArray (NoPanic Q) (SS wd F []) hold la lb) (SS wd F []) hold pre)) : G n env b ps hp ((Code.region id l.toArray true).wp P Q) := by
  constructor
  rintro w ⟨F, s⟩
  have s := s.drew
  refine RX.drawnF (SS w.drew F []) hold pre la lb hlen hs hpl ((h w.drew F s.fs no_r).run w.drew ⟨F, s.upd, s.lt, s.old, fun p hp => ?_, s.rs, s.apF, s.apart, s.on⟩)
  rcases List.mem_cons.1 hp with rfl | hp
  · exact ⟨Agree.refl _ _, fun _ _ h => h⟩
  · exact s.fs p hp
end
end Go.GX

/- Regions in which those that act may come up in several orders: plans as trees. No program in sight. -/
namespace Go.RX
open Go Go.RowKit Go.RR
/-- A plan: in a row; or what is taken, then any of those that are ready. -/
inductive Tr where
  | lin : List (Nat × Bool) → Tr
  | br : List (Nat × Bool) → Tr → Tr
  | nil : Tr
  | alt : Nat → Tr → Tr → Tr
def Tr.size : Tr → Nat
  | .lin l => l.length
  | .br l t => l.length + t.size
  | .nil => 0
  | .alt _ t _ => t.size + 1
def Tr.isPlan : Tr → Bool
  | .lin _ => true
  | .br _ _ => true
  | _ => false
def Tr.idx : Tr → List Nat
  | .alt i _ r => i :: r.idx
  | _ => []
def GoK (P : Program) (ops : Array Oper) (Q : Exit → Act → World → Prop) (S : World → Prop) (hold : Nat → Bool) (i : Nat) (K : Act → World → Prop) : Act → World → Prop :=
  fun a w => wpOp P ops Q i (fun a' w' => (hold i = true → S w → S w') ∧ K a' w') a w
def AtEnd (Q : Exit → Act → World → Prop) (K : Act → World → Prop) : Exit → Act → World → Prop
  | .normal, a, w => K a w
  | e, a, w => Q e a w
def Both (K K' : Act → World → Prop) : Act → World → Prop := fun a w => K a w ∧ K' a w
def wpT (P : Program) (ops : Array Oper) (Q : Exit → Act → World → Prop) (S : World → Prop) (hold : Nat → Bool) : Tr → Act → World → Prop
  | .lin l => wpPlan P ops Q S hold l
  | .br l t => wpPlan P ops (AtEnd Q (wpT P ops Q S hold t)) S hold l
  | .nil => fun _ _ => True
  | .alt i t r => Both (GoK P ops Q S hold i (wpT P ops Q S hold t)) (wpT P ops Q S hold r)
def takesOk (ops : Array Oper) (hold : Nat → Bool) (fin : Array Bool → Bool) : List (Nat × Bool) → Array Bool → Bool
  | [], listed => fin listed
  | (i, true) :: r, listed => (Region.ready .any ops listed).contains i && freeX ops hold listed i && takesOk ops hold fin r (listed.setIfInBounds i true)
  | (_, false) :: _, _ => false
def Tr.ok (ops : Array Oper) (hold : Nat → Bool) : Tr → Nat → Array Bool → Bool
  | .lin l, n, listed => Nat.beq n l.length && planOk ops hold l listed
  | .br l t, n, listed => takesOk ops hold (fun m => (Region.ready .any ops m) == t.idx && t.ok ops hold (n - l.length) m) l listed && Nat.ble (l.length + 1) n && !t.idx.isEmpty
  | .nil, _, _ => true
  | .alt i t r, n, m => t.isPlan && t.ok ops hold (n - 1) (m.setIfInBounds i true) && r.ok ops hold n m
section
variable {P : Program} {ops : Array Oper} {S : World → Prop} {hold : Nat → Bool} {Q : Exit → Act → World → Prop}
theorem wpAnyX_takes (hs : Region.noSelect ops = true) (hQ : ∀ c a d v w, Q (.panic c) (Act.put a d v) w → Q (.panic c) a w) {fin : Array Bool → Bool} {m : Nat} {K : Act → World → Prop} (hK : ∀ listed a w, fin listed = true → K a w → wpAnyX P ops Q S hold m listed a w) :
    ∀ (l : List (Nat × Bool)) (listed : Array Bool) (a : Act) (w : World), takesOk ops hold fin l listed = true → wpPlan P ops (AtEnd Q K) S hold l a w → wpAnyX P ops Q S hold (l.length + m) listed a w
  | [], listed, a, w, hp, h => by rw [List.length_nil, Nat.zero_add]; exact hK listed a w hp h
  | (i, true) :: r, listed, a, w, hp, ⟨oi, v, hi, hy, hS, h⟩ => by
    simp only [takesOk, Bool.and_eq_true] at hp
    have := wpAnyX_first (P := P) (Q := Q) hi (Region.noSelect_spec hs) (fun c a w => hQ c a oi.dst v w) _ (Tame oi S) (r.length + m) listed a w (waits_spec (List.range ops.size) [] (fun j oj _ h => by simp at h)) (freeX_spec hi hp.1.2) (by simpa using hp.1.1) hy hS (wpAnyX_takes hs hQ hK r _ _ w hp.2 h)
    rw [List.length_cons, Nat.add_right_comm]; exact this
  | (_, false) :: _, _, _, _, hp, _ => by simp [takesOk] at hp
theorem plan_idx {t : Tr} (h : t.isPlan = true) : t.idx = [] ∧ t ≠ .nil := by
  cases t <;> simp_all [Tr.isPlan, Tr.idx]
theorem wpAnyX_of_tree (hs : Region.noSelect ops = true) (hQ : ∀ c a d v w, Q (.panic c) (Act.put a d v) w → Q (.panic c) a w) (t : Tr) : ∀ (n : Nat) (listed : Array Bool) (a : Act) (w : World),
    t.ok ops hold n listed = true → wpT P ops Q S hold t a w → (t.idx = [] → t ≠ .nil → wpAnyX P ops Q S hold n listed a w) ∧
      ∀ k ∈ t.idx, wpOp P ops Q k (fun a' w' => (hold k = true → S w → S w') ∧ wpAnyX P ops Q S hold (n - 1) (listed.setIfInBounds k true) a' w') a w := by
  induction t with
  | lin l =>
    intro n listed a w hp h
    unfold Tr.ok at hp
    rw [Bool.and_eq_true, beq_iff] at hp
    rw [hp.1]
    exact ⟨fun _ _ => wpAnyX_of_plan hs hQ l listed a w hp.2 h, fun k hk => by simp [Tr.idx] at hk⟩
  | br l t ih =>
    intro n listed a w hp h
    unfold Tr.ok at hp
    rw [Bool.and_eq_true, Bool.and_eq_true, Nat.ble_eq] at hp
    refine ⟨fun _ _ => ?_, fun k hk => by simp [Tr.idx] at hk⟩
    obtain ⟨m, rfl⟩ : ∃ m, n = l.length + (m + 1) := ⟨n - l.length - 1, by omega⟩
    refine wpAnyX_takes hs hQ (fin := fun q => (Region.ready .any ops q) == t.idx && t.ok ops hold (l.length + (m + 1) - l.length) q) (fun q a w hf hk => ?_) l listed a w hp.1.1 h
    rw [Bool.and_eq_true] at hf
    have hr : Region.ready .any ops q = t.idx := by simpa using hf.1
    have h2 := (ih _ _ _ _ hf.2 hk).2
    rw [Nat.add_sub_cancel_left, Nat.add_sub_cancel] at h2
    refine ⟨fun h0 => ?_, fun k hk' => ?_⟩
    · rw [hr] at h0
      rw [h0] at hp
      simp at hp
    · rw [hr] at hk'
      exact h2 k hk'
  | nil =>
    intro n listed a w _ _
    exact ⟨fun _ h => absurd rfl h, fun k hk => by simp [Tr.idx] at hk⟩
  | alt i t r ih1 ih2 =>
    intro n listed a w hp h
    unfold Tr.ok at hp
    rw [Bool.and_eq_true, Bool.and_eq_true] at hp
    obtain ⟨ha, hb⟩ : GoK P ops Q S hold i (wpT P ops Q S hold t) a w ∧ wpT P ops Q S hold r a w := h
    refine ⟨fun h0 => by simp [Tr.idx] at h0, fun k hk => ?_⟩
    rcases List.mem_cons.1 hk with rfl | hk
    · refine wpOp_mono (fun a' w' h5 => ⟨h5.1, ?_⟩) ha
      exact (ih1 _ _ _ _ hp.1.2 h5.2).1 (plan_idx hp.1.1).1 (plan_idx hp.1.1).2
    · exact (ih2 _ _ _ _ hp.2 hb).2 k hk
end
theorem drawnT {P : Program} {n : Nat} {env : Env} {w : World} {Q : Exit → Act → World → Prop} {id : Nat} {l : List Oper} (S : World → Prop) (hold : Nat → Bool) (t : Tr) [hm : Mixed P] (hs : Region.noSelect l.toArray = true)
    (hp : (t.isPlan && t.ok l.toArray hold l.length (Array.replicate l.length false)) = true)
    (h : E n env w.drew (wpT P l.toArray (NoPanic Q) S hold t)) : E n env w ((Code.region id l.toArray true).wp P Q) := by
  constructor; intro a ha
  refine wp_region_noPanic (wp_region_any hm.m (wpAny_of_X (S := S) (hold := hold) _ _ _ _ ?_))
  rw [Bool.and_eq_true] at hp
  have hlen : l.toArray.size = l.length := by simp
  rw [hlen]
  exact (wpAnyX_of_tree hs (fun c a d v w h => h) t _ _ a _ hp.2 (h.run a ha)).1 (plan_idx hp.1).1 (plan_idx hp.1).2
theorem goK {P : Program} {n : Nat} {env : Env} {w : World} {Q : Exit → Act → World → Prop} {S : World → Prop} {hold : Nat → Bool} {ops : Array Oper} {i : Nat} {o : Oper} {K : Act → World → Prop} (hi : nth ops.toList i = some o) (hw : Wanted n env ops o true)
    (h : OW P n env w o (Went S hold i K) Q) : E n env w (GoK P ops Q S hold i K) := by
  constructor; intro a ha
  have hi := (nth_array ops i).symm.trans hi
  have h1 : wpOp P ops Q i (Went S hold i K) a w := by
    unfold wpOp
    simp only [hi, hw a ha, if_true]
    exact .inl (h.run a ha)
  exact wpOp_mono (fun a' w' h2 => ⟨fun hh _ => h2.1 hh, h2.2⟩) h1
end Go.RX
namespace Go.GX
open Go Go.RowKit Go.RR Go.RX
section
variable {P : Program} {n : Nat} {env : Env} {b : Base} {ps : List Pf} {hp hpS : List Res} {Q : Exit → Act → World → Prop} {K : Act → World → Prop}
theorem drawnT {id : Nat} {l : List Oper} (hold : Nat → Bool) (t : Tr) [hm : Mixed P] (hs : Region.noSelect l.toArray = true) (hpl : (t.isPlan && t.ok l.toArray hold l.length (Array.replicate l.length false)) = true)
    (h : ∀ wd F, AllP F wd ps → AllR F wd [] → G n env b (Kept wd F :: ps) hp (wpT P l.toArray (NoPanic Q) (SS wd F []) hold t)) : G n env b ps hp ((Code.region id l.toArray true).wp P Q) := by
  constructor
  rintro w ⟨F, s⟩
  have s := s.drew
  refine RX.drawnT (SS w.drew F []) hold t hs hpl ((h w.drew F s.fs no_r).run w.drew ⟨F, s.upd, s.lt, s.old, fun p hp => ?_, s.rs, s.apF, s.apart, s.on⟩)
  rcases List.mem_cons.1 hp with rfl | hp
  · exact ⟨Agree.refl _ _, fun _ _ h => h⟩
  · exact s.fs p hp
variable {ops : Array Oper} {S : World → Prop} {hold : Nat → Bool}
theorem treeL {l : List (Nat × Bool)} (h_ : G n env b ps hp (wpPlan P ops Q S hold l)) : G n env b ps hp (wpT P ops Q S hold (.lin l)) := h_
theorem treeB {l : List (Nat × Bool)} {t : Tr} (h_ : G n env b ps hp (wpPlan P ops (AtEnd Q (wpT P ops Q S hold t)) S hold l)) : G n env b ps hp (wpT P ops Q S hold (.br l t)) := h_
theorem treeO {i : Nat} {t : Tr} (h_ : G n env b ps hp (GoK P ops Q S hold i (wpT P ops Q S hold t))) : G n env b ps hp (wpT P ops Q S hold (.alt i t .nil)) := ⟨fun w s => ⟨fun a ha => ⟨(h_.run w s).run a ha, trivial⟩⟩⟩
theorem treeA {i : Nat} {t r : Tr} (h1 : G n env b ps hp (GoK P ops Q S hold i (wpT P ops Q S hold t))) (h2 : G n env b ps hp (wpT P ops Q S hold r)) : G n env b ps hp (wpT P ops Q S hold (.alt i t r)) := ⟨fun w s => ⟨fun a ha => ⟨(h1.run w s).run a ha, (h2.run w s).run a ha⟩⟩⟩
theorem endK (h_ : G n env b ps hp K) : G n env b ps hp (wpPlan P ops (AtEnd Q K) S hold []) := h_
theorem gok {i : Nat} {o : Oper} (h : GO P n env b ps hp o (Went S hold i K) Q) (hi : nth ops.toList i = some o := by exact rfl) (hw : Wanted n env ops o true := by first | exact Go.RX.plain rfl | exact Go.RX.guarded rfl rfl rfl (by with_reducible rfl)) :
    G n env b ps hp (GoK P ops Q S hold i K) := ⟨fun w s => RX.goK hi hw (h.run w s)⟩
theorem s_gok {i : Nat} (h_ : G n env b ps hp (GoK P ops Q S hold i K)) : G n env b ps hp (GoK P ops Q S hold i K) := h_
end
end Go.GX

/- The walk's steps, as default arguments: what is left of a goal is handed back, with all that was brought in ahead of it. Written by wip/rx.py walk. No program in sight. -/
namespace Go.GX
open Go Go.RowKit Go.RR Go.RX
/-- What is left of a goal. -/
structure Hold (p : Prop) : Prop where
  out : p
end Go.GX
