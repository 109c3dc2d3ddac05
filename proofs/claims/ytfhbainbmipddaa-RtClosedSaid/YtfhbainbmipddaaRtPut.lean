/- Joined by join.py from: GAg RtMod Put. -/
import Derived.Test.YtfhbainbmipddaaGFun
import Derived.Test.YtfhbainbmipddaaRtEq
import Derived.Test.YtfhbainbmipddaaApiT
import Derived.Test.YtfhbainbmipddaaGWalk
import Derived.Test.YtfhbainbmipddaaRise
/- Structs' cells: how many, stored over a row, one part otherwise. No program in sight. -/
namespace Go.GX
open Go Go.RowKit Go.RR Go.RX
section
variable {P : Program} {n : Nat} {env : Env} {b : Base} {ps : List Pf} {hp : List Res} {Q : Exit → Act → World → Prop} {K : Act → World → Prop}
/-- How many cells a struct has. -/
theorem agl (cs : List Value) {α : Type} {e : Ty α} {y : α} [hf : FAg cs ps e y] (h : cs.length = e.size → G n env b ps hp K) : G n env b ps hp K := by
  constructor
  rintro w ⟨F, s⟩
  have hr : e.rd F w cs y := s.fs _ hf.mem
  exact (h (e.len hr)).run w ⟨F, s⟩
/-- A struct over a whole row of cells. -/
theorem stRA {bl sz : Nat} {ty : TypeId} {pos : String} {aft : Array Edge} {gd : Option (Nat × Bool)} {t te : TypeId} {x y : Operand} {cs vs : List Value} {α : Type} {e : Ty α} {z : α} {rest : List Res} [hs : USize P t sz] (h : G n env b ps (RowR bl te cs :: rest) K)
    (hx : ev env x = some (.pointer (some ⟨bl, 0, none⟩)) := by exact rfl) (hy : ev env y = some (.agg cs.toArray) := by exact rfl) (ha : FAg cs ps e z := by exact inferInstance) (hf : FRow bl hp te vs rest := by exact inferInstance) (hl : cs.length = sz := by exact rfl) (hl2 : vs.length = sz := by exact rfl) : GO P n env b ps hp ⟨none, .store t x y, ty, pos, aft, gd⟩ K Q := by
  subst hl
  refine Acts.use (hp1 := [RowR bl te vs]) (ι := Unit) (val := fun _ => undef) (pf := fun _ => []) (hr := fun _ => [RowR bl te cs]) ?_ hf.p (fun _ => h)
  intro F w K Q b s hk
  have h2 : Row w bl te vs := s.rs (RowR bl te vs) (by simp)
  have h3 : e.rd F w cs z := s.fs _ ha.mem
  refine store_cells hx hy (by simp [Value.cells]) h2 (fun u hu => e.one h3 u hu) (by omega) (fun w' hrow hu => hk () w' (mkOk1 s hu ?_ (fun k hk _ => hk)))
  have e : over vs 0 cs = cs := by unfold over; rw [List.drop_of_length_le (by omega)]; simp
  rw [e] at hrow; exact hrow
/-- One part of a struct otherwise. -/
theorem agPut (cs : List Value) (off : Nat) (v : Value) {α β : Type} {e : Ty α} {f : Ty β} {y : α} {z : β} {get : α → β} {put : β → α → α} {cs' : List Value} (y' : α) [hf : FAg cs ps e y] [hs : Sub e off f get put] (h : G n env b (Ag e cs' y' :: ps) hp K) (hr : Reads ps v f z := by first | exact Go.GX.Rds.r) (hc : cs.take off ++ (v.cells.toList ++ cs.drop (off + f.size)) = cs' := by exact rfl) (hy : put z y = y' := by exact rfl) : G n env b ps hp K := by
  subst hc; subst hy
  constructor
  rintro w ⟨F, s⟩
  refine h.run w ⟨F, s.upd, s.lt, s.old, fun p hp => ?_, s.rs, s.apF, s.apart, s.on⟩
  rcases List.mem_cons.1 hp with rfl | hp
  · exact hs.put (s.fs _ hf.mem) (hr.as F w s.fs)
  · exact s.fs p hp
end
end Go.GX
/- The plain mathematics of chapter 26: a program with another list of owns or takes. No program in sight. -/
namespace Go.RtM
open Go.RiseM Go.ReachM Go.Api

/-- What a call asks of a unit. -/
def sig (u : Unt) : Int × List Int × Int := (u.params, u.vars, u.result)
structure Like (t t' : RTg) : Prop where
  classes : t'.classes = t.classes
  globals : t'.globals = t.globals
  main : t'.main = t.main
  units : ∀ n, (gt t'.units n).map sig = (gt t.units n).map sig
theorem like_flds {t t' : RTg} (h : Like t t') : flds t' = flds t := by unfold flds; rw [h.classes]
theorem like_glob {t t' : RTg} (h : Like t t') : glob t' = glob t := by unfold glob; rw [like_flds h, h.globals]
theorem like_out {t t' : RTg} (h : Like t t') {u u' : Unt} (hs : sig u' = sig u) : outOf t' u' = outOf t u := by
  simp only [sig, Prod.mk.injEq] at hs
  unfold outOf roots pars
  rw [like_flds h, like_glob h, hs.1, hs.2.1, hs.2.2]
theorem fits_up {t t' : RTg} (h : Like t t') {u u' : Unt} (hs : sig u' = sig u) (hi : u'.ins = u.ins) (ho : ∀ x ∈ u.owns, x ∈ u'.owns) {i : Ins} (hf : Fits t u i) : Fits t' u' i := by
  simp only [sig, Prod.mk.injEq] at hs
  have hof : ∀ n, of u' n = of u n := fun n => by unfold of; rw [hs.2.1]
  have hcell : ∀ n a c, cell t' u' n a c = cell t u n a c := fun n a c => by unfold cell; simp only [hof, h.classes]
  have hL : ∀ a f r c, Loads t' u' a f r c ↔ Loads t u a f r c := fun a f r c => by unfold Loads; simp only [hof, hcell]
  have hY : ∀ a r c d, Lays t' u' a r c d ↔ Lays t u a r c d := fun a r c d => by unfold Lays; simp only [hof, hcell]
  have hT : Two u' i ↔ Two u i := by unfold Two; simp only [hof]
  have hF : ∀ r, Fresh t' u' i r ↔ Fresh t u i r := fun r => by unfold Fresh; simp only [hof, h.classes]
  have hP : ∀ n, Place u' n ↔ Place u n := fun n => by unfold Place; rw [hi]
  have hG : ∀ n A, InG t' n A ↔ InG t n A := fun n A => by unfold InG; rw [h.globals]
  have hC : CallOk t' u' i ↔ CallOk t u i := by
    have := h.units i.c
    unfold CallOk
    cases h1 : gt t.units i.c <;> cases h2 : gt t'.units i.c <;> rw [h1, h2] at this <;> simp only [Option.map_none, Option.map_some, reduceCtorEq, Option.some.injEq, sig, Prod.mk.injEq] at this
    simp only [hof, this.1, this.2.1, this.2.2]
  unfold Fits at hf ⊢
  by_cases h1 : i.op = 1 ∨ i.op = 14 ∨ i.op = 15
  · rw [if_pos h1] at hf ⊢; rw [hof]; exact hf
  rw [if_neg h1] at hf ⊢
  by_cases h2 : i.op = 2
  · rw [if_pos h2] at hf ⊢; rw [hof]; exact hf
  rw [if_neg h2] at hf ⊢
  by_cases h3 : i.op = 3
  · rw [if_pos h3] at hf ⊢; rw [hof, hof]; exact hf
  rw [if_neg h3] at hf ⊢
  by_cases h4 : i.op = 4
  · rw [if_pos h4] at hf ⊢; exact hT.2 hf
  rw [if_neg h4] at hf ⊢
  by_cases h5 : i.op = 5
  · rw [if_pos h5] at hf ⊢; rw [hof, hof]; exact hf
  rw [if_neg h5] at hf ⊢
  by_cases h6 : i.op = 6
  · rw [if_pos h6] at hf ⊢; exact (hL _ _ _ _).2 hf
  rw [if_neg h6] at hf ⊢
  by_cases h7 : i.op = 7
  · rw [if_pos h7] at hf ⊢; exact (hY _ _ _ _).2 hf
  rw [if_neg h7] at hf ⊢
  by_cases h8 : i.op = 8
  · rw [if_pos h8] at hf ⊢; rw [hof]; exact ⟨hf.1, (hL _ _ _ _).2 hf.2⟩
  rw [if_neg h8] at hf ⊢
  by_cases h9 : i.op = 9
  · rw [if_pos h9] at hf ⊢; rw [hof]; exact ⟨hf.1, (hY _ _ _ _).2 hf.2⟩
  rw [if_neg h9] at hf ⊢
  by_cases h10 : i.op = 10
  · rw [if_pos h10] at hf ⊢; rw [hof, hcell]; exact hf
  rw [if_neg h10] at hf ⊢
  by_cases h11 : i.op = 11
  · rw [if_pos h11] at hf ⊢; exact (hF _).2 hf
  rw [if_neg h11] at hf ⊢
  by_cases h12 : i.op = 12
  · rw [if_pos h12] at hf ⊢; rw [hof]; exact ⟨(hF _).2 hf.1, hf.2⟩
  rw [if_neg h12] at hf ⊢
  unfold Goes at hf ⊢
  by_cases g13 : i.op = 13
  · rw [if_pos g13] at hf ⊢; exact hC.2 hf
  rw [if_neg g13] at hf ⊢
  by_cases g16 : i.op = 16
  · rw [if_pos g16] at hf ⊢; exact (hP _).2 hf
  rw [if_neg g16] at hf ⊢
  by_cases g17 : i.op = 17
  · rw [if_pos g17] at hf ⊢; rw [hof]; exact ⟨hf.1, (hP _).2 hf.2.1, (hP _).2 hf.2.2⟩
  rw [if_neg g17] at hf ⊢
  by_cases g18 : i.op = 18
  · rw [if_pos g18] at hf ⊢; rw [hof, hs.2.2]; exact hf
  rw [if_neg g18] at hf ⊢
  by_cases g19 : i.op = 19
  · rw [if_pos g19] at hf ⊢; simp only [hof]; exact (hG _ _).2 hf
  rw [if_neg g19] at hf ⊢
  by_cases g20 : i.op = 20
  · rw [if_pos g20] at hf ⊢; simp only [hof]; exact (hG _ _).2 hf
  rw [if_neg g20] at hf ⊢
  exact ⟨hf.1, hf.2.1, fun n hn => ho n (hf.2.2 n hn)⟩
theorem Like.symm {t t' : RTg} (h : Like t t') : Like t' t := ⟨h.classes.symm, h.globals.symm, h.main.symm, fun n => (h.units n).symm⟩
theorem Like.entry {t t' : RTg} (h : Like t t') (e : Int) : IsEntry t' e ↔ IsEntry t e := by unfold IsEntry IsClass; rw [h.classes]
theorem like_head {t t' : RTg} (h : Like t t') {u u' : Unt} (hs : sig u' = sig u) (hi : u'.ins = u.ins) : UnitHd t' u' ↔ ((0 ≤ u.params ∧ u.params ≤ 6 ∧ u.params ≤ (u.vars.length : Int) ∧ u.vars.length ≤ 4000) ∧ Entries t u.vars ∧ (u.result = -3 ∨ IsEntry t u.result) ∧ u.ins ≠ [] ∧
  (Rise u'.takes ∧ ∀ c ∈ u'.takes, c ∈ outOf t u) ∧ (Rise u'.owns ∧ ∀ c ∈ u'.owns, IsClass t c ∧ c ∉ outOf t u ∧ c ∉ glob t) ∧ (lastOp u = 16 ∨ lastOp u = 17 ∨ lastOp u = 18)) := by
  have hl : lastOp u' = lastOp u := by unfold lastOp; rw [hi]
  have ho := like_out h hs
  simp only [sig, Prod.mk.injEq] at hs
  unfold UnitHd Entries IsEntry IsClass
  rw [h.classes, like_glob h, ho, hl, hi, hs.1, hs.2.1, hs.2.2]
/-- One unit otherwise. -/
def swapU (t : RTg) (k : Nat) (u' : Unt) : RTg := { t with units := t.units.set k u' }
theorem swap_get {t : RTg} {k : Nat} {u u' : Unt} (hu : t.units[k]? = some u) : (t.units.set k u')[k]? = some u' := by
  rw [List.getElem?_set_self (List.getElem?_eq_some_iff.1 hu).1]
theorem swap_like {t : RTg} {k : Nat} {u u' : Unt} (hu : t.units[k]? = some u) (hs : sig u' = sig u) : Like t (swapU t k u') := by
  refine ⟨rfl, rfl, rfl, fun n => ?_⟩
  show (gt (t.units.set k u') n).map sig = _
  unfold gt
  split
  · by_cases e : n.toNat = k
    · rw [e, swap_get hu, hu, Option.map_some, Option.map_some, hs]
    · rw [List.getElem?_set_ne (by omega)]
  · rfl
theorem swap_sum {l : List Unt} {k : Nat} {u u' : Unt} (hu : l[k]? = some u) (hi : u'.ins = u.ins) : insOf (l.set k u') = insOf l := by
  unfold insOf
  rw [List.map_set]
  congr 1
  apply List.ext_getElem?
  intro j
  by_cases e : j = k
  · subst e; rw [List.getElem?_set_self (by rw [List.length_map]; exact (List.getElem?_eq_some_iff.1 hu).1), List.getElem?_map, hu, Option.map_some, hi]
  · rw [List.getElem?_set_ne (by omega)]
theorem swap_mem {l : List Unt} {k : Nat} {u u' x : Unt} (_ : l[k]? = some u) (hx : x ∈ l.set k u') : x = u' ∨ x ∈ l := (List.mem_or_eq_of_mem_set hx).symm
/-- What it comes to, when all was right before. -/
theorem right_swap {t : RTg} (ht : RightP t) {k : Nat} {u u' : Unt} (hu : t.units[k]? = some u) (hs : sig u' = sig u) (hi : u'.ins = u.ins) (ho : ∀ x ∈ u.owns, x ∈ u'.owns) :
    RightP (swapU t k u') ↔ (Rise u'.takes ∧ ∀ c ∈ u'.takes, c ∈ outOf t u) ∧ (Rise u'.owns ∧ ∀ c ∈ u'.owns, IsClass t c ∧ c ∉ outOf t u ∧ c ∉ glob t) := by
  have hl := swap_like hu hs
  have hm := List.mem_of_getElem? hu
  obtain ⟨h0, h1, h2, h3, h4, h5⟩ := ht
  have hd := like_head hl hs hi
  constructor
  · intro h
    have hh := (h.2.2.2.2.2 u' (List.mem_of_getElem? (swap_get hu))).1
    have := hd.1 hh
    exact ⟨this.2.2.2.2.1, this.2.2.2.2.2.1⟩
  · rintro ⟨q1, q2⟩
    have hu0 := h5 u hm
    refine ⟨⟨h0.1, h0.2.1, ?_, ?_⟩, ?_, ?_, ?_, ?_, fun x hx => ?_⟩
    · show (t.units.set k u').length ≠ 0; rw [List.length_set]; exact h0.2.2.1
    · show (t.units.set k u').length ≤ 16; rw [List.length_set]; exact h0.2.2.2
    · have e := hl.units t.main
      unfold MainOk at h1 ⊢
      show match gt (t.units.set k u') t.main with | some u => u.params = 0 ∧ u.result = -3 | none => False
      have e : (gt (t.units.set k u') t.main).map sig = (gt t.units t.main).map sig := e
      cases g1 : gt t.units t.main <;> cases g2 : gt (t.units.set k u') t.main <;> rw [g1, g2] at e <;> simp only [Option.map_none, Option.map_some, reduceCtorEq, Option.some.injEq, sig, Prod.mk.injEq] at e
      · rw [g1] at h1; exact h1
      · rw [g1] at h1
        simp only at h1 ⊢
        exact ⟨e.1.trans h1.1, e.2.2.trans h1.2⟩
    · exact h2
    · exact h3
    · show insOf (t.units.set k u') ≤ 16000; rw [swap_sum hu hi]; exact h4
    · rcases swap_mem hu hx with rfl | hx
      · have a := hu0.1
        refine ⟨hd.2 ⟨a.1, a.2.1, a.2.2.1, a.2.2.2.1, q1, q2, a.2.2.2.2.2.2⟩, fun i hi' => ?_⟩
        have := hu0.2 i (by rw [← hi]; exact hi')
        exact ⟨this.1, fits_up hl hs hi ho this.2⟩
      · have a := h5 x hx
        refine ⟨(like_head hl (u := x) (u' := x) rfl rfl).2 a.1, fun i hi' => ?_⟩
        have := a.2 i hi'
        exact ⟨this.1, fits_up hl rfl rfl (fun _ h => h) this.2⟩
theorem swap_small {t : RTg} (h : Small t) {k : Nat} {u u' : Unt} (hu : t.units[k]? = some u) (hs : sig u' = sig u) (hi : u'.ins = u.ins) : Small (swapU t k u') := by
  refine ⟨h.classes, h.refs, h.globals, ?_, fun x hx => ?_⟩
  · show (t.units.set k u').length ≤ _; rw [List.length_set]; exact h.units
  · rcases swap_mem hu hx with rfl | hx
    · simp only [sig, Prod.mk.injEq] at hs
      rw [hs.2.1, hi]; exact h.unit u (List.mem_of_getElem? hu)
    · exact h.unit x hx
/-- With one more for its own: just if it does not come from outside. -/
theorem right_owns {t : RTg} (ht : RightP t) {k : Nat} {u : Unt} (hu : t.units[k]? = some u) (c : Int) : RightP (swapU t k { u with owns := put u.owns c }) ↔ IsClass t c ∧ c ∉ outOf t u ∧ c ∉ glob t := by
  have hu0 := (ht.2.2.2.2.2 u (List.mem_of_getElem? hu)).1
  rw [right_swap ht hu (u' := { u with owns := put u.owns c }) rfl rfl (fun x hx => put_mem.2 (.inr hx))]
  constructor
  · intro h; exact h.2.2 c (put_mem.2 (.inl rfl))
  · intro h
    refine ⟨hu0.2.2.2.2.1, hu0.2.2.2.2.2.1.1.put c, fun x hx => ?_⟩
    rcases put_mem.1 hx with rfl | hx
    · exact h
    · exact hu0.2.2.2.2.2.1.2 x hx
theorem right_takes {t : RTg} (ht : RightP t) {k : Nat} {u : Unt} (hu : t.units[k]? = some u) (c : Int) : RightP (swapU t k { u with takes := put u.takes c }) ↔ c ∈ outOf t u := by
  have hu0 := (ht.2.2.2.2.2 u (List.mem_of_getElem? hu)).1
  rw [right_swap ht hu (u' := { u with takes := put u.takes c }) rfl rfl (fun x hx => hx)]
  constructor
  · intro h; exact h.1.2 c (put_mem.2 (.inl rfl))
  · intro h
    refine ⟨⟨hu0.2.2.2.2.1.1.put c, fun x hx => ?_⟩, hu0.2.2.2.2.2.1⟩
    rcases put_mem.1 hx with rfl | hx
    · exact h
    · exact hu0.2.2.2.2.1.2 x hx
theorem right_less {t : RTg} (ht : RightP t) {k : Nat} {u : Unt} (hu : t.units[k]? = some u) (p : Int → Bool) : RightP (swapU t k { u with takes := u.takes.filter p }) := by
  have hu0 := (ht.2.2.2.2.2 u (List.mem_of_getElem? hu)).1
  rw [right_swap ht hu (u' := { u with takes := u.takes.filter p }) rfl rfl (fun x hx => hx)]
  exact ⟨⟨hu0.2.2.2.2.1.1.filter p, fun x hx => hu0.2.2.2.2.1.2 x (List.mem_filter.1 hx).1⟩, hu0.2.2.2.2.2.1⟩
end Go.RtM
/- The walks over put and Put of the reference of chapter 15. -/
namespace Go.Proofs.Ytfhbainbmipddaa
open Go Go.RR Go.RX Go.GX Go.RiseM
attribute [local irreducible] wpList Code.wp wpPlan Exit.then Exit.inBlock bodyPost NoPanic Went GX.Post GX.Again GX.Meet GX.RowR GX.Own GX.Owns GX.Box GX.Sl GX.Pt GX.Ag GX.MapR GX.Kept GX.Pin wpT GoK AtEnd Both

theorem put_spec (ao : Option Addr) (cap : Nat) (l : List Int) (v : Int) (hl : Rise l) (hm : l.length ≤ 100000) : Does Try.prog 40 [.slice ao l.length cap, .int .i64 v] [Sl Ty.int ao cap l] []
    (fun s : Option Addr × Nat => .slice s.1 (put l v).length s.2) (fun s => [Sl Ty.int s.1 s.2 (put l v)]) (fun _ => []) := by
  refine enter Try.func40 rfl Try.ntmps40 rfl fun b => ?_
  refine GX.wR ?_; intros
  refine GX.loop (σ := Nat) (fun i => [(0, .slice ao l.length cap), (1, .int .i64 v), (5, .int .i64 (i : Int))]) (fun _ => []) (fun _ => [])
    (fun i => i ≤ l.length ∧ ∀ x ∈ l.take i, x < v) (fun i => l.length - i) 0 ⟨rfl, rfl, rfl, trivial⟩ ⟨by omega, by simp⟩ (fun i hi => ?_)
  obtain ⟨hi, hn⟩ := hi
  have fin : (∀ x ∈ l.drop i, v < x) → (l.take (i : Int).toNat ++ [v]) ++ l.drop (i : Int).toNat = put l v := fun h => by
    rw [put_at hl hn h, Int.toNat_natCast]; simp
  have ht : (l.take (i : Int).toNat).length ≤ 100000 := by rw [List.length_take]; omega
  have hd : (l.drop (i : Int).toNat).length ≤ 100000 := by rw [List.length_drop]; omega
  by_cases hlt : i < l.length
  · obtain ⟨x, hx⟩ := get_lt hlt
    by_cases h1 : x < v
    · refine GX.wR ?_; intros
      refine again (i + 1) ⟨rfl, rfl, rfl, trivial⟩ ⟨by omega, fun y hy => ?_⟩ (by omega)
      rw [List.take_add_one, hx, List.mem_append] at hy
      rcases hy with hy | hy
      · exact hn y hy
      · simp at hy; subst hy; exact h1
    · by_cases h2 : x = v
      · have e : put l v = l := by unfold put; rw [if_pos (h2 ▸ List.mem_of_getElem? hx)]
        rw [e]
        refine GX.wR ?_; intros
        exact rt1 (ao, cap) rfl
      · have e := fin fun y hy => by
          obtain ⟨j, hj, rfl⟩ := List.mem_iff_getElem.1 hy
          rw [List.getElem_drop]
          obtain ⟨hx1, hx2⟩ := List.getElem?_eq_some_iff.1 hx
          by_cases e : j = 0
          · subst e; simp only [Nat.add_zero]; omega
          · have := List.pairwise_iff_getElem.1 hl i (i + j) hlt (by rw [List.length_drop] at hj; omega) (by omega)
            omega
        rw [← e]
        refine GX.wR ?_; intros
        refine GX.drawnT (fun j => !(List.contains [] j)) (.br [(0, true), (1, true), (2, true), (4, true), (7, true), (8, true), (9, true)] (.alt 3 (.lin [(5, false), (6, false), (10, false), (11, true)]) (.alt 5 (.lin [(3, false), (6, false), (10, false), (11, true)]) .nil))) (by kernel_rfl) (by kernel_rfl) ?_; intro wd F hW hR
        refine GX.wT ?_; intros
        refine GX.treeA ?_ ?_
        · refine GX.wT ?_; intros
          refine GX.wR ?_; intros
          refine GX.nmS 4 ?_; rintro a4 c4 rfl rfl
          refine frz a4 ?_
          exact rt1 (a4, c4) rfl
        · refine GX.wT ?_; intros
          refine GX.wR ?_; intros
          refine GX.nmS 4 ?_; rintro a4 c4 rfl rfl
          refine frz a4 ?_
          exact rt1 (a4, c4) rfl
  · have hil : i = l.length := by omega
    have e := fin fun y hy => by
      rw [List.drop_of_length_le (by omega)] at hy; simp at hy
    rw [← e]
    refine GX.wR ?_; intros
    refine GX.drawnT (fun j => !(List.contains [] j)) (.br [(0, true), (1, true), (2, true), (4, true), (7, true), (8, true), (9, true)] (.alt 3 (.lin [(5, false), (6, false), (10, false), (11, true)]) (.alt 5 (.lin [(3, false), (6, false), (10, false), (11, true)]) .nil))) (by kernel_rfl) (by kernel_rfl) ?_; intro wd F hW hR
    refine GX.wT ?_; intros
    refine GX.treeA ?_ ?_
    · refine GX.wT ?_; intros
      refine GX.wR ?_; intros
      refine GX.nmS 4 ?_; rintro a4 c4 rfl rfl
      refine frz a4 ?_
      exact rt1 (a4, c4) rfl
    · refine GX.wT ?_; intros
      refine GX.wR ?_; intros
      refine GX.nmS 4 ?_; rintro a4 c4 rfl rfl
      refine frz a4 ?_
      exact rt1 (a4, c4) rfl

theorem putw_spec (ao : Option Addr) (cap : Nat) (l : List Int) (v : Int) (hl : Rise l) (hm : l.length ≤ 100000) : Does Try.prog 22 [.slice ao l.length cap, .int .i64 v] [Sl Ty.int ao cap l] []
    (fun s : Option Addr × Nat => .slice s.1 (put l v).length s.2) (fun s => [Sl Ty.int s.1 s.2 (put l v)]) (fun _ => []) := by
  refine enter Try.func22 rfl Try.ntmps22 rfl fun b => ?_
  refine GX.wR ?_; intros
  refine GX.o (cl (put_spec ao cap l v hl hm) fun s => ?_)
  refine GX.wR ?_; intros
  exact rt1 s rfl

end Go.Proofs.Ytfhbainbmipddaa
