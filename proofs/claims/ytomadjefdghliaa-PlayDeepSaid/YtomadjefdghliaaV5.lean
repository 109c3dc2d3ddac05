import Derived.Test.YtomadjefdghliaaV4
/- What is read, and how, by the facts at hand. No program in sight. -/
namespace Go.GX
open Go Go.RowKit Go.RR Go.RX

section
variable {P : Program} {n : Nat} {env : Env} {b : Base} {ps : List Pf} {hp : List Res} {Q : Exit → Act → World → Prop} {K : Act → World → Prop}

/-- A value that is the same whichever state it is. -/
def RdV (P : Program) (n : Nat) (env : Env) (ps : List Pf) (hp : List Res) (op : Op) (v : Value) : Prop :=
  ∀ (F : Nat → Prop) (w : World), AllP F w ps → AllR F w hp → Soft P n env (fun w' => Agree (fun k => F k ∨ feet hp k) w w') op v
theorem rdv {d : Nat} {p : Op} {ty : TypeId} {pos : String} {aft : Array Edge} {gd : Option (Nat × Bool)} {v : Value} (hr : RdV P n env ps hp p v) (hd : Nat.blt d n = true) (h : G n ((d, v) :: env) b ps hp K) :
    GO P n env b ps hp ⟨some d, p, ty, pos, aft, gd⟩ K Q := by
  constructor
  rintro w ⟨F, s⟩
  exact RX.soft (v := v) (fun a ha o ho w' hw => hr F w s.fs s.rs a ha o ho w' (by subst hw; exact Agree.refl _ _)) hd (h.run w ⟨F, s⟩)
theorem RdV.of_soft {op : Op} {v : Value} (h : ∀ S, Soft P n env S op v) : RdV P n env ps hp op v := fun _ _ _ _ => h _

theorem look_sub {α β : Type} {e : Ty α} {f : Ty β} {bl o' off : Nat} {y : α} {get : α → β} {put : β → α → α} [hl : Look bl o' ps hp e off y] [hs : Sub e off f get put] {F : Nat → Prop} {w : World} (h1 : AllP F w ps) (h2 : AllR F w hp) :
    ∃ c, CellsAt w bl o' c ∧ f.rd F w c (get y) ∧ (F bl ∨ feet hp bl) := by
  obtain ⟨o, cs, rfl, h3, h4, h5⟩ := hl.look h1 h2
  refine ⟨_, fun j c hj => ?_, hs.get h4, h5⟩
  rw [List.getElem?_take] at hj
  split at hj
  · rw [List.getElem?_drop] at hj
    have := h3 (off + j) c hj
    rwa [← Nat.add_assoc] at this
  · cases hj

section loads
variable {α : Type} {e : Ty α} {bl o' off : Nat} {y : α} {t : TypeId} {x : Operand}
theorem ld_num {k : IntKind} {get : α → Int} {put : Int → α → α} [UOne P t] [Look bl o' ps hp e off y] [Sub e off (Ty.num k) get put] (hx : ev env x = some (.pointer (some ⟨bl, o', none⟩))) : RdV P n env ps hp (.load t x) (.int k (get y)) := fun F w h1 h2 => by
  obtain ⟨c, h3, h4, h5⟩ := look_sub (e := e) (f := Ty.num k) (bl := bl) (o' := o') (y := y) (get := get) (put := put) h1 h2
  have h4 : c = [.int k (get y)] := h4
  subst h4
  exact RX.load hx (fun w' ha => ha.cell h5 (h3 0 _ rfl))
theorem ld_bool {get : α → Bool} {put : Bool → α → α} [UOne P t] [Look bl o' ps hp e off y] [Sub e off Ty.bool get put] (hx : ev env x = some (.pointer (some ⟨bl, o', none⟩))) : RdV P n env ps hp (.load t x) (.bool (get y)) := fun F w h1 h2 => by
  obtain ⟨c, h3, h4, h5⟩ := look_sub (e := e) (f := Ty.bool) (bl := bl) (o' := o') (y := y) (get := get) (put := put) h1 h2
  have h4 : c = [.bool (get y)] := h4
  subst h4
  exact RX.load hx (fun w' ha => ha.cell h5 (h3 0 _ rfl))
theorem ld_slice {β : Type} {g : Ty β} {get : α → List β} {put : List β → α → α} [UOne P t] [Look bl o' ps hp e off y] [Sub e off (Ty.slice g) get put] (hx : ev env x = some (.pointer (some ⟨bl, o', none⟩))) :
    Rd P n env ps hp (.load t x) (fun i : { i : Option Addr × Nat // (get y).length ≤ i.2 ∧ i.2 ≤ 9223372036854775807 } => .slice i.1.1 (get y).length i.1.2) (fun i => [Sl g i.1.1 i.1.2 (get y)]) := fun F w h1 h2 => by
  obtain ⟨c, h3, h4, h5⟩ := look_sub (e := e) (f := Ty.slice g) (bl := bl) (o' := o') (y := y) (get := get) (put := put) h1 h2
  obtain ⟨ao, cap, rfl, h6, h7, h8⟩ := h4
  refine ⟨⟨(ao, cap), h6, h7⟩, ?_, RX.load hx (fun w' ha => ha.cell h5 (h3 0 _ rfl))⟩
  intro p hp
  rcases List.mem_cons.1 hp with rfl | hp
  · exact ⟨h6, h7, h8⟩
  · simp at hp
theorem ld_hdr {get : α → Option Addr × Nat × Nat} {put : Option Addr × Nat × Nat → α → α} [UOne P t] [Look bl o' ps hp e off y] [Sub e off Ty.hdr get put] (hx : ev env x = some (.pointer (some ⟨bl, o', none⟩))) : RdV P n env ps hp (.load t x) (.slice (get y).1 (get y).2.1 (get y).2.2) := fun F w h1 h2 => by
  obtain ⟨c, h3, h4, h5⟩ := look_sub (e := e) (f := Ty.hdr) (bl := bl) (o' := o') (y := y) (get := get) (put := put) h1 h2
  have h4 : c = [.slice (get y).1 (get y).2.1 (get y).2.2] := h4
  subst h4
  exact RX.load hx (fun w' ha => ha.cell h5 (h3 0 _ rfl))
theorem run_loadAgg [h : UAgg P t] {sz : Nat} [hs : USize P t sz] {cs : List Value} {S : World → Prop} (hx : ev env x = some (.pointer (some ⟨bl, o', none⟩))) (hl : cs.length = sz) (hc : ∀ w, S w → CellsAt w bl o' cs) : Soft P n env S (.load t x) (.agg cs.toArray) := fun a ha o' ho w hw => by
  subst hl
  have := run_loadCells_list (P := P) w ⟨bl, _, none⟩ cs (fun j v hj => by rw [Addr.add_lit]; exact hc w hw j v hj)
  simp [execOp, ho, ha.ev hx, Instr.loadAt, Instr.sureAddr, loadVar, h.a, hs.s, this]
theorem ld_agg {β : Type} {f : Ty β} {get : α → β} {put : β → α → α} {sz : Nat} [UAgg P t] [USize P t sz] [Look bl o' ps hp e off y] [hS : SubS e off f get put] (hx : ev env x = some (.pointer (some ⟨bl, o', none⟩))) (hsz : f.size = sz) :
    Rd P n env ps hp (.load t x) (fun cs : List Value => .agg cs.toArray) (fun cs => [Ag f cs (get y)]) := fun F w h1 h2 => by
  have := hS.s
  obtain ⟨c, h3, h4, h5⟩ := look_sub (e := e) (f := f) (bl := bl) (o' := o') (y := y) (get := get) (put := put) h1 h2
  refine ⟨c, ?_, run_loadAgg hx (by rw [f.len h4, hsz]) (fun w' ha => h3.move ha h5)⟩
  intro p hp
  rcases List.mem_cons.1 hp with rfl | hp
  · exact h4
  · simp at hp
theorem ld_agg0 {sz : Nat} [UAgg P t] [USize P t sz] [hl : Look bl o' ps hp e 0 y] (hx : ev env x = some (.pointer (some ⟨bl, o', none⟩))) (hsz : e.size = sz) :
    Rd P n env ps hp (.load t x) (fun cs : List Value => .agg cs.toArray) (fun cs => [Ag e cs y]) := fun F w h1 h2 => by
  obtain ⟨o, c, rfl, h3, h4, h5⟩ := hl.look h1 h2
  refine ⟨c, ?_, run_loadAgg hx (by rw [e.len h4, hsz]) (fun w' ha => h3.move ha h5)⟩
  intro p hp
  rcases List.mem_cons.1 hp with rfl | hp
  · exact h4
  · simp at hp
theorem ld_row {i : Nat} {v : Value} {te : TypeId} {vs : List Value} {rest : List Res} [UOne P t] [hf : FRow bl hp te vs rest] (hx : ev env x = some (.pointer (some ⟨bl, i, none⟩))) (hv : vs[i]? = some v) : RdV P n env ps hp (.load t x) v := fun F w h1 h2 => by
  have hm := hf.p.mem_iff.2 List.mem_cons_self
  have hr : Row w bl te vs := h2 _ hm
  exact RX.load hx (fun w' ha => ha.cell (.inr ⟨_, hm, rfl⟩) (hr.cell_some hv))
end loads

/-- The cells of element i of a slice of one's own. -/
theorem own_cells {α : Type} {e : Ty α} {g cap : Nat} {xs : List α} {te : TypeId} {rest : List Res} [hf : FOwn (some ⟨g, 0, none⟩) hp te e cap xs rest] {F : Nat → Prop} {w : World} (h2 : AllR F w hp) {i : Nat} {x : α} (hx : xs[i]? = some x) :
    ∃ cs, CellsAt w g (i * e.size) cs ∧ e.rd F w cs x ∧ feet hp g := by
  have hm := hf.p.mem_iff.2 List.mem_cons_self
  obtain ⟨cs, ho, he⟩ : (Own te e (some ⟨g, 0, none⟩) cap xs).says F w := h2 _ hm
  obtain ⟨m, h3, h4⟩ := he.cells hx
  refine ⟨m, fun j c hj => ?_, h3, ⟨_, hm, rfl⟩⟩
  have := ho.cells (g := g) rfl _ _ (h4 j c hj)
  rwa [Addr.add_lit, Nat.zero_add] at this
section own
variable {α : Type} {e : Ty α} {g cap i : Nat} {xs : List α} {x0 : α} {te t : TypeId} {x : Operand} {rest : List Res}
theorem lo_num {k : IntKind} {get : α → Int} {put : Int → α → α} {off : Nat} [UOne P t] [FOwn (some ⟨g, 0, none⟩) hp te e cap xs rest] [hs : Sub e off (Ty.num k) get put] (hx : ev env x = some (.pointer (some ⟨g, i * e.size + off, none⟩))) (hi : xs[i]? = some x0) : RdV P n env ps hp (.load t x) (.int k (get x0)) := fun F w _ h2 => by
  obtain ⟨cs, h3, h4, h5⟩ := own_cells (te := te) (e := e) (g := g) (cap := cap) (rest := rest) h2 hi
  have h6 : (cs.drop off).take 1 = [.int k (get x0)] := hs.get h4
  have h7 : cs[off]? = some (.int k (get x0)) := by
    have := congrArg (·[0]?) h6
    simpa [List.getElem?_take, List.getElem?_drop] using this
  exact RX.load hx (fun w' ha => ha.cell (.inr h5) (h3 off _ h7))
theorem lo_bool {get : α → Bool} {put : Bool → α → α} {off : Nat} [UOne P t] [FOwn (some ⟨g, 0, none⟩) hp te e cap xs rest] [hs : Sub e off Ty.bool get put] (hx : ev env x = some (.pointer (some ⟨g, i * e.size + off, none⟩))) (hi : xs[i]? = some x0) : RdV P n env ps hp (.load t x) (.bool (get x0)) := fun F w _ h2 => by
  obtain ⟨cs, h3, h4, h5⟩ := own_cells (te := te) (e := e) (g := g) (cap := cap) (rest := rest) h2 hi
  have h6 : (cs.drop off).take 1 = [.bool (get x0)] := hs.get h4
  have h7 : cs[off]? = some (.bool (get x0)) := by
    have := congrArg (·[0]?) h6
    simpa [List.getElem?_take, List.getElem?_drop] using this
  exact RX.load hx (fun w' ha => ha.cell (.inr h5) (h3 off _ h7))
theorem lo_hdr {get : α → Option Addr × Nat × Nat} {put : Option Addr × Nat × Nat → α → α} {off : Nat} [UOne P t] [FOwn (some ⟨g, 0, none⟩) hp te e cap xs rest] [hs : Sub e off Ty.hdr get put] (hx : ev env x = some (.pointer (some ⟨g, i * e.size + off, none⟩))) (hi : xs[i]? = some x0) : RdV P n env ps hp (.load t x) (.slice (get x0).1 (get x0).2.1 (get x0).2.2) := fun F w _ h2 => by
  obtain ⟨cs, h3, h4, h5⟩ := own_cells (te := te) (e := e) (g := g) (cap := cap) (rest := rest) h2 hi
  have h6 : (cs.drop off).take 1 = [.slice (get x0).1 (get x0).2.1 (get x0).2.2] := hs.get h4
  have h7 : cs[off]? = some (.slice (get x0).1 (get x0).2.1 (get x0).2.2) := by
    have := congrArg (·[0]?) h6
    simpa [List.getElem?_take, List.getElem?_drop] using this
  exact RX.load hx (fun w' ha => ha.cell (.inr h5) (h3 off _ h7))
theorem lo_slice {β : Type} {f : Ty β} {get : α → List β} {put : List β → α → α} {off : Nat} [UOne P t] [FOwn (some ⟨g, 0, none⟩) hp te e cap xs rest] [hs : Sub e off (Ty.slice f) get put] (hx : ev env x = some (.pointer (some ⟨g, i * e.size + off, none⟩))) (hi : xs[i]? = some x0) :
    Rd P n env ps hp (.load t x) (fun i : { i : Option Addr × Nat // (get x0).length ≤ i.2 ∧ i.2 ≤ 9223372036854775807 } => .slice i.1.1 (get x0).length i.1.2) (fun i => [Sl f i.1.1 i.1.2 (get x0)]) := fun F w _ h2 => by
  obtain ⟨cs, h3, h4, h5⟩ := own_cells (te := te) (e := e) (g := g) (cap := cap) (rest := rest) h2 hi
  obtain ⟨ao, cap', h6, h8, h9, h10⟩ := hs.get h4
  have h6 : (cs.drop off).take 1 = [.slice ao (get x0).length cap'] := h6
  have h7 : cs[off]? = some (.slice ao (get x0).length cap') := by
    have := congrArg (·[0]?) h6
    simpa [List.getElem?_take, List.getElem?_drop] using this
  refine ⟨⟨(ao, cap'), h8, h9⟩, ?_, RX.load hx (fun w' ha => ha.cell (.inr h5) (h3 off _ h7))⟩
  intro p hp
  rcases List.mem_cons.1 hp with rfl | hp
  · exact ⟨h8, h9, h10⟩
  · simp at hp
theorem lo_agg {sz : Nat} [UAgg P t] [USize P t sz] [FOwn (some ⟨g, 0, none⟩) hp te e cap xs rest] (hx : ev env x = some (.pointer (some ⟨g, i * e.size, none⟩))) (hi : xs[i]? = some x0) (hsz : e.size = sz) :
    Rd P n env ps hp (.load t x) (fun cs : List Value => .agg cs.toArray) (fun cs => [Ag e cs x0]) := fun F w _ h2 => by
  obtain ⟨cs, h3, h4, h5⟩ := own_cells (te := te) (e := e) (g := g) (cap := cap) (rest := rest) h2 hi
  refine ⟨cs, ?_, run_loadAgg hx (by rw [e.len h4, hsz]) (fun w' ha => h3.move ha (.inr h5))⟩
  intro p hp
  rcases List.mem_cons.1 hp with rfl | hp
  · exact h4
  · simp at hp
end own

/-- The place of an element of a slice that stays. -/
theorem ix_sl {α : Type} {e : Ty α} {ao : Option Addr} {cap cap' : Nat} {xs : List α} {x0 : α} {t et : TypeId} {x y : Operand} {k : IntKind} {i : Int} {m : Nat} {sz : Nat} [USlice P t et] [USize P et sz] [hf : FSl ao ps e cap xs] (hx : ev env x = some (.slice ao m cap')) (hy : ev env y = some (.int k i))
    (hi : ∃ j : Nat, i = (j : Int) ∧ xs[j]? = some x0) (hm : m = xs.length) (hsz : e.size = sz) :
    Rd P n env ps hp (.indexAddr t x y) (fun i : Nat × Nat => .pointer (some ⟨i.1, i.2, none⟩)) (fun i => [Pt e i.1 i.2 x0]) := fun F w h1 h2 => by
  subst hm; subst hsz
  obtain ⟨j, rfl, hj⟩ := hi
  obtain ⟨_, _, hs⟩ : (Sl e ao cap xs).says F w := h1 _ hf.mem
  obtain ⟨b, o, cs, rfl, h3, h4, h5, h6⟩ := hs j x0 hj
  have hlt : j < xs.length := (List.getElem?_eq_some_iff.1 hj).1
  refine ⟨(b, o + j * e.size), ?_, RX.indexAddrS hx hy hlt⟩
  intro p hp
  rcases List.mem_cons.1 hp with rfl | hp
  · exact ⟨h3, h4, cs, h5, h6⟩
  · simp at hp

/-- The place of an element of a slice of one's own. -/
theorem ix_own {α : Type} {e : Ty α} {g cap cap' : Nat} {xs : List α} {x0 : α} {t et te : TypeId} {x y : Operand} {k : IntKind} {i : Int} {m j : Nat} {sz : Nat} {rest : List Res} [USlice P t et] [USize P et sz] [FOwn (some ⟨g, 0, none⟩) hp te e cap xs rest] (hx : ev env x = some (.slice (some ⟨g, 0, none⟩) m cap')) (hy : ev env y = some (.int k i))
    (hi : i = (j : Int) ∧ xs[j]? = some x0) (hm : m = xs.length) : RdV P n env ps hp (.indexAddr t x y) (.pointer (some ⟨g, j * sz, none⟩)) := fun F w h1 h2 => by
  subst hm
  obtain ⟨rfl, hj⟩ := hi
  have hlt : j < xs.length := (List.getElem?_eq_some_iff.1 hj).1
  have := RX.indexAddrS (P := P) (n := n) (env := env) (S := fun w' => Agree (fun k => F k ∨ feet hp k) w w') (t := t) hx hy hlt
  simpa using this
/-- A part of a slice that stays. -/
theorem sl_mid {α : Type} {e : Ty α} {F : Nat → Prop} {w : World} {ao : Option Addr} {xs : List α} (h : SlAt e F w ao xs) (l m : Nat) : SlAt e F w (ao.map (·.add (l * e.size))) ((xs.drop l).take m) := fun i x hx => by
  rw [List.getElem?_take] at hx
  split at hx
  · rw [List.getElem?_drop] at hx
    obtain ⟨b, o, cs, rfl, h2, h3, h4, h5⟩ := h (l + i) x hx
    refine ⟨b, o + l * e.size, cs, by rw [Option.map_some, Addr.add_lit], h2, h3, ?_, h5⟩
    rw [show o + l * e.size + i * e.size = o + (l + i) * e.size by rw [Nat.add_mul]; omega]; exact h4
  · cases hx
theorem sliceBound_run {k : IntKind} {i : Int} {y : Nat} {c : BoundsCode} {w : World} (h : 0 ≤ i ∧ i ≤ y) : (Instr.sliceBound (.int k i) y c).run P w = .ok i.toNat w := by
  simp [Instr.sliceBound, asIntOf, h]
section cutting
variable {α : Type} {e : Ty α} {ao : Option Addr} {cap m : Nat} {xs : List α} {t et : TypeId} {x y z : Operand} {k : IntKind} {i j : Int} {sz : Nat}
theorem mk_sl {F : Nat → Prop} {w : World} {ao' : Option Addr} {cap' : Nat} {ys : List α} (h1 : ys.length ≤ cap') (h2 : cap' ≤ 9223372036854775807) (h3 : SlAt e F w ao' ys) : AllP F w [Sl e ao' cap' ys] := by
  intro p hp
  rcases List.mem_cons.1 hp with rfl | hp
  · exact ⟨h1, h2, h3⟩
  · simp at hp
theorem nil_at {F : Nat → Prop} {w : World} {ao' : Option Addr} : SlAt e F w ao' [] := fun i x hx => by simp at hx
/-- 's[:j]'. -/
theorem sl_hi [ht : USlice P t et] [hs : USize P et sz] [hf : FSl ao ps e cap xs] (hx : ev env x = some (.slice ao m cap)) (hy : ev env y = some (.int k j)) (hm : m = xs.length) (hsz : e.size = sz) (hj : 0 ≤ j ∧ j ≤ m) :
    Rd P n env ps hp (.slice t x none (some y) none) (fun i : Option Addr => .slice i (xs.take j.toNat).length cap) (fun i => [Sl e i cap (xs.take j.toNat)]) := fun F w h1 h2 => by
  subst hm; subst hsz
  obtain ⟨hc, hb, hsl⟩ : (Sl e ao cap xs).says F w := h1 _ hf.mem
  have hl : (xs.take j.toNat).length = j.toNat := by rw [List.length_take]; omega
  refine ⟨if cap = 0 then ao else ao.map (·.add (0 * e.size)), mk_sl (by omega) hb ?_, fun a ha o ho w' _ => ?_⟩
  · have := sl_mid hsl 0 j.toNat
    rw [List.drop_zero] at this
    split
    · have : xs = [] := List.length_eq_zero_iff.1 (by omega)
      subst this; simp; exact nil_at
    · exact this
  · have hb1 := sliceBound_run (P := P) (k := k) (i := j) (y := cap) (c := .sliceAcap) (w := w') ⟨hj.1, by omega⟩
    simp [execOp, ho, ha.ev hx, ha.ev hy, Instr.sliceAt, Instr.slice, run_underlying ht.u, Instr.sliceBounds, hb1, hs.s, hl]
/-- 's[i:]'. -/
theorem sl_lo [ht : USlice P t et] [hs : USize P et sz] [hf : FSl ao ps e cap xs] (hx : ev env x = some (.slice ao m cap)) (hy : ev env y = some (.int k i)) (hm : m = xs.length) (hsz : e.size = sz) (hi : 0 ≤ i ∧ i ≤ m) :
    Rd P n env ps hp (.slice t x (some y) none none) (fun q : Option Addr => .slice q (xs.drop i.toNat).length (cap - i.toNat)) (fun q => [Sl e q (cap - i.toNat) (xs.drop i.toNat)]) := fun F w h1 h2 => by
  subst hm; subst hsz
  obtain ⟨hc, hb, hsl⟩ : (Sl e ao cap xs).says F w := h1 _ hf.mem
  have hl : (xs.drop i.toNat).length = xs.length - i.toNat := by rw [List.length_drop]
  refine ⟨if cap = i.toNat then ao else ao.map (·.add (i.toNat * e.size)), mk_sl (by omega) (by omega) ?_, fun a ha o ho w' _ => ?_⟩
  · have := sl_mid hsl i.toNat (xs.length)
    rw [List.take_of_length_le (by rw [hl]; omega)] at this
    split
    · have : xs.drop i.toNat = [] := List.length_eq_zero_iff.1 (by omega)
      rw [this]; exact nil_at
    · exact this
  · have hb1 := sliceBound_run (P := P) (k := k) (i := i) (y := xs.length) (c := .sliceB) (w := w') ⟨hi.1, by omega⟩
    simp [execOp, ho, ha.ev hx, ha.ev hy, Instr.sliceAt, Instr.slice, run_underlying ht.u, Instr.sliceBounds, hb1, hs.s, hl]
/-- 's[i:j]'. -/
theorem sl_lh {k2 : IntKind} [ht : USlice P t et] [hs : USize P et sz] [hf : FSl ao ps e cap xs] (hx : ev env x = some (.slice ao m cap)) (hy : ev env y = some (.int k i)) (hz : ev env z = some (.int k2 j)) (hm : m = xs.length) (hsz : e.size = sz) (hi : 0 ≤ i ∧ i ≤ j ∧ j ≤ m) :
    Rd P n env ps hp (.slice t x (some y) (some z) none) (fun q : Option Addr => .slice q ((xs.drop i.toNat).take (j.toNat - i.toNat)).length (cap - i.toNat)) (fun q => [Sl e q (cap - i.toNat) ((xs.drop i.toNat).take (j.toNat - i.toNat))]) := fun F w h1 h2 => by
  subst hm; subst hsz
  obtain ⟨hc, hb, hsl⟩ : (Sl e ao cap xs).says F w := h1 _ hf.mem
  have hl : ((xs.drop i.toNat).take (j.toNat - i.toNat)).length = j.toNat - i.toNat := by rw [List.length_take, List.length_drop]; omega
  refine ⟨if cap = i.toNat then ao else ao.map (·.add (i.toNat * e.size)), mk_sl (by omega) (by omega) ?_, fun a ha o ho w' _ => ?_⟩
  · have := sl_mid hsl i.toNat (j.toNat - i.toNat)
    split
    · have : (xs.drop i.toNat).take (j.toNat - i.toNat) = [] := List.length_eq_zero_iff.1 (by omega)
      rw [this]; exact nil_at
    · exact this
  · have hb2 := sliceBound_run (P := P) (k := k2) (i := j) (y := cap) (c := .sliceAcap) (w := w') ⟨by omega, by omega⟩
    have hb1 := sliceBound_run (P := P) (k := k) (i := i) (y := j.toNat) (c := .sliceB) (w := w') ⟨hi.1, by omega⟩
    simp [execOp, ho, ha.ev hx, ha.ev hy, ha.ev hz, Instr.sliceAt, Instr.slice, run_underlying ht.u, Instr.sliceBounds, hb1, hb2, hs.s, hl]
end cutting
end
end Go.GX

/- What makes and what turns things of one's own. No program in sight. -/
namespace Go.GX
open Go Go.RowKit Go.RR Go.RX

/-- How a program's type reads, and what its zero value reads as. -/
class UTy (P : Program) (t : TypeId) {α : outParam Type} (e : outParam (Ty α)) (z : outParam α) (zv : outParam Value) : Prop where
  zero : ∀ w, (zeroValue t).run P w = .ok zv w
  rd : ∀ F w, e.rd F w zv.cells.toList z

section
variable {P : Program} {n : Nat} {env : Env} {b : Base} {ps : List Pf} {hp : List Res} {Q : Exit → Act → World → Prop} {K : Act → World → Prop}

/-- What is left behind an operation. -/
theorem mkOk {F : Nat → Prop} {hp1 : List Res} {w w' : World} {pf : List Pf} {hr : List Res} (s : St b F ps hp1 w) (hu : Upd (feet hp1) w w') (X : Nat → Prop) (hX1 : ∀ k, X k → k < w'.heap.size) (hX2 : ∀ k, X k → k < w.heap.size → feet hp1 k)
    (h1 : AllP (fun k => F k ∨ X k) w' pf) (h2 : AllR (fun k => F k ∨ X k) w' hr) (h3 : ∀ r ∈ hr, ∀ k, r.on k → ¬ X k) (h4 : hr.Pairwise Apart) (h5 : ∀ r ∈ hr, ∀ k, r.on k → k < w.heap.size → feet hp1 k) : Ok ⟨w, feet hp1, F⟩ pf hr w' := by
  refine ⟨fun k => F k ∨ X k, hu, ?_, ?_, h1, h2, ?_, h4, h5⟩
  · rintro k (hk | hk)
    · exact Nat.lt_of_lt_of_le (s.lt k hk) hu.size
    · exact hX1 k hk
  · rintro k (hk | hk) hlt
    · exact .inl hk
    · exact .inr (hX2 k hk hlt)
  · rintro r hr' k hk (hf | hx)
    · obtain ⟨r1, hr1, hk1⟩ := h5 r hr' k hk (s.lt k hf)
      exact s.apF r1 hr1 k hk1 hf
    · exact h3 r hr' k hk hx
theorem agF {F : Nat → Prop} {hp1 : List Res} {w w' : World} (s : St b F ps hp1 w) (hu : Upd (feet hp1) w w') : Agree F w w' := Agree.of_upd hu (fun k _ hf ⟨r, hr, hk⟩ => s.apF r hr k hk hf)
theorem upd0 {w w' : World} (h : Upd (fun _ => False) w w') : Upd (feet []) w w' := h.mono (fun _ _ h => h.elim)
theorem one_p {F : Nat → Prop} {w : World} {p : Pf} (h : p.says F w) : AllP F w [p] := fun q hq => by
  rcases List.mem_cons.1 hq with rfl | hq
  · exact h
  · simp at hq
theorem one_r {F : Nat → Prop} {w : World} {p : Res} (h : p.says F w) : AllR F w [p] := fun q hq => by
  rcases List.mem_cons.1 hq with rfl | hq
  · exact h
  · simp at hq
theorem no_p {F : Nat → Prop} {w : World} : AllP F w [] := fun q hq => by simp at hq
theorem no_r {F : Nat → Prop} {w : World} : AllR F w [] := fun q hq => by simp at hq
theorem in_one {p q : Res} {C : Res → Prop} (h : C p) (hq : q ∈ [p]) : C q := by
  rcases List.mem_cons.1 hq with rfl | hq
  · exact h
  · simp at hq
/-- One thing turned into one. -/
theorem mkOk1 {F : Nat → Prop} {r r' : Res} {w w' : World} (s : St b F ps [r] w) (hu : Upd r.on w w') (h2 : r'.says F w') (h5 : ∀ k, r'.on k → k < w.heap.size → r.on k) : Ok ⟨w, feet [r], F⟩ [] [r'] w' := by
  refine mkOk s (hu.mono fun k _ hk => ⟨r, by simp, hk⟩) (fun _ => False) (fun k h => h.elim) (fun k h => h.elim) no_p (one_r (r'.move h2 (fun _ _ h => .inl h) (Agree.refl _ _) (Agree.refl _ _))) (fun _ _ _ _ h => h) (by simp) ?_
  intro q hq k hk hlt
  exact ⟨r, by simp, in_one (C := fun q => q.on k → r.on k) (fun h => h5 k h hlt) hq hk⟩
/-- Something new of one's own. -/
theorem mkOkN {F : Nat → Prop} {r' : Res} {w w' : World} (s : St b F ps [] w) (hu : Upd (fun _ => False) w w') (h2 : r'.says F w') (h5 : ∀ k, r'.on k → w.heap.size ≤ k) : Ok ⟨w, feet [], F⟩ [] [r'] w' := by
  refine mkOk s (upd0 hu) (fun _ => False) (fun k h => h.elim) (fun k h => h.elim) no_p (one_r (r'.move h2 (fun _ _ h => .inl h) (Agree.refl _ _) (Agree.refl _ _))) (fun _ _ _ _ h => h) (by simp) ?_
  intro q hq k hk hlt
  have := in_one (C := fun q => q.on k → w.heap.size ≤ k) (h5 k) hq hk
  omega
/-- A new fact. -/
theorem mkOkF {F : Nat → Prop} {p : Pf} {w w' : World} {bl : Nat} (s : St b F ps [] w) (hu : Upd (fun _ => False) w w') (hb : w.heap.size ≤ bl) (hl : bl < w'.heap.size) (h2 : p.says (fun k => F k ∨ k = bl) w') : Ok ⟨w, feet [], F⟩ [p] [] w' :=
  mkOk s (upd0 hu) (fun k => k = bl) (fun k h => by omega) (fun k h h2 => by omega) (one_p h2) no_r (by simp) (by simp) (by simp)

theorem Acts.use {o : Oper} {ι : Type} {val : ι → Value} {pf : ι → List Pf} {hr : ι → List Res} {hp1 rest : List Res} (ha : Acts P n env ps hp1 o val pf hr) (hl : hp.Perm (hp1 ++ rest))
    (h : ∀ i, G n (match o.dst with | some d => (d, val i) :: env | none => env) b (pf i ++ ps) (hr i ++ rest) K) : GO P n env b ps hp o K Q := act ha hl h

section making
variable {d : Nat} {ty : TypeId} {pos : String} {aft : Array Edge} {gd : Option (Nat × Bool)} {t : TypeId} {x y : Operand} {α : Type} {e : Ty α}
/-- A struct is laid down, to be read. -/
theorem bxF {cs : List Value} {y : α} (h : ∀ bl, G n ((d, .pointer (some ⟨bl, 0, none⟩)) :: env) b (Pt e bl 0 y :: ps) hp K) (hx : ev env x = some (.agg cs.toArray) := by exact rfl) (hf : FAg cs ps e y := by exact inferInstance) (hd : Nat.blt d n = true := by exact rfl) : GO P n env b ps hp ⟨some d, .box t x, ty, pos, aft, gd⟩ K Q := by
  refine Acts.use (hp1 := []) (rest := hp) (ι := Nat) (val := fun bl => .pointer (some ⟨bl, 0, none⟩)) (pf := fun bl => [Pt e bl 0 y]) (hr := fun _ => []) ?_ (List.Perm.refl _) h
  intro F w K Q b s hk
  refine RX.box hx hd (fun bl w' hb hr hu => hk bl w' (mkOkF s hu hb hr.lt ?_))
  have hrd : e.rd F w cs y := s.fs _ hf.mem
  have hr : Row w' bl t cs := by simpa [Value.cells] using hr
  exact ⟨.inr rfl, hr.lt, cs, fun j c hj => by rw [Nat.zero_add]; exact hr.cell_some hj, e.move hrd (fun _ _ h => .inl h) (agF s (upd0 hu))⟩
/-- Any value, as a row of cells. -/
theorem bxR {v : Value} {vs : List Value} (h : ∀ bl, G n ((d, .pointer (some ⟨bl, 0, none⟩)) :: env) b ps (RowR bl t vs :: hp) K) (hx : ev env x = some v := by exact rfl) (hv : v.cells.toList = vs := by exact rfl) (hd : Nat.blt d n = true := by exact rfl) : GO P n env b ps hp ⟨some d, .box t x, ty, pos, aft, gd⟩ K Q := by
  subst hv
  refine Acts.use (hp1 := []) (rest := hp) (ι := Nat) (val := fun bl => .pointer (some ⟨bl, 0, none⟩)) (pf := fun bl => []) (hr := fun bl => [RowR bl t v.cells.toList]) ?_ (List.Perm.refl _) h
  intro F w K Q b s hk
  exact RX.box hx hd (fun bl w' hb hr hu => hk bl w' (mkOkN s hu hr (fun k hk => by have hk : k = bl := hk; omega)))
/-- A new variable, zero. -/
theorem al {z : α} {zv : Value} [hz : UTy P t e z zv] (h : ∀ bl, G n ((d, .pointer (some ⟨bl, 0, none⟩)) :: env) b ps (Box t e bl z :: hp) K) (hd : Nat.blt d n = true := by exact rfl) : GO P n env b ps hp ⟨some d, .alloc t, ty, pos, aft, gd⟩ K Q := by
  refine Acts.use (hp1 := []) (rest := hp) (ι := Nat) (val := fun bl => .pointer (some ⟨bl, 0, none⟩)) (pf := fun bl => []) (hr := fun bl => [Box t e bl z]) ?_ (List.Perm.refl _) h
  intro F w K Q b s hk
  have hv := hz.zero w
  refine RX.eff (v := .pointer (some ⟨w.heap.size, 0, none⟩)) (w' := w.alloc (.cells zv.cells t)) (fun a ha => ?_) hd (hk w.heap.size _ (mkOkN s ((Upd.refl _ _).alloc _) ⟨_, Row.new w t zv.cells.toList, hz.rd _ _⟩ (fun k hk => by have hk : k = w.heap.size := hk; omega)))
  simp [execOp, Instr.alloc, hv, newVar, newRow]
theorem made_flat {zs : Array Value} {s : Nat} (hs : zs.size = s) (c : Nat) : (madeCells zs (c * s)).toList = (List.replicate c zs.toList).flatten := by
  subst hs
  induction c with
  | zero => simp [madeCells]
  | succ c ih =>
    rw [List.replicate_succ', List.flatten_append, ← ih]
    apply List.ext_getElem
    · simp [size_madeCells, Nat.add_mul]
    · intro j h1 h2
      simp only [madeCells, Array.toList_map, Array.toList_range, List.getElem_map, List.getElem_range]
      by_cases hj : j < c * zs.size
      · rw [List.getElem_append_left (by simpa using hj)]
        simp
      · rw [List.getElem_append_right (by simpa using hj)]
        simp [size_madeCells, Nat.add_mul] at h1
        obtain ⟨r, rfl⟩ := Nat.exists_eq_add_of_le (show c * zs.size ≤ j by omega)
        have hm : (c * zs.size + r) % zs.size = r := by rw [Nat.mul_comm, Nat.mul_add_mod, Nat.mod_eq_of_lt (by omega)]
        rw [hm, getElem!_pos zs r (by omega)]
        simp
theorem els_rep {z : α} {F : Nat → Prop} {w : World} {cs : List Value} (h : e.rd F w cs z) : ∀ c, Els e F w (List.replicate c cs).flatten (List.replicate c z)
  | 0 => rfl
  | c + 1 => by rw [List.replicate_succ, List.replicate_succ, List.flatten_cons]; exact ⟨_, _, rfl, h, els_rep h c⟩
/-- 'make([]T, n)'. -/
theorem mks {et : TypeId} {kx ky : IntKind} {c : Nat} {i : Int} {z : α} {zv : Value} {size bytes : Nat} [ht : USlice P t et] [hi : UElem P et zv size bytes] [hz : UTy P et e z zv] (h : ∀ bl, G n ((d, .slice (some ⟨bl, 0, none⟩) c c) :: env) b ps (Own et e (some ⟨bl, 0, none⟩) c (List.replicate c z) :: hp) K)
    (hx : ev env x = some (.int kx i) := by exact rfl) (hy : ev env y = some (.int ky i) := by exact rfl) (hi0 : i = (c : Int) := by first | rfl | omega) (hb : bytes * c ≤ 281474976710656 := by omega) (h63 : c ≤ 9223372036854775807 := by omega) (hsz : e.size = size := by exact rfl) (hzs : zv.cells.size = size := by exact rfl) (hd : Nat.blt d n = true := by exact rfl) :
    GO P n env b ps hp ⟨some d, .makeSlice t x y, ty, pos, aft, gd⟩ K Q := by
  subst hsz
  refine Acts.use (hp1 := []) (rest := hp) (ι := Nat) (val := fun bl => .slice (some ⟨bl, 0, none⟩) c c) (pf := fun bl => []) (hr := fun bl => [Own et e (some ⟨bl, 0, none⟩) c (List.replicate c z)]) ?_ (List.Perm.refl _) h
  intro F w K Q b s hk
  refine RX.make hx hy hi0 hb h63 hd (fun bl w' hbl hr hu => hk bl w' (mkOkN s hu ?_ (fun k hk => ?_)))
  · have hr : Row w' bl et (madeCells zv.cells (c * e.size)).toList := hr
    refine ⟨(madeCells zv.cells (c * e.size)).toList, ⟨by simp [size_madeCells], .inr ⟨bl, c, madeCells zv.cells (c * e.size), by simp, Nat.zero_le _, hr, by simp, by simp only [maxLen]; omega, by simp [size_madeCells], ?_⟩⟩, ?_⟩
    · rw [List.take_of_length_le (by simp [size_madeCells])]
    · rw [made_flat hzs]
      exact els_rep (hz.rd _ _) c
  · have hk : (some bl : Option Nat) = some k := hk
    cases hk; exact hbl
end making
end
end Go.GX
