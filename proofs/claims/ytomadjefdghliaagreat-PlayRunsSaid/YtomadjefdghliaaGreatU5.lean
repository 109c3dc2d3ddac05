import Derived.Test.YtomadjefdghliaaGreatU4
namespace Go.GX
open Go Go.RowKit Go.RR Go.RX
class UTy (P : Program) (t : TypeId) {α : outParam Type} (e : outParam (Ty α)) (z : outParam α) (zv : outParam Value) : Prop where
 zero : ∀ w, (zeroValue t).run P w = .ok zv w
 rd : ∀ F w, e.rd F w zv.cells.toList z
section
variable {P : Program} {n : Nat} {env : Env} {b : Base} {ps : List Pf} {hp : List Res} {Q : Exit → Act → World → Prop} {K : Act → World → Prop}
theorem mkOk {F : Nat → Prop} {hp1 : List Res} {w w' : World} {pf : List Pf} {hr : List Res} (s : St b F ps hp1 w) (hu : Upd (feet hp1) w w') (X : Nat → Prop) (hX1 : ∀ k, X k → k < w'.heap.size) (hX2 : ∀ k, X k → k < w.heap.size → feet hp1 k)
  (h1 : AllP (fun k => F k ∨ X k) w' pf) (h2 : AllR (fun k => F k ∨ X k) w' hr) (h3 : ∀ r ∈ hr, ∀ k, r.on k → ¬ X k) (h4 : hr.Pairwise Apart) (h5 : ∀ r ∈ hr, ∀ k, r.on k → k < w.heap.size → feet hp1 k) : Ok ⟨w, feet hp1, F⟩ pf hr w' := by
 refine ⟨fun k => F k ∨ X k, hu, ?_, ?_, h1, h2, ?_, h4, h5⟩
 ·rintro k (hk | hk)
  ·exact Nat.lt_of_lt_of_le (s.lt k hk) hu.size
  ·exact hX1 k hk
 ·rintro k (hk | hk) hlt
  ·exact .inl hk
  ·exact .inr (hX2 k hk hlt)
 ·rintro r hr' k hk (hf | hx)
  ·obtain ⟨r1, hr1, hk1⟩ := h5 r hr' k hk (s.lt k hf)
   exact s.apF r1 hr1 k hk1 hf
  ·exact h3 r hr' k hk hx
theorem agF {F : Nat → Prop} {hp1 : List Res} {w w' : World} (s : St b F ps hp1 w) (hu : Upd (feet hp1) w w') : Agree F w w' := Agree.of_upd hu (fun k _ hf ⟨r, hr, hk⟩ => s.apF r hr k hk hf)
theorem upd0 {w w' : World} (h : Upd (fun _ => False) w w') : Upd (feet []) w w' := h.mono (fun _ _ h => h.elim)
theorem one_p {F : Nat → Prop} {w : World} {p : Pf} (h : p.says F w) : AllP F w [p] := fun q hq => by
 rcases List.mem_cons.1 hq with rfl | hq
 ·exact h
 ·simp at hq
theorem one_r {F : Nat → Prop} {w : World} {p : Res} (h : p.says F w) : AllR F w [p] := fun q hq => by
 rcases List.mem_cons.1 hq with rfl | hq
 ·exact h
 ·simp at hq
theorem no_p {F : Nat → Prop} {w : World} : AllP F w [] := fun q hq => by simp at hq
theorem no_r {F : Nat → Prop} {w : World} : AllR F w [] := fun q hq => by simp at hq
theorem in_one {p q : Res} {C : Res → Prop} (h : C p) (hq : q ∈ [p]) : C q := by
 rcases List.mem_cons.1 hq with rfl | hq
 ·exact h
 ·simp at hq
theorem mkOk1 {F : Nat → Prop} {r r' : Res} {w w' : World} (s : St b F ps [r] w) (hu : Upd r.on w w') (h2 : r'.says F w') (h5 : ∀ k, r'.on k → k < w.heap.size → r.on k) : Ok ⟨w, feet [r], F⟩ [] [r'] w' := by
 refine mkOk s (hu.mono fun k _ hk => ⟨r, by simp, hk⟩) (fun _ => False) (fun k h => h.elim) (fun k h => h.elim) no_p (one_r (r'.move h2 (fun _ _ h => .inl h) (Agree.refl _ _) (Agree.refl _ _))) (fun _ _ _ _ h => h) (by simp) ?_
 intro q hq k hk hlt
 exact ⟨r, by simp, in_one (C := fun q => q.on k → r.on k) (fun h => h5 k h hlt) hq hk⟩
theorem mkOkN {F : Nat → Prop} {r' : Res} {w w' : World} (s : St b F ps [] w) (hu : Upd (fun _ => False) w w') (h2 : r'.says F w') (h5 : ∀ k, r'.on k → w.heap.size ≤ k) : Ok ⟨w, feet [], F⟩ [] [r'] w' := by
 refine mkOk s (upd0 hu) (fun _ => False) (fun k h => h.elim) (fun k h => h.elim) no_p (one_r (r'.move h2 (fun _ _ h => .inl h) (Agree.refl _ _) (Agree.refl _ _))) (fun _ _ _ _ h => h) (by simp) ?_
 intro q hq k hk hlt
 have := in_one (C := fun q => q.on k → w.heap.size ≤ k) (h5 k) hq hk
 omega
theorem mkOkF {F : Nat → Prop} {p : Pf} {w w' : World} {bl : Nat} (s : St b F ps [] w) (hu : Upd (fun _ => False) w w') (hb : w.heap.size ≤ bl) (hl : bl < w'.heap.size) (h2 : p.says (fun k => F k ∨ k = bl) w') : Ok ⟨w, feet [], F⟩ [p] [] w' :=
 mkOk s (upd0 hu) (fun k => k = bl) (fun k h => by omega) (fun k h h2 => by omega) (one_p h2) no_r (by simp) (by simp) (by simp)
theorem Acts.use {o : Oper} {ι : Type} {val : ι → Value} {pf : ι → List Pf} {hr : ι → List Res} {hp1 rest : List Res} (ha : Acts P n env ps hp1 o val pf hr) (hl : hp.Perm (hp1 ++ rest))
  (h : ∀ i, G n (match o.dst with | some d => (d, val i) :: env | none => env) b (pf i ++ ps) (hr i ++ rest) K) : GO P n env b ps hp o K Q := act ha hl h
section making
variable {d : Nat} {ty : TypeId} {pos : String} {aft : Array Edge} {gd : Option (Nat × Bool)} {t : TypeId} {x y : Operand} {α : Type} {e : Ty α}
theorem bxF {cs : List Value} {y : α} (h : ∀ bl, G n ((d, .pointer (some ⟨bl, 0, none⟩)) :: env) b (Pt e bl 0 y :: ps) hp K) (hx : ev env x = some (.agg cs.toArray) := by exact rfl) (hf : FAg cs ps e y := by exact inferInstance) (hd : Nat.blt d n = true := by exact rfl) : GO P n env b ps hp ⟨some d, .box t x, ty, pos, aft, gd⟩ K Q := by
 refine Acts.use (hp1 := []) (rest := hp) (ι := Nat) (val := fun bl => .pointer (some ⟨bl, 0, none⟩)) (pf := fun bl => [Pt e bl 0 y]) (hr := fun _ => []) ?_ (List.Perm.refl _) h
 intro F w K Q b s hk
 refine RX.box hx hd (fun bl w' hb hr hu => hk bl w' (mkOkF s hu hb hr.lt ?_))
 have hrd : e.rd F w cs y := s.fs _ hf.mem
 have hr : Row w' bl t cs := by simpa [Value.cells] using hr
 exact ⟨.inr rfl, hr.lt, cs, fun j c hj => by rw [Nat.zero_add]; exact hr.cell_some hj, e.move hrd (fun _ _ h => .inl h) (agF s (upd0 hu))⟩
theorem bxR {v : Value} {vs : List Value} (h : ∀ bl, G n ((d, .pointer (some ⟨bl, 0, none⟩)) :: env) b ps (RowR bl t vs :: hp) K) (hx : ev env x = some v := by exact rfl) (hv : v.cells.toList = vs := by exact rfl) (hd : Nat.blt d n = true := by exact rfl) : GO P n env b ps hp ⟨some d, .box t x, ty, pos, aft, gd⟩ K Q := by
 subst hv
 refine Acts.use (hp1 := []) (rest := hp) (ι := Nat) (val := fun bl => .pointer (some ⟨bl, 0, none⟩)) (pf := fun bl => []) (hr := fun bl => [RowR bl t v.cells.toList]) ?_ (List.Perm.refl _) h
 intro F w K Q b s hk
 exact RX.box hx hd (fun bl w' hb hr hu => hk bl w' (mkOkN s hu hr (fun k hk => by have hk : k = bl := hk; omega)))
theorem al {z : α} {zv : Value} [hz : UTy P t e z zv] (h : ∀ bl, G n ((d, .pointer (some ⟨bl, 0, none⟩)) :: env) b ps (Box t e bl z :: hp) K) (hd : Nat.blt d n = true := by exact rfl) : GO P n env b ps hp ⟨some d, .alloc t, ty, pos, aft, gd⟩ K Q := by
 refine Acts.use (hp1 := []) (rest := hp) (ι := Nat) (val := fun bl => .pointer (some ⟨bl, 0, none⟩)) (pf := fun bl => []) (hr := fun bl => [Box t e bl z]) ?_ (List.Perm.refl _) h
 intro F w K Q b s hk
 have hv := hz.zero w
 refine RX.eff (v := .pointer (some ⟨w.heap.size, 0, none⟩)) (w' := w.alloc (.cells zv.cells t)) (fun a ha => ?_) hd (hk w.heap.size _ (mkOkN s ((Upd.refl _ _).alloc _) ⟨_, Row.new w t zv.cells.toList, hz.rd _ _⟩ (fun k hk => by have hk : k = w.heap.size := hk; omega)))
 simp [execOp, Instr.alloc, hv, newVar, newRow]
theorem made_flat {zs : Array Value} {s : Nat} (hs : zs.size = s) (c : Nat) : (madeCells zs (c * s)).toList = (List.replicate c zs.toList).flatten := by
 subst hs
 induction c with
 | zero => simp [madeCells]
 | succ c ih =>
  rw [List.replicate_succ', List.flatten_append, ← ih]
  apply List.ext_getElem
  ·simp [size_madeCells, Nat.add_mul]
  ·intro j h1 h2
   simp only [madeCells, Array.toList_map, Array.toList_range, List.getElem_map, List.getElem_range]
   by_cases hj : j < c * zs.size
   ·rw [List.getElem_append_left (by simpa using hj)]
    simp
   ·rw [List.getElem_append_right (by simpa using hj)]
    simp [size_madeCells, Nat.add_mul] at h1
    obtain ⟨r, rfl⟩ := Nat.exists_eq_add_of_le (show c * zs.size ≤ j by omega)
    have hm : (c * zs.size + r) % zs.size = r := by rw [Nat.mul_comm, Nat.mul_add_mod, Nat.mod_eq_of_lt (by omega)]
    rw [hm, getElem!_pos zs r (by omega)]
    simp
theorem els_rep {z : α} {F : Nat → Prop} {w : World} {cs : List Value} (h : e.rd F w cs z) : ∀ c, Els e F w (List.replicate c cs).flatten (List.replicate c z)
 | 0 => rfl
 | c + 1 => by rw [List.replicate_succ, List.replicate_succ, List.flatten_cons]; exact ⟨_, _, rfl, h, els_rep h c⟩
theorem mks {et : TypeId} {kx ky : IntKind} {c : Nat} {i : Int} {z : α} {zv : Value} {size bytes : Nat} [ht : USlice P t et] [hi : UElem P et zv size bytes] [hz : UTy P et e z zv] (h : ∀ bl, G n ((d, .slice (some ⟨bl, 0, none⟩) c c) :: env) b ps (Own et e (some ⟨bl, 0, none⟩) c (List.replicate c z) :: hp) K)
  (hx : ev env x = some (.int kx i) := by exact rfl) (hy : ev env y = some (.int ky i) := by exact rfl) (hi0 : i = (c : Int) := by first | rfl | omega) (hb : bytes * c ≤ 281474976710656 := by omega) (h63 : c ≤ 9223372036854775807 := by omega) (hsz : e.size = size := by exact rfl) (hzs : zv.cells.size = size := by exact rfl) (hd : Nat.blt d n = true := by exact rfl) :
  GO P n env b ps hp ⟨some d, .makeSlice t x y, ty, pos, aft, gd⟩ K Q := by
 subst hsz
 refine Acts.use (hp1 := []) (rest := hp) (ι := Nat) (val := fun bl => .slice (some ⟨bl, 0, none⟩) c c) (pf := fun bl => []) (hr := fun bl => [Own et e (some ⟨bl, 0, none⟩) c (List.replicate c z)]) ?_ (List.Perm.refl _) h
 intro F w K Q b s hk
 refine RX.make hx hy hi0 hb h63 hd (fun bl w' hbl hr hu => hk bl w' (mkOkN s hu ?_ (fun k hk => ?_)))
 ·have hr : Row w' bl et (madeCells zv.cells (c * e.size)).toList := hr
  refine ⟨(madeCells zv.cells (c * e.size)).toList, ⟨by simp [size_madeCells], .inr ⟨bl, c, madeCells zv.cells (c * e.size), by simp, Nat.zero_le _, hr, by simp, by simp only [maxLen]; omega, by simp [size_madeCells], ?_⟩⟩, ?_⟩
  ·rw [List.take_of_length_le (by simp [size_madeCells])]
  ·rw [made_flat hzs]
   exact els_rep (hz.rd _ _) c
 ·have hk : (some bl : Option Nat) = some k := hk
  cases hk; exact hbl
end making
end
end Go.GX
