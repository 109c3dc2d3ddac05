import Derived.Test.YtomfpmbapdhbgaaGreatP1
import Derived.Test.YtomfpmbapdhbgaaGreatP9
import Derived.Test.YtomfpmbapdhbgaaGreatP12
import Derived.Test.YtomfpmbapdhbgaaGreatP13
import Derived.Test.YtomfpmbapdhbgaaGreatP14
import Derived.Lib.AppendZerosOnto
import Derived.Lib.SlicesCompact
/- Parts of slices of one's own: cutting, and the built-in clear, for elements of one cell. No program in sight. -/
namespace Go.GX
open Go Go.RowKit Go.RR Go.RX
section
variable {P : Program} {n : Nat} {env : Env} {b : Base} {ps : List Pf} {hp : List Res} {Q : Exit → Act → World → Prop} {K : Act → World → Prop}
variable {ty : TypeId} {pos : String} {aft : Array Edge} {gd : Option (Nat × Bool)} {α : Type} {e : Ty α}

theorem els_take {F : Nat → Prop} {w : World} : ∀ {xs : List α} {cs : List Value} (j : Nat), Els e F w cs xs → Els e F w (cs.take (j * e.size)) (xs.take j)
  | [], cs, j, h => by
    have h : cs = [] := h
    subst h; simp; rfl
  | x :: xs, cs, 0, h => by simp; rfl
  | x :: xs, cs, j + 1, ⟨c1, c2, h1, h2, h3⟩ => by
    have hl := e.len h2
    refine ⟨c1, c2.take (j * e.size), ?_, h2, els_take j h3⟩
    rw [h1, Nat.add_mul, Nat.one_mul, Nat.add_comm, ← hl, List.take_length_add_append]
/-- Fewer of them. -/
theorem ownTake (ao : Option Addr) (j : Nat) {t : TypeId} {cap : Nat} {xs : List α} {rest : List Res} [hf : FOwn ao hp t e cap xs rest] (h : G n env b ps (Own t e ao cap (xs.take j) :: rest) K) : G n env b ps hp K := by
  refine alter (hp1 := [Own t e ao cap xs]) (hp2 := [Own t e ao cap (xs.take j)]) hf.p ?_ ?_ h
  · intro F w h1 _
    refine ⟨fun r hr => ?_, by simp⟩
    obtain rfl : r = _ := by simpa using hr
    obtain ⟨cs, g1, g2⟩ : (Own t e ao cap xs).says F w := h1 _ (by simp)
    have hlen := els_take j g2
    rcases g1.2 with ⟨h3, h4⟩ | ⟨g, cap', cur, h3, hb, hg, h5, h6, h7, h8⟩
    · simp at h3
      obtain ⟨rfl, hx, rfl⟩ := h3
      subst hx
      have : cs = [] := g2
      subst this
      simp; exact own_none
    · simp at h3
      obtain ⟨rfl, rfl⟩ := h3
      refine ⟨cs.take (j * e.size), ⟨hlen.len, .inr ⟨g, cap, cur, rfl, hb, hg, ?_, h6, h7, ?_⟩⟩, hlen⟩
      · rw [List.length_take]; omega
      · have h8 : cur.toList.take (xs.length * e.size) = cs := h8
        show cur.toList.take ((xs.take j).length * e.size) = cs.take (j * e.size)
        rw [← h8, List.take_take, List.length_take, Nat.mul_min_mul_right]
  · rintro k ⟨r, hr, hk⟩
    obtain rfl : r = _ := by simpa using hr
    refine ⟨Own t e ao cap xs, by simp, ?_⟩
    have hk : Value.ownBlock (.slice ao (xs.take j).length cap) = some k := hk
    show Value.ownBlock (.slice ao xs.length cap) = some k
    cases ao <;> exact hk
section cutting
variable {t et : TypeId} {x y : Operand} {k : IntKind} {d : Nat}
/-- 's[:j]' of a slice of one's own, as a value. -/
theorem oh {ao : Option Addr} {m cap j sz : Nat} [ht : USlice P t et] [hs : USize P et sz] (h : G n ((d, .slice ao j cap) :: env) b ps hp K) (hx : ev env x = some (.slice ao m cap) := by exact rfl) (hy : ev env y = some (.int k (j : Int)) := by exact rfl) (hj : j ≤ cap := by omega) (hao : ∀ a, ao = some a → a.spot = none := by intro a ha; cases ha; rfl) (hd : Nat.blt d n = true := by exact rfl) :
    GO P n env b ps hp ⟨some d, .slice t x none (some y) none, ty, pos, aft, gd⟩ K Q := by
  refine rd1 (fun a ha o ho w _ => ?_) hd h
  have hb1 := sliceBound_run (P := P) (k := k) (i := (j : Int)) (y := cap) (c := .sliceAcap) (w := w) ⟨by omega, by omega⟩
  have e0 : (if cap = 0 then ao else ao.map (·.add (0 * sz))) = ao := by
    split
    · rfl
    · cases ao with
      | none => rfl
      | some a =>
        have := hao a rfl
        obtain ⟨b, o, sp⟩ := a
        dsimp only at this; subst this
        simp [Addr.add_lit]
  simp [execOp, ho, ha.ev hx, ha.ev hy, Instr.sliceAt, Instr.slice, run_underlying ht.u, Instr.sliceBounds, hb1, hs.s]
  simpa using e0
/-- 's[j:]', likewise. -/
theorem ol {g o m cap j sz : Nat} [ht : USlice P t et] [hs : USize P et sz] (h : ∀ o2, (j < cap → o2 = o + j * sz) → G n ((d, .slice (some ⟨g, o2, none⟩) (m - j) (cap - j)) :: env) b ps hp K) (hx : ev env x = some (.slice (some ⟨g, o, none⟩) m cap) := by exact rfl) (hy : ev env y = some (.int k (j : Int)) := by exact rfl) (hj : j ≤ m := by omega) (hm : m ≤ cap := by omega) (hd : Nat.blt d n = true := by exact rfl) :
    GO P n env b ps hp ⟨some d, .slice t x (some y) none none, ty, pos, aft, gd⟩ K Q := by
  refine rd1 (v := .slice (some ⟨g, if cap = j then o else o + j * sz, none⟩) (m - j) (cap - j)) (fun a ha o' ho w _ => ?_) hd (h _ (fun hlt => by rw [if_neg (by omega)]))
  have hb1 := sliceBound_run (P := P) (k := k) (i := (j : Int)) (y := m) (c := .sliceB) (w := w) ⟨by omega, by omega⟩
  by_cases hc : cap = j
  · simp [execOp, ho, ha.ev hx, ha.ev hy, Instr.sliceAt, Instr.slice, run_underlying ht.u, Instr.sliceBounds, hb1, hs.s, hc]
  · simp [execOp, ho, ha.ev hx, ha.ev hy, Instr.sliceAt, Instr.slice, run_underlying ht.u, Instr.sliceBounds, hb1, hs.s, hc, Addr.add_lit]

theorem effC {w w' : World} {c : Call} {v : Value} (hs : ∀ a, Has n env a → (execOp a.eval ⟨none, .call c, ty, pos, aft, gd⟩).run P w = .ok (.value v) w') (h : E n env w' K) : OW P n env w ⟨none, .call c, ty, pos, aft, gd⟩ K Q := by
  constructor; intro a ha
  show Oper.upon P _ a K Q ((execOp a.eval _).run P w)
  rw [hs a ha]
  exact h.run _ ha
/-- 'clear(s[k:])': what lies ahead stays. -/
theorem clr {z : α} {zv : Value} {g o m c cap k0 : Nat} {xs : List α} {rest : List Res} [ht : USlice P t et] [hz : UTy P et e z zv] [hf : FOwn (some ⟨g, 0, none⟩) hp et e cap xs rest] (h : ∀ ys, ys.length = xs.length → ys.take k0 = xs.take k0 → G n env b ps (Own et e (some ⟨g, 0, none⟩) cap ys :: rest) K)
    (hx : ev env x = some (.slice (some ⟨g, o, none⟩) m c)) (hes : e.size = 1) (hzs : zv.cells = #[zv]) (h1 : zv.oneCell' = true) (ho : m = 0 ∨ (k0 ≤ o ∧ o + m ≤ xs.length)) : GO P n env b ps hp ⟨none, .call { callee := .builtin .clear, args := #[x], argTypes := #[t] }, ty, pos, aft, gd⟩ K Q := by
  refine Acts.use (hp1 := [Own et e (some ⟨g, 0, none⟩) cap xs]) (ι := { ys : List α // ys.length = xs.length ∧ ys.take k0 = xs.take k0 }) (val := fun _ => undef) (pf := fun _ => []) (hr := fun ys => [Own et e (some ⟨g, 0, none⟩) cap ys.1]) ?_ hf.p (fun ys => h ys.1 ys.2.1 ys.2.2)
  intro F w K Q b s hk
  rcases Nat.eq_zero_or_pos m with hm | hm
  · subst hm
    refine effC (v := .tuple #[]) (w' := w) (fun a ha => ?_) (hk ⟨xs, rfl, rfl⟩ w (mkOk1 s (Upd.refl _ _) (s.rs (Own et e (some ⟨g, 0, none⟩) cap xs) (by simp)) (fun k hk _ => hk)))
    simp [execOp, ha.ev hx, resolve, invoke, builtin, Builtin.clear_, run_underlying ht.u]
  · obtain ⟨ho1, ho2⟩ : k0 ≤ o ∧ o + m ≤ xs.length := by omega
    obtain ⟨cs, tl, g1, g2, g3, g4, g5⟩ := own_open (s.rs (Own et e (some ⟨g, 0, none⟩) cap xs) (by simp))
    have hcl := g2.len
    rw [hes, Nat.mul_one] at hcl
    obtain ⟨w', k1, k2, k3⟩ := run_storeAll (P := P) (bl := g) (o := o) (te := et) (List.replicate m zv) (cs ++ tl) w 0 g1 (by simp; omega) (fun u hu => by rw [List.eq_of_mem_replicate hu]; exact h1)
    have hzc : (Builtin.zeroCells zv.cells m).toList = List.replicate m zv := by
      rw [hzs]
      simp [Builtin.zeroCells]
      apply List.ext_getElem
      · simp
      · intro i h1 h2; simp [Nat.mod_one]
    have hrd : e.rd F w [zv] z := by have := hz.rd F w; rw [hzs] at this; exact this
    refine effC (v := .tuple #[]) (w' := w') (fun a ha => ?_) (hk ⟨xs.take o ++ (List.replicate m z ++ xs.drop (o + m)), by simp; omega, by rw [List.take_append_of_le_length (by simp; omega), List.take_take, Nat.min_eq_left ho1]⟩ w' (mkOk1 s (k3.mono fun k _ hk => by subst hk; rfl) (own_close (cs := cs.take o ++ (List.replicate m zv ++ cs.drop (o + m))) (tl := tl) ?_ ?_ ?_ (by simp; omega) g5) (fun k hk _ => hk)))
    · obtain ⟨m', rfl⟩ : ∃ m', m = m' + 1 := ⟨m - 1, by omega⟩
      simp [execOp, ha.ev hx, resolve, invoke, builtin, Builtin.clear_, run_underlying ht.u, hz.zero, hzc, k1]
    · have e1 : over (cs ++ tl) (o + 0) (List.replicate m zv) = cs.take o ++ (List.replicate m zv ++ cs.drop (o + m)) ++ tl := by
        unfold over
        rw [Nat.add_zero, List.length_replicate, List.take_append_of_le_length (by omega), List.drop_append_of_le_length (by omega)]
        simp
      rw [e1] at k2; exact k2
    · have hu' : Upd (feet [Own et e (some ⟨g, 0, none⟩) cap xs]) w w' := k3.mono fun k _ hk => ⟨Own et e (some ⟨g, 0, none⟩) cap xs, by simp, by subst hk; rfl⟩
      have a1 := els_take o g2
      rw [hes, Nat.mul_one] at a1
      have a3 : Els e F w (cs.drop (o + m)) (xs.drop (o + m)) := by
        have key : ∀ (j : Nat) (xs : List α) (cs : List Value), Els e F w cs xs → Els e F w (cs.drop j) (xs.drop j) := by
          intro j
          induction j with
          | zero => intro xs cs h; simpa using h
          | succ j ih =>
            intro xs cs h
            cases xs with
            | nil => have h : cs = [] := h
                     subst h; simp; rfl
            | cons x xs =>
              obtain ⟨c1, c2, q1, q2, q3⟩ := h
              have hl := e.len q2
              rw [q1, List.drop_succ_cons, show j + 1 = c1.length + j by omega, ← List.drop_drop, List.drop_left]
              exact ih xs c2 q3
        exact key _ _ _ g2
      have a2 : Els e F w (List.replicate m zv) (List.replicate m z) := by
        have := els_rep hrd m
        simpa using this
      exact (a1.append (a2.append a3)).move (fun _ _ h => h) (agF s hu')
    · rw [← g3]; simp; omega
end cutting

/-- A call of a function value; one thing more is one's own, and is not touched. -/
theorem clvR {d : Nat} {f : FuncId} {x : Operand} {xs : List Operand} {ts : Array TypeId} {vs fs cs : List Value} {r : Res} {hpC : List Res} [hf : UFunc P f] {ps1 : List Pf} {σ : Type} {val : σ → Value}
    (hc : Does P f (fs ++ (vs ++ cs)) ps1 hpC val (fun _ => []) (fun _ => hpC)) (h : ∀ s, G n ((d, val s) :: env) b ps (r :: hpC) K)
    (hx : ev env x = some (.func (.func f) fs.toArray cs.toArray) := by exact rfl) (hxs : evs env xs = some vs := by exact rfl)
    (hps : Suf ps1 ps := by repeat (first | (with_reducible apply Go.GX.Suf.refl) | apply Go.GX.Suf.tail)) (hd : Nat.blt d n = true := by exact rfl) :
    GO P n env b ps (r :: hpC) ⟨some d, .call { callee := .value x, args := xs.toArray, argTypes := ts }, ty, pos, aft, gd⟩ K Q :=
  callvG (rest := [r]) hc hx hxs hps.sub (List.perm_append_comm (l₁ := [r])) hd (fun s => perm (List.perm_append_comm (l₂ := [r])) (by rw [List.nil_append]; exact h s))
theorem clR {d : Nat} {f : FuncId} {xs : List Operand} {ts : Array TypeId} {vs : List Value} [hf : UFunc P f] {ps1 : List Pf} {σ : Type} {val : σ → Value} {hp' : σ → List Res}
    (hc : Does P f vs ps1 hp val (fun _ => []) hp') (h : ∀ s, G n ((d, val s) :: env) b ps (hp' s) K) (hxs : evs env xs = some vs := by exact rfl)
    (hps : Suf ps1 ps := by repeat (first | (with_reducible apply Go.GX.Suf.refl) | apply Go.GX.Suf.tail)) (hd : Nat.blt d n = true := by exact rfl) :
    GO P n env b ps hp ⟨some d, .call { callee := .value (.func f), args := xs.toArray, argTypes := ts }, ty, pos, aft, gd⟩ K Q :=
  call hc hxs hps.sub (rest := []) (by rw [List.append_nil]) hd (fun s => by rw [List.nil_append, List.append_nil]; exact h s)
end
end Go.GX

/- 'append(nil, make(..)...)', whose cells are then cut off: a slice of one's own with room. No program in sight. -/
namespace Go.GX
open Go Go.RowKit Go.RR Go.RX
section
variable {P : Program} {n : Nat} {env : Env} {b : Base} {ps : List Pf} {hp : List Res} {Q : Exit → Act → World → Prop} {K : Act → World → Prop}
theorem apz {d : Nat} {ty : TypeId} {pos : String} {aft : Array Edge} {gd : Option (Nat × Bool)} {t tn et : TypeId} {x y : Operand} {α : Type} {e : Ty α} {zv : Value} {size bytes c : Nat} {i : Int} [ht : USlice P t et] [hn : UInt P tn .i64] [hi : UElem P et zv size bytes]
    (h : ∀ bl cap, c ≤ cap → G n ((d, .slice (some ⟨bl, 0, none⟩) c cap) :: env) b ps (Own et e (some ⟨bl, 0, none⟩) cap [] :: hp) K)
    (hx : ev env x = some (.slice none 0 0) := by exact rfl) (hy : ev env y = some (.int .i64 i) := by exact rfl) (hc : i = (c : Int) := by first | rfl | omega) (h0 : 0 < c := by omega) (hb : c * bytes ≤ 140737488355328 := by omega) (h63 : c ≤ 9223372036854775807 := by omega) (hsz : e.size = size := by exact rfl) (hzs : zv.cells.size = size := by exact rfl) (hpos : Nat.blt 0 size = true := by exact rfl) (hd : Nat.blt d n = true := by exact rfl) :
    GO P n env b ps hp ⟨some d, .call { callee := .builtin .append, args := #[x, y], argTypes := #[t, tn] }, ty, pos, aft, gd⟩ K Q := by
  subst hsz; subst hc
  refine Acts.use (hp1 := []) (rest := hp) (ι := { q : Nat × Nat // c ≤ q.2 }) (val := fun q => .slice (some ⟨q.1.1, 0, none⟩) c q.1.2) (pf := fun _ => []) (hr := fun q => [Own et e (some ⟨q.1.1, 0, none⟩) q.1.2 []]) ?_ (List.Perm.refl _) (fun q => h q.1.1 q.1.2 q.2)
  intro F w K Q b s hk
  obtain ⟨ii, i0, i1, i2, i3⟩ := info_parts hi.i
  have hpos' : 0 < e.size := by simpa [Nat.blt_eq] using hpos
  have hold : (Builtin.firstCells ii.size 0 (.slice none 0 0)).run P w.drew = .ok (#[] : Array Value) w.drew := run_firstCells_none w.drew ii.size 0 0 0
  have hr := Lib.run_append_grow_zeros (P := P) w t tn ty et ii zv .i64 .i64 ht.u hn.u i0 i1 none 0 0 [] hold c h0 (by omega) (by omega) (by omega) (by rw [i3]; omega) (by rw [i3]; exact growslice_fits (by omega) (by simpa using hb))
  simp only [Nat.zero_add] at hr
  have hge := grownCap_ge w c 0 et
  have hcm : grownCap w c 0 et ≤ maxLen := grownCap_le_maxLen w _ _ et (by simp only [maxLen]; omega)
  refine RX.eff (w' := w.drew.alloc (.cells ((#[] : Array Value) ++ Builtin.zeroCells zv.cells c ++ Builtin.zeroCells zv.cells (grownCap w c 0 et - c)) et)) (fun a ha => ?_) hd (hk ⟨(w.heap.size, grownCap w c 0 et), hge⟩ _ (mkOkN s ⟨rfl, rfl, rfl, by simp, fun k hk _ => heap_alloc_old w.drew _ hk⟩ ⟨[], ⟨by simp, .inr ⟨w.heap.size, grownCap w c 0 et, _, rfl, Nat.zero_le _, heap_alloc_new w.drew _, Nat.zero_le _, hcm, ?_, by simp⟩⟩, rfl⟩ (fun k hk => ?_)))
  · simp [execOp, ha.ev hx, ha.ev hy, resolve, invoke, builtin, hr]
  · simp only [Array.size_append, List.size_toArray, size_zeroCells, hzs, List.length_nil, Nat.zero_add]
    rw [← Nat.add_mul]
    congr 1; omega
  · have hk : (some w.heap.size : Option Nat) = some k := hk
    cases hk; exact Nat.le_refl _
end
end Go.GX

/- slices.Compact over ints, as a contract on a slice of one's own; a rising list, once each. -/
namespace Go.Proofs.YtomfpmbapdhbgaaGreat
open Go Go.RR Go.RX Go.GX Go.Sort Go.Proofs

/-- Equal neighbours once. -/
def once (xs : List Int) : List Int := Lib.compact xs
theorem once_len (xs : List Int) : (once xs).length ≤ xs.length := by
  unfold once Lib.compact Lib.compactUpTo
  rw [List.length_map]
  have := List.length_filter_le (Lib.keeps xs.toArray) (List.range xs.length)
  simpa using this
theorem compact_spec (ao : Option Addr) (cap : Nat) (xs : List Int) (hl : xs.length ≤ 9223372036854775807) : Does Tryz.prog 52 [.slice ao xs.length cap] [] [GX.Own 3 Ty.int ao cap xs]
    (fun _ : Unit => .slice ao (once xs).length cap) (fun _ => []) (fun _ => [GX.Own 3 Ty.int ao cap (once xs)]) := by
  constructor
  intro w F b s
  obtain ⟨cs, h1, h2⟩ : (GX.Own 3 Ty.int ao cap xs).says F w := s.rs _ (by simp)
  rcases h1.2 with ⟨h3, h4⟩ | ⟨g, cap', cur, h3, hb, hg, h5, h6, h7, h8⟩
  · simp at h3
    obtain ⟨rfl, hx, rfl⟩ := h3
    subst hx
    have e0 : once [] = [] := List.length_eq_zero_iff.1 (Nat.le_zero.1 (once_len []))
    rw [e0]
    refine (Tryz.slices_Compact_int_empty none 0 w).mono fun e w' ⟨he, hw⟩ => ⟨(), he, ?_⟩
    subst hw
    exact mkOk1 s (Upd.refl _ _) ⟨cs, h1, h2⟩ (fun k hk _ => hk)
  · simp at h3
    obtain ⟨rfl, rfl⟩ := h3
    have hcs := els_ints.1 h2
    have h7 : cur.size = cap * 1 := h7
    have ht : cur.toList.take xs.length = xs.map (Value.int .i64) := by
      have : cur.toList.take (xs.length * 1) = cs := h8
      rw [Nat.mul_one] at this
      rw [this, hcs]
    have hlt : g < w.heap.size := (Array.getElem?_eq_some_iff.1 hg).1
    refine (Tryz.slices_Compact_int g 0 cap xs w (holds_of_blockI hg ht) hl h5).mono fun e w' ⟨he, q, hw⟩ => ⟨(), he, ?_⟩
    obtain ⟨d, hd⟩ : ∃ d, d = once xs ++ List.replicate (xs.length - (once xs).length) 0 := ⟨_, rfl⟩
    have hle := once_len xs
    have hdl : d.length = xs.length := by rw [hd]; simp; omega
    have hw : w' = grow (putRow (Value.int .i64) (Sort.ahead w q) g 0 d.toArray) #[] := by rw [grow_empty, hd]; exact hw
    have hgr := grownBy_sortedI (w := w) (g := g) (n := q) (os := #[]) d.toArray
    have hheap := heap_sortedI (n := q) (os := #[]) d.toArray hg
    rw [← hw] at hgr hheap
    have htk := take_putCellsI cur d (by omega)
    refine mkOk1 s ((Upd.refl _ w).grown hgr (fun k hk _ => hk)) ⟨(once xs).map (Value.int .i64), ⟨by rw [List.length_map]; exact (Nat.mul_one _).symm, .inr ⟨g, cap, _, rfl, Nat.zero_le _, hheap, by omega, h6, by show _ = cap * 1; simp [putCells, h7], ?_⟩⟩, els_ints.2 rfl⟩ (fun k hk _ => ?_)
    · show _ = _
      have e1 : (once xs).length = min (once xs).length d.length := by omega
      show (putCells (Value.int .i64) 0 d.toArray cur).toList.take ((once xs).length * 1) = _
      rw [Nat.mul_one, e1, ← List.take_take, htk, ← List.map_take, hd, List.take_left]
    · have hk : (some g : Option Nat) = some k := hk
      exact hk
end Go.Proofs.YtomfpmbapdhbgaaGreat

/- slices.Sorted of slices.Values of nothing; slices.Grow and Concat of two lists. -/
namespace Go.Proofs.YtomfpmbapdhbgaaGreat
open Go Go.RR Go.RX Go.GX Go.RowKit Go.Shelf Go.RiseM
theorem appendSeqN_spec (bl : Nat) : Does Tryz.prog 112 [.slice none 0 0, .func (.func 80) #[] #[.pointer (some ⟨bl, 0, none⟩)]]
    [Pt Ty.hdr bl 0 (none, 0, 0)] [] (fun _ : Unit => .slice none 0 0) (fun _ => []) (fun _ => []) := by
  constructor
  intro w F b s
  obtain ⟨hF, hbl, cs, hcs, hrd⟩ : (Pt Ty.hdr bl 0 (none, 0, 0)).says F w := s.fs _ (by simp)
  have hrd : cs = [.slice none 0 0] := hrd
  subst hrd
  refine ((callsIn_wide (n := 3)).1 (appendSeq_in Fence.wide 3 trivial trivial rfl (Nat.le_refl _) bl bl 0 0 none [] (fun h => absurd rfl h) (by simp) w hbl hbl (hcs 0 _ rfl) (fun j hj => absurd hj (Nat.not_lt_zero _)))).mono fun e w' h => ?_
  obtain ⟨v, rfl, hrow, hn, hB⟩ := h
  obtain rfl := hn.2 rfl
  have hu : Upd (feet []) w w' := ⟨hB.os, hB.tape, hB.output, hB.size, fun k hk _ => hB.block k hk⟩
  exact ⟨(), rfl, mkOk s hu (fun _ => False) (fun k h => h.elim) (fun k h => h.elim) no_p (fun _ h => by cases h) (fun _ _ _ _ h => h) (by simp) (fun _ h => by cases h)⟩
attribute [local irreducible] wpList Code.wp wpPlan Exit.then Exit.inBlock bodyPost NoPanic Went GX.Post GX.Again GX.Meet GX.RowR GX.Own GX.Owns GX.Box GX.Sl GX.Pt GX.Ag GX.MapR GX.Kept GX.Pin wpT GoK AtEnd Both
theorem collectN_spec (bl : Nat) : Does Tryz.prog 78 [.func (.func 80) #[] #[.pointer (some ⟨bl, 0, none⟩)]]
    [Pt Ty.hdr bl 0 (none, 0, 0)] [] (fun _ : Unit => .slice none 0 0) (fun _ => []) (fun _ => []) := by
  refine enter Tryz.func78 rfl Tryz.ntmps78 rfl fun b => ?_
  refine GX.wR ?_; intros
  refine GX.o (cl (appendSeqN_spec bl) fun s => ?_)
  refine GX.wR ?_; intros
  exact rt1 () rfl
theorem sortedN_spec (bl : Nat) : Does Tryz.prog 53 [.func (.func 80) #[] #[.pointer (some ⟨bl, 0, none⟩)]]
    [Pt Ty.hdr bl 0 (none, 0, 0)] [] (fun _ : Unit => .slice none 0 0) (fun _ => []) (fun _ => []) := by
  refine enter Tryz.func53 rfl Tryz.ntmps53 rfl fun b => ?_
  refine GX.wR ?_; intros
  refine GX.o (cl (collectN_spec bl) fun s => ?_)
  refine GX.wR ?_; intros
  refine ownNil 3 Ty.int ?_
  refine GX.o (cl (sort_spec none 0 [] (by simp)) fun _ => ?_)
  refine GX.wR ?_; intros
  exact rt1 () rfl
section
variable {P : Program} {n : Nat} {env : Env} {b : Base} {ps : List Pf} {hp : List Res} {Q : Exit → Act → World → Prop} {K : Act → World → Prop}
theorem capR {d : Nat} {ty : TypeId} {pos : String} {aft : Array Edge} {gd : Option (Nat × Bool)} {t e : TypeId} {x : Operand} {o1 : Option Addr} {len cap : Nat} [h0 : USlice P t e] (h : G n ((d, .int .i64 (cap : Int)) :: env) b ps hp K) (hx : ev env x = some (.slice o1 len cap) := by exact rfl) (hd : Nat.blt d n = true := by exact rfl) :
    GO P n env b ps hp ⟨some d, .call { callee := .builtin .cap, args := #[x], argTypes := #[t] }, ty, pos, aft, gd⟩ K Q := GX.rd1 (fun a ha o ho w _ => by
  simp [execOp, ho, ha.ev hx, resolve, invoke, builtin, run_underlying h0.u, Builtin.cap_, goInt]) hd h
end
/-- Room is made. -/
theorem grow0_spec (c : Nat) (hc : c ≤ 1000000) : Does Tryz.prog 81 [.slice none 0 0, .int .i64 (c : Int)] [] [] (fun s : Option Addr × Nat => .slice s.1 ([] : List Int).length s.2) (fun _ => []) (fun s => [GX.Own 3 Ty.int s.1 s.2 []]) := by
  refine enter Tryz.func81 rfl Tryz.ntmps81 rfl fun b => ?_
  refine GX.wR ?_; intros
  refine GX.o (capR ?_)
  cases c with
  | zero =>
    refine GX.wR ?_; intros
    refine ownNil 3 Ty.int ?_
    exact rt1 (none, 0) rfl
  | succ c =>
    refine GX.wR ?_; intros
    refine GX.o (capR ?_)
    refine GX.wR ?_; intros
    refine GX.o (GX.oh (j := 0) ?_ (hao := by intro a ha; cases ha))
    refine GX.wR ?_; intros
    refine GX.o (apz (e := Ty.int) (c := c + 1) fun bl cap2 hc2 => ?_)
    refine GX.wR ?_; intros
    refine GX.o (GX.oh (j := 0) ?_)
    refine GX.wR ?_; intros
    exact rt1 (some ⟨bl, 0, none⟩, cap2) rfl
theorem concat_spec (ao : Option Addr) (cap : Nat) (xs ys : List Int) (h1 : xs.length ≤ 400000) (h2 : ys.length ≤ 400000) : Does Tryz.prog 55 [.slice ao 2 cap] [Sl (Ty.slice Ty.int) ao cap [xs, ys]] []
    (fun s : Option Addr × Nat => .slice s.1 (xs ++ ys).length s.2) (fun _ => []) (fun s => [GX.Own 3 Ty.int s.1 s.2 (xs ++ ys)]) := by
  refine enter Tryz.func55 rfl Tryz.ntmps55 rfl fun b => ?_
  have hx0 : [xs, ys][0]? = some xs := rfl
  have hx1 : [xs, ys][1]? = some ys := rfl
  refine GX.wR ?_; intros
  refine GX.loop (σ := Nat × Nat) (fun s => [(0, .slice ao 2 cap), (2, .slice none 0 0), (3, .int .i64 (s.2 : Int)), (9, .slice ao 2 cap), (10, .int .i64 ((2 : Nat) : Int)), (11, .int .i64 (s.1 : Int))]) (fun _ => []) (fun _ => [])
    (fun s => s.1 = 0 ∧ s.2 = 0 ∨ s.1 = 1 ∧ s.2 = xs.length ∨ s.1 = 2 ∧ s.2 = xs.length + ys.length) (fun s => 2 - s.1) (0, 0) ⟨rfl, rfl, rfl, rfl, rfl, rfl, trivial⟩ (.inl ⟨rfl, rfl⟩) (fun s hs => ?_)
  obtain ⟨i, m⟩ := s
  dsimp only at hs
  rcases hs with ⟨rfl, rfl⟩ | ⟨rfl, rfl⟩ | ⟨rfl, rfl⟩
  · refine GX.wR ?_; intros
    exact again (1, xs.length) ⟨rfl, rfl, congrArg (fun z => some (Value.int IntKind.i64 z)) (show ((0 : Nat) : Int) + (xs.length : Int) = (xs.length : Int) by omega), rfl, rfl, rfl, trivial⟩ (.inr (.inl ⟨rfl, rfl⟩)) (by dsimp only; omega)
  · refine GX.wR ?_; intros
    exact again (2, xs.length + ys.length) ⟨rfl, rfl, rfl, rfl, rfl, rfl, trivial⟩ (.inr (.inr ⟨rfl, rfl⟩)) (by dsimp only; omega)
  · refine GX.wR ?_; intros
    refine GX.o (cl (grow0_spec (xs.length + ys.length) (by omega)) fun s => ?_)
    obtain ⟨ao3, cap3⟩ := s
    dsimp only
    refine GX.wR ?_; intros
    refine GX.loop (σ := Nat × List Int × Option Addr × Nat) (fun s => [(0, .slice ao 2 cap), (2, .slice none 0 0), (6, .slice s.2.2.1 s.2.1.length s.2.2.2), (25, .slice ao 2 cap), (26, .int .i64 ((2 : Nat) : Int)), (27, .int .i64 (s.1 : Int))]) (fun _ => []) (fun s => [GX.Own 3 Ty.int s.2.2.1 s.2.2.2 s.2.1])
      (fun s => s.1 = 0 ∧ s.2.1 = [] ∨ s.1 = 1 ∧ s.2.1 = xs ∨ s.1 = 2 ∧ s.2.1 = xs ++ ys) (fun s => 2 - s.1) (0, [], ao3, cap3) ⟨rfl, rfl, rfl, rfl, rfl, rfl, trivial⟩ (.inl ⟨rfl, rfl⟩) (fun s hs => ?_)
    obtain ⟨i, zs, a4, c4⟩ := s
    dsimp only at hs ⊢
    rcases hs with ⟨rfl, rfl⟩ | ⟨rfl, rfl⟩ | ⟨rfl, rfl⟩
    · refine GX.wR ?_; intros
      exact again (1, xs, _, _) ⟨rfl, rfl, rfl, rfl, rfl, rfl, trivial⟩ (.inr (.inl ⟨rfl, rfl⟩)) (by dsimp only; omega)
    · refine GX.wR ?_; intros
      exact again (2, zs ++ ys, _, _) ⟨rfl, rfl, rfl, rfl, rfl, rfl, trivial⟩ (.inr (.inr ⟨rfl, rfl⟩)) (by dsimp only; omega)
    · refine GX.wR ?_; intros
      exact rt1 (a4, c4) rfl
theorem sorted_puts (xs : List Int) : once (sorted xs) = puts xs := by
  obtain ⟨h2, h3⟩ := compact_rise (sorted_rise xs)
  obtain ⟨h4, h5⟩ := puts_spec xs
  refine Rise.eq h2 h4 fun x => ?_
  rw [h5]
  show x ∈ Lib.compact _ ↔ _
  rw [h3, sorted_mem]
theorem both_spec (a1 a2 : Option Addr) (c1 c2 : Nat) (xs ys : List Int) (h1 : xs.length ≤ 400000) (h2 : ys.length ≤ 400000) : Does Tryz.prog 27 [.slice a1 xs.length c1, .slice a2 ys.length c2] [Sl Ty.int a1 c1 xs, Sl Ty.int a2 c2 ys] []
    (fun s : Option Addr × Nat => .slice s.1 (puts (xs ++ ys)).length s.2) (fun s => [Sl Ty.int s.1 s.2 (puts (xs ++ ys))]) (fun s => []) := by
  refine enter Tryz.func27 rfl Tryz.ntmps27 rfl fun b => ?_
  refine GX.wR ?_; intros
  refine GX.o (cl (concat_spec _ 2 xs ys h1 h2) fun s => ?_)
  obtain ⟨ao, cap⟩ := s
  dsimp only
  have hl : (xs ++ ys).length ≤ 800000 := by simp; omega
  generalize xs ++ ys = zs at hl ⊢
  refine GX.wR ?_; intros
  refine GX.opn ao fun g1 g2 ga => ?_
  have h7 := once_len (sorted zs)
  have h6 := sorted_len zs
  obtain ⟨rfl, rfl, rfl⟩ | ⟨g, rfl⟩ := ga
  · refine GX.o (cl (valuesG_spec none ([] : List Int).length 0) fun bl => ?_)
    refine GX.wR ?_; intros
    refine GX.o (cl (sortedN_spec bl) fun s => ?_)
    refine GX.wR ?_; intros
    refine GX.ownNil 3 Ty.int ?_
    refine GX.o (cl (compact_spec none 0 [] (by simp)) fun _ => ?_)
    have e0 : once ([] : List Int) = puts [] := by
      have := sorted_puts []
      unfold sorted at this
      rwa [List.mergeSort_nil] at this
    rw [e0]
    refine frz none ?_
    refine GX.wR ?_; intros
    exact rt1 (none, 0) rfl
  · refine GX.o (cl (valuesG_spec (some ⟨g, 0, none⟩) zs.length cap) fun bl => ?_)
    refine GX.wR ?_; intros
    refine GX.o (cl (sortedG_spec bl g 0 zs.length cap cap zs (by omega) (by omega)) fun s => ?_)
    obtain ⟨ao3, cap3⟩ := s
    dsimp only
    rw [List.drop_zero]
    refine GX.wR ?_; intros
    refine GX.o (cl (compact_spec ao3 cap3 (sorted zs) (by omega)) fun _ => ?_)
    rw [sorted_puts]
    refine frz ao3 ?_
    refine GX.wR ?_; intros
    exact rt1 (ao3, cap3) rfl
end Go.Proofs.YtomfpmbapdhbgaaGreat

/- A variable that holds a slice stays from now on. No program in sight. -/
namespace Go.GX
open Go Go.RowKit Go.RR Go.RX
/-- A variable that holds a slice that stays, and is not turned from now on. -/
theorem frzS {n : Nat} {env : Env} {b : Base} {ps : List Pf} {hp : List Res} {K : Act → World → Prop} (bl : Nat) {α : Type} (e : Ty α) (xs : List α) {t : TypeId} {vs : List Value} {a : Option Addr} {m c : Nat} {rest : List Res} [hf : FRow bl hp t vs rest] (h : G n env b (Pt (Ty.slice e) bl 0 xs :: ps) rest K) (hv : vs = [.slice a m c] := by exact rfl) (hr : Reads ps (.slice a m c) (Ty.slice e) xs := by first | exact Go.GX.Rds.r) : G n env b ps hp K :=
  frz_stA hf.p (fun F w h1 h2 => by
    have hrow : Row w bl t vs := h2
    subst hv
    have hd : (Ty.slice e).rd F w (Value.slice a m c).cells.toList xs := hr.as F w h1
    exact ⟨.inr rfl, hrow.lt, _, fun j c hj => by rw [Nat.zero_add]; exact hrow.cell_some hj, (Ty.slice e).move hd (fun _ _ h => .inl h) (Agree.refl _ _)⟩) h
end Go.GX

/- Where the first one of a list is. No program in sight. -/
namespace Go.Proofs.YtomfpmbapdhbgaaGreat
/-- Where the first one is; -1: there is none. -/
def idxF (p : Int → Bool) (xs : List Int) : Int := match xs.findIdx? p with | some i => (i : Int) | none => -1
theorem idxF_some {p : Int → Bool} {xs : List Int} {i : Nat} {x : Int} (hx : xs[i]? = some x) (hp : p x = true) (hn : ∀ y ∈ xs.take i, p y = false) : idxF p xs = i := by
  have hl := (List.getElem?_eq_some_iff.1 hx).1
  have : xs.findIdx? p = some i := by
    rw [List.findIdx?_eq_some_iff_getElem]
    refine ⟨hl, by rw [(List.getElem?_eq_some_iff.1 hx).2]; exact hp, fun j hj => ?_⟩
    have := hn (xs[j]'(by omega)) (List.mem_take_iff_getElem.2 ⟨j, by omega, rfl⟩)
    simp [this]
  unfold idxF; rw [this]
theorem idxF_none {p : Int → Bool} {xs : List Int} (hn : ∀ y ∈ xs, p y = false) : idxF p xs = -1 := by
  have : xs.findIdx? p = none := List.findIdx?_eq_none_iff.2 hn
  unfold idxF; rw [this]
theorem idxF_any (p : Int → Bool) (xs : List Int) : decide (0 ≤ idxF p xs) = xs.any p := by
  unfold idxF
  cases h : xs.findIdx? p with
  | none =>
    have := List.findIdx?_eq_none_iff.1 h
    have e : xs.any p = false := List.any_eq_false.2 fun x hx => by simp [this x hx]
    rw [e]; rfl
  | some i =>
    obtain ⟨hl, hp, _⟩ := List.findIdx?_eq_some_iff_getElem.1 h
    have e : xs.any p = true := List.any_eq_true.2 ⟨_, List.getElem_mem hl, hp⟩
    rw [e]; simp
theorem take_all_succ {p : Int → Bool} {xs : List Int} {i : Nat} {x : Int} (hx : xs[i]? = some x) (hp : p x = false) (hn : ∀ y ∈ xs.take i, p y = false) : ∀ y ∈ xs.take (i + 1), p y = false := by
  intro y hy
  rw [List.take_add_one, hx, List.mem_append] at hy
  rcases hy with hy | hy
  · exact hn y hy
  · simp at hy; subst hy; exact hp

end Go.Proofs.YtomfpmbapdhbgaaGreat

/- slices.IndexFunc over lists of ints that stay. -/
namespace Go.Proofs.YtomfpmbapdhbgaaGreat
open Go Go.RR Go.RX Go.GX
attribute [local irreducible] wpList Code.wp wpPlan Exit.then Exit.inBlock bodyPost NoPanic Went GX.Post GX.Again GX.Meet GX.RowR GX.Own GX.Owns GX.Box GX.Sl GX.Pt GX.Ag GX.MapR GX.Kept GX.Pin

theorem indexFunc_spec (ao : Option Addr) (cap : Nat) (xs : List Int) (fid : Nat) (caps : List Value) (psC : List Pf) (hpC : List Res) (p : Int → Bool) [UFunc Tryz.prog fid]
    (hf : ∀ x ∈ xs, Does Tryz.prog fid (.int .i64 x :: caps) psC hpC (fun _ : Unit => .bool (p x)) (fun _ => []) (fun _ => hpC)) :
    Does Tryz.prog 69 [.slice ao xs.length cap, .func (.func fid) #[] caps.toArray] (Sl Ty.int ao cap xs :: psC) hpC (fun _ : Unit => .int .i64 (idxF p xs)) (fun _ => []) (fun _ => hpC) := by
  refine enter Tryz.func69 rfl Tryz.ntmps69 rfl fun b => ?_
  refine sln ao fun hl1 hl2 _ => ?_
  repeat (first | (apply GX.s_list; first | apply GX.nil | (refine GX.o ?_; first | (apply GX.k_load; first | refine GX.lr ?_ | refine GX.lrA ?_ | refine GX.ln ?_ | refine GX.lb ?_ | refine GX.lh ?_ | (refine GX.ls ?_; intro ao cap _ _) | (refine GX.lA ?_; intro cs) | (refine GX.l0 ?_; intro cs) | refine GX.o1n ?_ | refine GX.o1b ?_ | refine GX.o1h ?_ | (refine GX.o1s ?_; intro ao cap _ _) | refine GX.omn ?_ | refine GX.omb ?_ | refine GX.omh ?_ | (refine GX.oms ?_; intro ao cap _ _) | refine GX.ofn ?_ | refine GX.ofb ?_ | refine GX.ofh ?_ | (refine GX.ofs ?_; intro ao cap _ _) | (refine GX.oA ?_; intro cs)) | (apply GX.k_move; refine GX.m ?_) | (apply GX.k_indexAddr; first | refine GX.io1 ?_ | refine GX.ioh ?_ | refine GX.i1 ?_ | refine GX.ih ?_ | (refine GX.ix ?_; intro bl o)) | (apply GX.k_binOp_lss; refine GX.b_lss ?_) | (apply GX.k_binOp_add; first | refine GX.b_inc ?_ | refine GX.b_add ?_ | refine GX.b_addw ?_) | (apply GX.k_assign; refine GX.a ?_) | (apply GX.k_call; refine GX.c_len ?_)) | refine GX.gt ?_ | refine GX.gf ?_ | refine GX.gbt ?_ | refine GX.gbf ?_ | refine GX.un ?_ | refine GX.un0 ?_) | apply GX.then_normal | apply GX.seq | apply GX.region | (apply GX.s_cond; first | refine GX.ct ?_ | refine GX.cf ?_ | refine GX.cdf ?_ | refine GX.cdt ?_ | refine GX.cbt ?_ | refine GX.cbf ?_) | apply GX.skip | apply GX.block | apply GX.inBlock_normal | apply GX.exit | apply GX.then_exit | apply GX.inBlock_exit | refine GX.ibo ?_ | apply GX.ret | apply GX.then_ret | apply GX.inBlock_ret)
  refine GX.loop (σ := Nat) (fun i => [(0, .slice ao xs.length cap), (1, .func (.func fid) #[] caps.toArray), (7, .int .i64 (xs.length : Int)), (8, .int .i64 (i : Int))]) (fun _ => []) (fun _ => hpC)
    (fun i => i ≤ xs.length ∧ ∀ y ∈ xs.take i, p y = false) (fun i => xs.length - i) 0 ⟨rfl, rfl, rfl, rfl, trivial⟩ ⟨by omega, by simp⟩ (fun i hi => ?_) (h2 := SelR.all _)
  obtain ⟨hi, hn⟩ := hi
  by_cases hlt : i < xs.length
  · obtain ⟨x, hx⟩ := get_lt hlt
    repeat (first | (apply GX.s_list; first | apply GX.nil | (refine GX.o ?_; first | (apply GX.k_load; first | refine GX.lr ?_ | refine GX.lrA ?_ | refine GX.ln ?_ | refine GX.lb ?_ | refine GX.lh ?_ | (refine GX.ls ?_; intro ao cap _ _) | (refine GX.lA ?_; intro cs) | (refine GX.l0 ?_; intro cs) | refine GX.o1n ?_ | refine GX.o1b ?_ | refine GX.o1h ?_ | (refine GX.o1s ?_; intro ao cap _ _) | refine GX.omn ?_ | refine GX.omb ?_ | refine GX.omh ?_ | (refine GX.oms ?_; intro ao cap _ _) | refine GX.ofn ?_ | refine GX.ofb ?_ | refine GX.ofh ?_ | (refine GX.ofs ?_; intro ao cap _ _) | (refine GX.oA ?_; intro cs)) | (apply GX.k_move; refine GX.m ?_) | (apply GX.k_indexAddr; first | refine GX.io1 ?_ | refine GX.ioh ?_ | refine GX.i1 ?_ | refine GX.ih ?_ | (refine GX.ix ?_; intro bl o)) | (apply GX.k_binOp_lss; refine GX.b_lss ?_) | (apply GX.k_binOp_add; first | refine GX.b_inc ?_ | refine GX.b_add ?_ | refine GX.b_addw ?_) | (apply GX.k_assign; refine GX.a ?_) | (apply GX.k_call; refine GX.c_len ?_)) | refine GX.gt ?_ | refine GX.gf ?_ | refine GX.gbt ?_ | refine GX.gbf ?_ | refine GX.un ?_ | refine GX.un0 ?_) | apply GX.then_normal | apply GX.seq | apply GX.region | (apply GX.s_cond; first | refine GX.ct ?_ | refine GX.cf ?_ | refine GX.cdf ?_ | refine GX.cdt ?_ | refine GX.cbt ?_ | refine GX.cbf ?_) | apply GX.skip | apply GX.block | apply GX.inBlock_normal | apply GX.exit | apply GX.then_exit | apply GX.inBlock_exit | refine GX.ibo ?_ | apply GX.ret | apply GX.then_ret | apply GX.inBlock_ret)
    refine GX.o (clvA (fs := []) (vs := [.int .i64 x]) (cs := caps) (hf x (List.mem_of_getElem? hx)) fun _ => ?_)
    by_cases hp : p x = true
    · repeat (first | (apply GX.s_list; first | apply GX.nil | (refine GX.o ?_; first | (apply GX.k_load; first | refine GX.lr ?_ | refine GX.lrA ?_ | refine GX.ln ?_ | refine GX.lb ?_ | refine GX.lh ?_ | (refine GX.ls ?_; intro ao cap _ _) | (refine GX.lA ?_; intro cs) | (refine GX.l0 ?_; intro cs) | refine GX.o1n ?_ | refine GX.o1b ?_ | refine GX.o1h ?_ | (refine GX.o1s ?_; intro ao cap _ _) | refine GX.omn ?_ | refine GX.omb ?_ | refine GX.omh ?_ | (refine GX.oms ?_; intro ao cap _ _) | refine GX.ofn ?_ | refine GX.ofb ?_ | refine GX.ofh ?_ | (refine GX.ofs ?_; intro ao cap _ _) | (refine GX.oA ?_; intro cs)) | (apply GX.k_move; refine GX.m ?_) | (apply GX.k_indexAddr; first | refine GX.io1 ?_ | refine GX.ioh ?_ | refine GX.i1 ?_ | refine GX.ih ?_ | (refine GX.ix ?_; intro bl o)) | (apply GX.k_binOp_lss; refine GX.b_lss ?_) | (apply GX.k_binOp_add; first | refine GX.b_inc ?_ | refine GX.b_add ?_ | refine GX.b_addw ?_) | (apply GX.k_assign; refine GX.a ?_) | (apply GX.k_call; refine GX.c_len ?_)) | refine GX.gt ?_ | refine GX.gf ?_ | refine GX.gbt ?_ | refine GX.gbf ?_ | refine GX.un ?_ | refine GX.un0 ?_) | apply GX.then_normal | apply GX.seq | apply GX.region | (apply GX.s_cond; first | refine GX.ct ?_ | refine GX.cf ?_ | refine GX.cdf ?_ | refine GX.cdt ?_ | refine GX.cbt ?_ | refine GX.cbf ?_) | apply GX.skip | apply GX.block | apply GX.inBlock_normal | apply GX.exit | apply GX.then_exit | apply GX.inBlock_exit | refine GX.ibo ?_ | apply GX.ret | apply GX.then_ret | apply GX.inBlock_ret)
      exact rt1 () (congrArg (Value.int .i64) (idxF_some hx hp hn)) (h2 := SelR.all _)
    · have hp : p x = false := by simpa using hp
      repeat (first | (apply GX.s_list; first | apply GX.nil | (refine GX.o ?_; first | (apply GX.k_load; first | refine GX.lr ?_ | refine GX.lrA ?_ | refine GX.ln ?_ | refine GX.lb ?_ | refine GX.lh ?_ | (refine GX.ls ?_; intro ao cap _ _) | (refine GX.lA ?_; intro cs) | (refine GX.l0 ?_; intro cs) | refine GX.o1n ?_ | refine GX.o1b ?_ | refine GX.o1h ?_ | (refine GX.o1s ?_; intro ao cap _ _) | refine GX.omn ?_ | refine GX.omb ?_ | refine GX.omh ?_ | (refine GX.oms ?_; intro ao cap _ _) | refine GX.ofn ?_ | refine GX.ofb ?_ | refine GX.ofh ?_ | (refine GX.ofs ?_; intro ao cap _ _) | (refine GX.oA ?_; intro cs)) | (apply GX.k_move; refine GX.m ?_) | (apply GX.k_indexAddr; first | refine GX.io1 ?_ | refine GX.ioh ?_ | refine GX.i1 ?_ | refine GX.ih ?_ | (refine GX.ix ?_; intro bl o)) | (apply GX.k_binOp_lss; refine GX.b_lss ?_) | (apply GX.k_binOp_add; first | refine GX.b_inc ?_ | refine GX.b_add ?_ | refine GX.b_addw ?_) | (apply GX.k_assign; refine GX.a ?_) | (apply GX.k_call; refine GX.c_len ?_)) | refine GX.gt ?_ | refine GX.gf ?_ | refine GX.gbt ?_ | refine GX.gbf ?_ | refine GX.un ?_ | refine GX.un0 ?_) | apply GX.then_normal | apply GX.seq | apply GX.region | (apply GX.s_cond; first | refine GX.ct ?_ | refine GX.cf ?_ | refine GX.cdf ?_ | refine GX.cdt ?_ | refine GX.cbt ?_ | refine GX.cbf ?_) | apply GX.skip | apply GX.block | apply GX.inBlock_normal | apply GX.exit | apply GX.then_exit | apply GX.inBlock_exit | refine GX.ibo ?_ | apply GX.ret | apply GX.then_ret | apply GX.inBlock_ret)
      exact again (i + 1) ⟨rfl, rfl, rfl, rfl, trivial⟩ ⟨by omega, take_all_succ hx hp hn⟩ (by omega) (h2 := SelR.all _)
  · have hil : i = xs.length := by omega
    subst hil
    repeat (first | (apply GX.s_list; first | apply GX.nil | (refine GX.o ?_; first | (apply GX.k_load; first | refine GX.lr ?_ | refine GX.lrA ?_ | refine GX.ln ?_ | refine GX.lb ?_ | refine GX.lh ?_ | (refine GX.ls ?_; intro ao cap _ _) | (refine GX.lA ?_; intro cs) | (refine GX.l0 ?_; intro cs) | refine GX.o1n ?_ | refine GX.o1b ?_ | refine GX.o1h ?_ | (refine GX.o1s ?_; intro ao cap _ _) | refine GX.omn ?_ | refine GX.omb ?_ | refine GX.omh ?_ | (refine GX.oms ?_; intro ao cap _ _) | refine GX.ofn ?_ | refine GX.ofb ?_ | refine GX.ofh ?_ | (refine GX.ofs ?_; intro ao cap _ _) | (refine GX.oA ?_; intro cs)) | (apply GX.k_move; refine GX.m ?_) | (apply GX.k_indexAddr; first | refine GX.io1 ?_ | refine GX.ioh ?_ | refine GX.i1 ?_ | refine GX.ih ?_ | (refine GX.ix ?_; intro bl o)) | (apply GX.k_binOp_lss; refine GX.b_lss ?_) | (apply GX.k_binOp_add; first | refine GX.b_inc ?_ | refine GX.b_add ?_ | refine GX.b_addw ?_) | (apply GX.k_assign; refine GX.a ?_) | (apply GX.k_call; refine GX.c_len ?_)) | refine GX.gt ?_ | refine GX.gf ?_ | refine GX.gbt ?_ | refine GX.gbf ?_ | refine GX.un ?_ | refine GX.un0 ?_) | apply GX.then_normal | apply GX.seq | apply GX.region | (apply GX.s_cond; first | refine GX.ct ?_ | refine GX.cf ?_ | refine GX.cdf ?_ | refine GX.cdt ?_ | refine GX.cbt ?_ | refine GX.cbf ?_) | apply GX.skip | apply GX.block | apply GX.inBlock_normal | apply GX.exit | apply GX.then_exit | apply GX.inBlock_exit | refine GX.ibo ?_ | apply GX.ret | apply GX.then_ret | apply GX.inBlock_ret)
    rw [List.take_length] at hn
    exact rt1 () (congrArg (Value.int .i64) (idxF_none hn)) (h2 := SelR.all _)
end Go.Proofs.YtomfpmbapdhbgaaGreat

/- slices.ContainsFunc over lists of ints. -/
namespace Go.Proofs.YtomfpmbapdhbgaaGreat
open Go Go.RR Go.RX Go.GX
attribute [local irreducible] wpList Code.wp wpPlan Exit.then Exit.inBlock bodyPost NoPanic Went GX.Post GX.Again GX.Meet GX.RowR GX.Own GX.Owns GX.Box GX.Sl GX.Pt GX.Ag GX.MapR GX.Kept GX.Pin

theorem containsFunc_spec (ao : Option Addr) (cap : Nat) (xs : List Int) (fid : Nat) (caps : List Value) (psC : List Pf) (hpC : List Res) (p : Int → Bool) [UFunc Tryz.prog fid]
    (hf : ∀ x ∈ xs, Does Tryz.prog fid (.int .i64 x :: caps) psC hpC (fun _ : Unit => .bool (p x)) (fun _ => []) (fun _ => hpC)) :
    Does Tryz.prog 44 [.slice ao xs.length cap, .func (.func fid) #[] caps.toArray] (Sl Ty.int ao cap xs :: psC) hpC (fun _ : Unit => .bool (xs.any p)) (fun _ => []) (fun _ => hpC) := by
  refine enter Tryz.func44 rfl Tryz.ntmps44 rfl fun b => ?_
  repeat (first | (apply GX.s_list; first | apply GX.nil | (refine GX.o ?_; first | (apply GX.k_move; refine GX.m ?_) | (apply GX.k_assign; refine GX.a ?_) | (apply GX.k_binOp_geq; refine GX.b_geq ?_)) | refine GX.gt ?_ | refine GX.gf ?_ | refine GX.gbt ?_ | refine GX.gbf ?_ | refine GX.un ?_ | refine GX.un0 ?_) | apply GX.then_normal | apply GX.seq | apply GX.region | (apply GX.s_cond; first | refine GX.ct ?_ | refine GX.cf ?_ | refine GX.cdf ?_ | refine GX.cdt ?_ | refine GX.cbt ?_ | refine GX.cbf ?_) | apply GX.skip | apply GX.block | apply GX.inBlock_normal | apply GX.exit | apply GX.then_exit | apply GX.inBlock_exit | refine GX.ibo ?_ | apply GX.ret | apply GX.then_ret | apply GX.inBlock_ret)
  refine GX.o (clA (indexFunc_spec ao cap xs fid caps psC hpC p hf) fun _ => ?_)
  rw [← idxF_any]
  repeat (first | (apply GX.s_list; first | apply GX.nil | (refine GX.o ?_; first | (apply GX.k_move; refine GX.m ?_) | (apply GX.k_assign; refine GX.a ?_) | (apply GX.k_binOp_geq; refine GX.b_geq ?_)) | refine GX.gt ?_ | refine GX.gf ?_ | refine GX.gbt ?_ | refine GX.gbf ?_ | refine GX.un ?_ | refine GX.un0 ?_) | apply GX.then_normal | apply GX.seq | apply GX.region | (apply GX.s_cond; first | refine GX.ct ?_ | refine GX.cf ?_ | refine GX.cdf ?_ | refine GX.cdt ?_ | refine GX.cbt ?_ | refine GX.cbf ?_) | apply GX.skip | apply GX.block | apply GX.inBlock_normal | apply GX.exit | apply GX.then_exit | apply GX.inBlock_exit | refine GX.ibo ?_ | apply GX.ret | apply GX.then_ret | apply GX.inBlock_ret)
  exact rt1 () rfl (h2 := SelR.all _)
end Go.Proofs.YtomfpmbapdhbgaaGreat
