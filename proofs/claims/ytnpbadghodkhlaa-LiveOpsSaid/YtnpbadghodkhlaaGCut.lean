/- Parts of slices of one's own: cutting, and the built-in clear, for elements of one cell. No program in sight. -/
import Derived.Test.YtnpbadghodkhlaaGFork
namespace Go.GX
open Go Go.RowKit Go.RR Go.RX
section
variable {P : Program} {n : Nat} {env : Env} {b : Base} {ps : List Pf} {hp : List Res} {Q : Exit → Act → World → Prop} {K : Act → World → Prop}
variable {ty : TypeId} {pos : String} {aft : Array Edge} {gd : Option (Nat × Bool)} {α : Type} {e : Ty α}

theorem els_take {F : Nat → Prop} {w : World} : ∀ {xs : List α} {cs : List Value} (j : Nat), Els e F w cs xs → Els e F w (cs.take (j * e.size)) (xs.take j)
  | [], cs, j, h => by
    have h : cs = [] := h
    subst h; simp; rfl
  | x :: xs, cs, 0, h => by simp; rfl
  | x :: xs, cs, j + 1, ⟨c1, c2, h1, h2, h3⟩ => by
    have hl := e.len h2
    refine ⟨c1, c2.take (j * e.size), ?_, h2, els_take j h3⟩
    rw [h1, Nat.add_mul, Nat.one_mul, Nat.add_comm, ← hl, List.take_length_add_append]
/-- Fewer of them. -/
theorem ownTake (ao : Option Addr) (j : Nat) {t : TypeId} {cap : Nat} {xs : List α} {rest : List Res} [hf : FOwn ao hp t e cap xs rest] (h : G n env b ps (Own t e ao cap (xs.take j) :: rest) K) : G n env b ps hp K := by
  refine alter (hp1 := [Own t e ao cap xs]) (hp2 := [Own t e ao cap (xs.take j)]) hf.p ?_ ?_ h
  · intro F w h1 _
    refine ⟨fun r hr => ?_, by simp⟩
    obtain rfl : r = _ := by simpa using hr
    obtain ⟨cs, g1, g2⟩ : (Own t e ao cap xs).says F w := h1 _ (by simp)
    have hlen := els_take j g2
    rcases g1.2 with ⟨h3, h4⟩ | ⟨g, cap', cur, h3, hb, hg, h5, h6, h7, h8⟩
    · simp at h3
      obtain ⟨rfl, hx, rfl⟩ := h3
      subst hx
      have : cs = [] := g2
      subst this
      simp; exact own_none
    · simp at h3
      obtain ⟨rfl, rfl⟩ := h3
      refine ⟨cs.take (j * e.size), ⟨hlen.len, .inr ⟨g, cap, cur, rfl, hb, hg, ?_, h6, h7, ?_⟩⟩, hlen⟩
      · rw [List.length_take]; omega
      · have h8 : cur.toList.take (xs.length * e.size) = cs := h8
        show cur.toList.take ((xs.take j).length * e.size) = cs.take (j * e.size)
        rw [← h8, List.take_take, List.length_take, Nat.mul_min_mul_right]
  · rintro k ⟨r, hr, hk⟩
    obtain rfl : r = _ := by simpa using hr
    refine ⟨Own t e ao cap xs, by simp, ?_⟩
    have hk : Value.ownBlock (.slice ao (xs.take j).length cap) = some k := hk
    show Value.ownBlock (.slice ao xs.length cap) = some k
    cases ao <;> exact hk
section cutting
variable {t et : TypeId} {x y : Operand} {k : IntKind} {d : Nat}
/-- 's[:j]' of a slice of one's own, as a value. -/
theorem oh {ao : Option Addr} {m cap j sz : Nat} [ht : USlice P t et] [hs : USize P et sz] (h : G n ((d, .slice ao j cap) :: env) b ps hp K) (hx : ev env x = some (.slice ao m cap) := by exact rfl) (hy : ev env y = some (.int k (j : Int)) := by exact rfl) (hj : j ≤ cap := by omega) (hao : ∀ a, ao = some a → a.spot = none := by intro a ha; cases ha; rfl) (hd : Nat.blt d n = true := by exact rfl) :
    GO P n env b ps hp ⟨some d, .slice t x none (some y) none, ty, pos, aft, gd⟩ K Q := by
  refine rd1 (fun a ha o ho w _ => ?_) hd h
  have hb1 := sliceBound_run (P := P) (k := k) (i := (j : Int)) (y := cap) (c := .sliceAcap) (w := w) ⟨by omega, by omega⟩
  have e0 : (if cap = 0 then ao else ao.map (·.add (0 * sz))) = ao := by
    split
    · rfl
    · cases ao with
      | none => rfl
      | some a =>
        have := hao a rfl
        obtain ⟨b, o, sp⟩ := a
        dsimp only at this; subst this
        simp [Addr.add_lit]
  simp [execOp, ho, ha.ev hx, ha.ev hy, Instr.sliceAt, Instr.slice, run_underlying ht.u, Instr.sliceBounds, hb1, hs.s]
  simpa using e0
/-- 's[j:]', likewise. -/
theorem ol {g o m cap j sz : Nat} [ht : USlice P t et] [hs : USize P et sz] (h : ∀ o2, (j < cap → o2 = o + j * sz) → G n ((d, .slice (some ⟨g, o2, none⟩) (m - j) (cap - j)) :: env) b ps hp K) (hx : ev env x = some (.slice (some ⟨g, o, none⟩) m cap) := by exact rfl) (hy : ev env y = some (.int k (j : Int)) := by exact rfl) (hj : j ≤ m := by omega) (hm : m ≤ cap := by omega) (hd : Nat.blt d n = true := by exact rfl) :
    GO P n env b ps hp ⟨some d, .slice t x (some y) none none, ty, pos, aft, gd⟩ K Q := by
  refine rd1 (v := .slice (some ⟨g, if cap = j then o else o + j * sz, none⟩) (m - j) (cap - j)) (fun a ha o' ho w _ => ?_) hd (h _ (fun hlt => by rw [if_neg (by omega)]))
  have hb1 := sliceBound_run (P := P) (k := k) (i := (j : Int)) (y := m) (c := .sliceB) (w := w) ⟨by omega, by omega⟩
  by_cases hc : cap = j
  · simp [execOp, ho, ha.ev hx, ha.ev hy, Instr.sliceAt, Instr.slice, run_underlying ht.u, Instr.sliceBounds, hb1, hs.s, hc]
  · simp [execOp, ho, ha.ev hx, ha.ev hy, Instr.sliceAt, Instr.slice, run_underlying ht.u, Instr.sliceBounds, hb1, hs.s, hc, Addr.add_lit]

theorem effC {w w' : World} {c : Call} {v : Value} (hs : ∀ a, Has n env a → (execOp a.eval ⟨none, .call c, ty, pos, aft, gd⟩).run P w = .ok (.value v) w') (h : E n env w' K) : OW P n env w ⟨none, .call c, ty, pos, aft, gd⟩ K Q := by
  constructor; intro a ha
  show Oper.upon P _ a K Q ((execOp a.eval _).run P w)
  rw [hs a ha]
  exact h.run _ ha
/-- 'clear(s[k:])': what lies ahead stays. -/
theorem clr {z : α} {zv : Value} {g o m c cap k0 : Nat} {xs : List α} {rest : List Res} [ht : USlice P t et] [hz : UTy P et e z zv] [hf : FOwn (some ⟨g, 0, none⟩) hp et e cap xs rest] (h : ∀ ys, ys.length = xs.length → ys.take k0 = xs.take k0 → G n env b ps (Own et e (some ⟨g, 0, none⟩) cap ys :: rest) K)
    (hx : ev env x = some (.slice (some ⟨g, o, none⟩) m c)) (hes : e.size = 1) (hzs : zv.cells = #[zv]) (h1 : zv.oneCell' = true) (ho : m = 0 ∨ (k0 ≤ o ∧ o + m ≤ xs.length)) : GO P n env b ps hp ⟨none, .call { callee := .builtin .clear, args := #[x], argTypes := #[t] }, ty, pos, aft, gd⟩ K Q := by
  refine Acts.use (hp1 := [Own et e (some ⟨g, 0, none⟩) cap xs]) (ι := { ys : List α // ys.length = xs.length ∧ ys.take k0 = xs.take k0 }) (val := fun _ => undef) (pf := fun _ => []) (hr := fun ys => [Own et e (some ⟨g, 0, none⟩) cap ys.1]) ?_ hf.p (fun ys => h ys.1 ys.2.1 ys.2.2)
  intro F w K Q b s hk
  rcases Nat.eq_zero_or_pos m with hm | hm
  · subst hm
    refine effC (v := .tuple #[]) (w' := w) (fun a ha => ?_) (hk ⟨xs, rfl, rfl⟩ w (mkOk1 s (Upd.refl _ _) (s.rs (Own et e (some ⟨g, 0, none⟩) cap xs) (by simp)) (fun k hk _ => hk)))
    simp [execOp, ha.ev hx, resolve, invoke, builtin, Builtin.clear_, run_underlying ht.u]
  · obtain ⟨ho1, ho2⟩ : k0 ≤ o ∧ o + m ≤ xs.length := by omega
    obtain ⟨cs, tl, g1, g2, g3, g4, g5⟩ := own_open (s.rs (Own et e (some ⟨g, 0, none⟩) cap xs) (by simp))
    have hcl := g2.len
    rw [hes, Nat.mul_one] at hcl
    obtain ⟨w', k1, k2, k3⟩ := run_storeAll (P := P) (bl := g) (o := o) (te := et) (List.replicate m zv) (cs ++ tl) w 0 g1 (by simp; omega) (fun u hu => by rw [List.eq_of_mem_replicate hu]; exact h1)
    have hzc : (Builtin.zeroCells zv.cells m).toList = List.replicate m zv := by
      rw [hzs]
      simp [Builtin.zeroCells]
      apply List.ext_getElem
      · simp
      · intro i h1 h2; simp [Nat.mod_one]
    have hrd : e.rd F w [zv] z := by have := hz.rd F w; rw [hzs] at this; exact this
    refine effC (v := .tuple #[]) (w' := w') (fun a ha => ?_) (hk ⟨xs.take o ++ (List.replicate m z ++ xs.drop (o + m)), by simp; omega, by rw [List.take_append_of_le_length (by simp; omega), List.take_take, Nat.min_eq_left ho1]⟩ w' (mkOk1 s (k3.mono fun k _ hk => by subst hk; rfl) (own_close (cs := cs.take o ++ (List.replicate m zv ++ cs.drop (o + m))) (tl := tl) ?_ ?_ ?_ (by simp; omega) g5) (fun k hk _ => hk)))
    · obtain ⟨m', rfl⟩ : ∃ m', m = m' + 1 := ⟨m - 1, by omega⟩
      simp [execOp, ha.ev hx, resolve, invoke, builtin, Builtin.clear_, run_underlying ht.u, hz.zero, hzc, k1]
    · have e1 : over (cs ++ tl) (o + 0) (List.replicate m zv) = cs.take o ++ (List.replicate m zv ++ cs.drop (o + m)) ++ tl := by
        unfold over
        rw [Nat.add_zero, List.length_replicate, List.take_append_of_le_length (by omega), List.drop_append_of_le_length (by omega)]
        simp
      rw [e1] at k2; exact k2
    · have hu' : Upd (feet [Own et e (some ⟨g, 0, none⟩) cap xs]) w w' := k3.mono fun k _ hk => ⟨Own et e (some ⟨g, 0, none⟩) cap xs, by simp, by subst hk; rfl⟩
      have a1 := els_take o g2
      rw [hes, Nat.mul_one] at a1
      have a3 : Els e F w (cs.drop (o + m)) (xs.drop (o + m)) := by
        have key : ∀ (j : Nat) (xs : List α) (cs : List Value), Els e F w cs xs → Els e F w (cs.drop j) (xs.drop j) := by
          intro j
          induction j with
          | zero => intro xs cs h; simpa using h
          | succ j ih =>
            intro xs cs h
            cases xs with
            | nil => have h : cs = [] := h
                     subst h; simp; rfl
            | cons x xs =>
              obtain ⟨c1, c2, q1, q2, q3⟩ := h
              have hl := e.len q2
              rw [q1, List.drop_succ_cons, show j + 1 = c1.length + j by omega, ← List.drop_drop, List.drop_left]
              exact ih xs c2 q3
        exact key _ _ _ g2
      have a2 : Els e F w (List.replicate m zv) (List.replicate m z) := by
        have := els_rep hrd m
        simpa using this
      exact (a1.append (a2.append a3)).move (fun _ _ h => h) (agF s hu')
    · rw [← g3]; simp; omega
end cutting

/-- A call of a function value; one thing more is one's own, and is not touched. -/
theorem clvR {d : Nat} {f : FuncId} {x : Operand} {xs : List Operand} {ts : Array TypeId} {vs fs cs : List Value} {r : Res} {hpC : List Res} [hf : UFunc P f] {ps1 : List Pf} {σ : Type} {val : σ → Value}
    (hc : Does P f (fs ++ (vs ++ cs)) ps1 hpC val (fun _ => []) (fun _ => hpC)) (h : ∀ s, G n ((d, val s) :: env) b ps (r :: hpC) K)
    (hx : ev env x = some (.func (.func f) fs.toArray cs.toArray) := by exact rfl) (hxs : evs env xs = some vs := by exact rfl)
    (hps : Suf ps1 ps := by repeat (first | (with_reducible apply Go.GX.Suf.refl) | apply Go.GX.Suf.tail)) (hd : Nat.blt d n = true := by exact rfl) :
    GO P n env b ps (r :: hpC) ⟨some d, .call { callee := .value x, args := xs.toArray, argTypes := ts }, ty, pos, aft, gd⟩ K Q :=
  callvG (rest := [r]) hc hx hxs hps.sub (List.perm_append_comm (l₁ := [r])) hd (fun s => perm (List.perm_append_comm (l₂ := [r])) (by rw [List.nil_append]; exact h s))
theorem clR {d : Nat} {f : FuncId} {xs : List Operand} {ts : Array TypeId} {vs : List Value} [hf : UFunc P f] {ps1 : List Pf} {σ : Type} {val : σ → Value} {hp' : σ → List Res}
    (hc : Does P f vs ps1 hp val (fun _ => []) hp') (h : ∀ s, G n ((d, val s) :: env) b ps (hp' s) K) (hxs : evs env xs = some vs := by exact rfl)
    (hps : Suf ps1 ps := by repeat (first | (with_reducible apply Go.GX.Suf.refl) | apply Go.GX.Suf.tail)) (hd : Nat.blt d n = true := by exact rfl) :
    GO P n env b ps hp ⟨some d, .call { callee := .value (.func f), args := xs.toArray, argTypes := ts }, ty, pos, aft, gd⟩ K Q :=
  call hc hxs hps.sub (rest := []) (by rw [List.append_nil]) hd (fun s => by rw [List.nil_append, List.append_nil]; exact h s)
end
end Go.GX
