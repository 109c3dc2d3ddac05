/- How what comes in reads, with what the form's reach says of its slices' lengths. No program in sight. -/
import Derived.Test.YtnpbadghodkhlaaGConv
import Derived.SizedLaws
namespace Go.GX
open Go Go.RowKit Go.RR Go.RX
section
variable {P : Program}
def LeR {H : Type} (P : Program) (t : TypeId) (d : DataW H) : Prop := ∀ n ∈ d.weights P t, n ≤ reachBytes
def ConvW (P : Program) (t : TypeId) {α : Type} (e : Ty α) (ok : α → Prop) : Prop :=
  ∀ {H : Type} (enc : TypeId × Value → H) (w : World) (spare : Nat → Bool) (held : Bool) (fuel : Nat) (cs : List Value) (x : DataW H × List MemPlace),
    DataW.trod enc P w 0 spare held fuel t cs = some x → LeR P t x.1 → ∃ y, e.rd (fun k => k < w.heap.size) w cs y ∧ ok y
theorem convW_of {t : TypeId} {α : Type} {e : Ty α} {ok : α → Prop} (h : Conv P t e ok) : ConvW P t e ok := fun enc w spare held fuel cs x hx _ => h enc w spare held fuel cs x hx
theorem weights_mem_all {H : Type} {e : TypeId} : ∀ {l : List (DataW H)} {d : DataW H}, d ∈ l → ∀ n ∈ d.weights P e, n ∈ DataW.weightsAll P e l
  | x :: l, d, hd, n, hn => by
    simp only [DataW.weightsAll, List.mem_append]
    rcases List.mem_cons.1 hd with rfl | hd
    · exact .inl hn
    · exact .inr (weights_mem_all hd n hn)
theorem convW_slice {t et : TypeId} {α : Type} {e : Ty α} {ok : α → Prop} (ht : P.underlying t = some (.slice et)) (hs : P.cellsOf et = e.size) (hp : 0 < e.size) (he : ConvW P et e ok) : ConvW P t (Ty.slice e) (fun l => (∀ x ∈ l, ok x) ∧ l.length * P.bytesOf et ≤ reachBytes) := by
  intro H enc w spare held fuel cs x hx hw
  rcases Go.Deep.open_slice ht hx with ⟨rfl, _⟩ | ⟨a, len, cap, m, n, D, Pl, rfl, _, hl, hm, hmm, rfl, hel⟩
  · exact ⟨[], ⟨none, 0, rfl, by simp, by omega, fun i x hx => by simp at hx⟩, by simp, by simp⟩
  · have hml : len ≤ m := by rw [hmm]; split <;> omega
    have hwt : ∀ k, k ∈ ((((List.range len).map D).length + ((List.range (m - len)).map fun j => D (len + j)).length) * P.bytesOf et :: (DataW.weightsAll P et ((List.range len).map D) ++ DataW.weightsAll P et ((List.range (m - len)).map fun j => D (len + j)))) → k ≤ reachBytes := fun k hk => hw k (by simpa only [DataW.weights, ht] using hk)
    have hlen : len * P.bytesOf et ≤ reachBytes := by
      have h1 := hwt _ List.mem_cons_self
      simp only [List.length_map, List.length_range] at h1
      exact Nat.le_trans (Nat.mul_le_mul_right _ (by omega)) h1
    obtain ⟨l, hll, hlp⟩ := choose_list (α := α × List Value) (p := fun i q => w.cells? 0 (a.add (i * e.size)) e.size = some q.2 ∧ e.rd (fun k => k < w.heap.size) w q.2 q.1 ∧ ok q.1) len (fun i hi => by
      obtain ⟨cs', h1, h2⟩ := hel i (by omega)
      have hD : LeR P et (D i) := fun k hk => hwt k (List.mem_cons_of_mem _ (List.mem_append_left _ (weights_mem_all (List.mem_map.2 ⟨i, List.mem_range.2 hi, rfl⟩) k hk)))
      obtain ⟨y, hy⟩ := he enc w spare held n cs' _ h2 hD
      rw [hs] at h1
      exact ⟨(y, cs'), h1, hy⟩)
    refine ⟨l.map (·.1), ⟨some a, cap, by simp [hll], by simp [hll, hl], by simp only [maxLen] at hm; omega, fun i x hx => ?_⟩, fun x hx => ?_, by rw [List.length_map, hll]; exact hlen⟩
    · rw [List.getElem?_map] at hx
      obtain ⟨⟨y, cs'⟩, hq, rfl⟩ := Option.map_eq_some_iff.1 hx
      obtain ⟨h1, h2, _⟩ := hlp i _ hq
      dsimp only at h1 h2 ⊢
      have hi : i < len := by have := (List.getElem?_eq_some_iff.1 hq).1; omega
      obtain ⟨_, hlen, hc⟩ := World.cells?_some h1
      have hspot : a.spot = none := by
        obtain ⟨cs0, g1, g2⟩ := hel 0 (by omega)
        rw [hs] at g1
        obtain ⟨_, g3, g4⟩ := World.cells?_some g1
        have := g4 0 (by omega)
        simp only [Nat.zero_mul, Addr.add_zero'] at this
        have g5 : cs0[0]? = some cs0[0] := List.getElem?_eq_getElem (by omega)
        cases hsp : a.spot with
        | none => rfl
        | some q =>
          exfalso
          have h6 : w.cell? a = some cs0[0] := by simpa [g5] using this
          unfold World.cell? at h6
          split at h6
          · simp [hsp] at h6
          · cases h6
      obtain ⟨b, o, sp⟩ := a
      dsimp only at hspot
      subst hspot
      have hcell : CellsAt w b (o + i * e.size) cs' := fun j c hj => by
        have hjl : j < e.size := by have := (List.getElem?_eq_some_iff.1 hj).1; omega
        have := hc j (by omega)
        rw [Addr.add_lit, Addr.add_lit] at this
        rw [this, hj]
      have h0 : cs'[0]? = some cs'[0] := List.getElem?_eq_getElem (by omega)
      have hb := cell_lt (hcell 0 _ h0)
      exact ⟨b, o, cs', rfl, hb, hb, hcell, h2⟩
    · obtain ⟨q, hq, rfl⟩ := List.mem_map.1 hx
      obtain ⟨i, hi⟩ := List.getElem?_of_mem hq
      exact (hlp i q hi).2.2
def ConvWF (P : Program) (fs : List Field) (off : Nat) {α : Type} (r : Ty α) (ok : α → Prop) : Prop :=
  ∀ {H : Type} (enc : TypeId × Value → H) (w : World) (spare : Nat → Bool) (held : Bool) (fuel : Nat) (cs : List Value) (xs : List (DataW H × List MemPlace)),
    off + r.size = cs.length → fs.mapM (fun f => DataW.trod enc P w 0 spare held fuel f.type ((cs.drop f.offset).take (P.cellsOf f.type))) = some xs →
    (∀ n ∈ DataW.weightsEach P (fs.map (·.type)) (xs.map (·.1)), n ≤ reachBytes) → ∃ y, r.rd (fun k => k < w.heap.size) w (cs.drop off) y ∧ ok y
theorem convWF_nil {off : Nat} : ConvWF P [] off Ty.unit (fun _ => True) := by
  intro H enc w spare held fuel cs xs hl _ _
  exact ⟨(), by simp [Ty.unit] at hl ⊢; omega, trivial⟩
theorem convWF_cons {f : Field} {fs : List Field} {off : Nat} {α β : Type} {r : Ty α} {s : Ty β} {ok1 : α → Prop} {ok2 : β → Prop} (ho : f.offset = off) (hs : P.cellsOf f.type = r.size) (h1 : ConvW P f.type r ok1) (h2 : ConvWF P fs (off + r.size) s ok2) : ConvWF P (f :: fs) off (Ty.pair r s) (fun x => ok1 x.1 ∧ ok2 x.2) := by
  intro H enc w spare held fuel cs xs hl hx hw
  rw [List.mapM_cons] at hx
  cases hy : DataW.trod enc P w 0 spare held fuel f.type ((cs.drop f.offset).take (P.cellsOf f.type)) with
  | none => rw [hy] at hx; simp at hx
  | some y =>
    rw [hy] at hx
    cases hz : fs.mapM (fun f => DataW.trod enc P w 0 spare held fuel f.type ((cs.drop f.offset).take (P.cellsOf f.type))) with
    | none => rw [hz] at hx; simp at hx
    | some zs =>
      rw [hz] at hx
      simp only [bind, Option.bind_some, pure, Option.some.injEq] at hx
      subst hx
      simp only [List.map_cons, DataW.weightsEach, List.mem_append] at hw
      obtain ⟨u, hu, ou⟩ := h1 enc w spare held fuel _ _ hy fun n hn => hw n (.inl hn)
      obtain ⟨v, hv, ov⟩ := h2 enc w spare held fuel cs zs (by simp only [Ty.pair] at hl; omega) hz fun n hn => hw n (.inr hn)
      rw [ho, hs] at hu
      refine ⟨(u, v), ⟨_, _, ?_, hu, hv⟩, ou, ov⟩
      rw [← List.drop_drop, List.take_append_drop]
theorem convW_struct {t : TypeId} {fs : Array Field} {l : List Field} {α : Type} {r : Ty α} {ok : α → Prop} (ht : P.underlying t = some (.struct fs)) (hl : fs.toList = l) (hs : P.cellsOf t = r.size) (h : ConvWF P l 0 r ok) : ConvW P t r ok := by
  intro H enc w spare held fuel cs x hx hw
  subst hl
  cases fuel with
  | zero => simp [DataW.trod] at hx
  | succ n =>
    unfold DataW.trod at hx
    rw [ht] at hx
    simp only at hx
    split at hx
    · rename_i hl
      obtain ⟨xs, hxs, rfl⟩ := Option.map_eq_some_iff.1 hx
      have := h enc w spare held n cs xs (by omega) hxs fun k hk => hw k (by simpa only [DataW.weights, ht] using hk)
      simpa using this
    · cases hx
theorem convW_co {t : TypeId} {α β : Type} {r : Ty α} {ok : α → Prop} {g : β → α} {ok' : β → Prop} (inv : α → β) (h1 : ∀ x, g (inv x) = x) (h2 : ∀ x, ok x → ok' (inv x)) (h : ConvW P t r ok) : ConvW P t (Ty.co r g) ok' := by
  intro H enc w spare held fuel cs x hx hw
  obtain ⟨y, hy, ho⟩ := h enc w spare held fuel cs x hx hw
  exact ⟨inv y, by show r.rd _ _ _ (g (inv y)); rw [h1]; exact hy, h2 y ho⟩
end
end Go.GX
