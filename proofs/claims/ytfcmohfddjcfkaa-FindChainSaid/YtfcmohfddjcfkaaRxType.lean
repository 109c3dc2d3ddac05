/- Readings by type: what a value that comes in stands for, in plain numbers, lists and pairs. No program in sight. -/
import Derived.ProofKit
import Derived.Deep.Slices
import Derived.Test.YtfcmohfddjcfkaaRxRead
namespace Go.RX
open Go Go.RowKit Go.RR

/-- How a type reads: how many cells it takes; what cells stand for, in a world, the slices' blocks in 'F'. -/
structure RT (α : Type) where
  size : Nat
  rd : (Nat → Prop) → World → List Value → α → Prop
  len : ∀ {F : Nat → Prop} {w : World} {cs : List Value} {x : α}, rd F w cs x → cs.length = size
  keep : ∀ {F O : Nat → Prop} {w w' : World} {cs : List Value} {x : α}, rd F w cs x → Upd O w w' → (∀ k, k < w.heap.size → F k → ¬ O k) → rd F w' cs x

namespace RT
def int : RT Int := ⟨1, fun _ _ cs x => cs = [.int .i64 x] ∧ -9223372036854775808 ≤ x ∧ x ≤ 9223372036854775807, fun h => by rw [h.1]; rfl, fun h _ _ => h⟩
def bool : RT Bool := ⟨1, fun _ _ cs x => cs = [.bool x], fun h => by rw [h]; rfl, fun h _ _ => h⟩
def byte : RT Int := ⟨1, fun _ _ cs x => cs = [.int .u8 x] ∧ 0 ≤ x ∧ x ≤ 255, fun h => by rw [h.1]; rfl, fun h _ _ => h⟩
def unit : RT Unit := ⟨0, fun _ _ cs _ => cs = [], fun h => by rw [h]; rfl, fun h _ _ => h⟩
def pair {α β : Type} (a : RT α) (b : RT β) : RT (α × β) where
  size := a.size + b.size
  rd F w cs x := ∃ c1 c2, cs = c1 ++ c2 ∧ a.rd F w c1 x.1 ∧ b.rd F w c2 x.2
  len := by rintro F w cs x ⟨c1, c2, rfl, h1, h2⟩; rw [List.length_append, a.len h1, b.len h2]
  keep := by rintro F O w w' cs x ⟨c1, c2, rfl, h1, h2⟩ hu hO; exact ⟨c1, c2, rfl, a.keep h1 hu hO, b.keep h2 hu hO⟩
/-- The elements of a slice, one after the other from o on. -/
def slice {α : Type} (e : RT α) : RT (List α) where
  size := 1
  rd F w cs xs := ∃ ao cap, cs = [.slice ao xs.length cap] ∧ xs.length ≤ cap ∧ cap ≤ 9223372036854775807 ∧
    ∀ i x, xs[i]? = some x → ∃ b o ecs, ao = some ⟨b, o, none⟩ ∧ F b ∧ (∀ j c, ecs[j]? = some c → w.cell? ⟨b, o + i * e.size + j, none⟩ = some c) ∧ e.rd F w ecs x
  len := by rintro F w cs xs ⟨ao, cap, rfl, _⟩; rfl
  keep := by
    rintro F O w w' cs xs ⟨ao, cap, rfl, h1, h2, h3⟩ hu hO
    refine ⟨ao, cap, rfl, h1, h2, fun i x hx => ?_⟩
    obtain ⟨b, o, ecs, e1, e2, e3, e4⟩ := h3 i x hx
    refine ⟨b, o, ecs, e1, e2, fun j c hc => ?_, e.keep e4 hu hO⟩
    have := e3 j c hc
    exact hu.cell this (hO b (World.cell_lt this) e2)

/-- A value of the type. -/
def At {α : Type} (r : RT α) (F : Nat → Prop) (w : World) (v : Value) (x : α) : Prop := r.rd F w v.cells.toList x
theorem At.keep {α : Type} {r : RT α} {F O : Nat → Prop} {w w' : World} {v : Value} {x : α} (h : r.At F w v x) (hu : Upd O w w') (hO : ∀ k, k < w.heap.size → F k → ¬ O k) : r.At F w' v x := RT.keep r h hu hO
end RT

/-! ### From the form's own reading -/
section
variable {P : Program}
/-- What the form reads at type t reads so. -/
def Conv (P : Program) (t : TypeId) {α : Type} (r : RT α) : Prop :=
  ∀ {H : Type} (enc : TypeId × Value → H) (w : World) (spare : Nat → Bool) (held : Bool) (fuel : Nat) (cs : List Value) (x : DataW H × List MemPlace),
    DataW.trod enc P w 0 spare held fuel t cs = some x → ∃ y, r.rd (fun k => k < w.heap.size) w cs y

theorem conv_int {t : TypeId} (h : P.underlying t = some (.int .i64)) : Conv P t RT.int := by
  intro H enc w spare held fuel cs x hx
  obtain ⟨n, rfl, _, hw⟩ := DataW.trod_int h hx
  simp only [Lit.wf, Bool.and_eq_true, decide_eq_true_eq] at hw
  exact ⟨n, rfl, hw⟩
theorem wf_i64 {a : Int} (h : (Lit.int .i64 a).wf = true) : -9223372036854775808 ≤ a ∧ a ≤ 9223372036854775807 := by
  simp only [Lit.wf, Bool.and_eq_true, decide_eq_true_eq] at h
  exact h
theorem conv_byte {t : TypeId} (h : P.underlying t = some (.int .u8)) : Conv P t RT.byte := by
  intro H enc w spare held fuel cs x hx
  obtain ⟨n, rfl, _, hw⟩ := DataW.trod_int h hx
  simp only [Lit.wf, Bool.and_eq_true, decide_eq_true_eq] at hw
  exact ⟨n, rfl, hw⟩
theorem conv_bool {t : TypeId} (h : P.underlying t = some .bool) : Conv P t RT.bool := by
  intro H enc w spare held fuel cs x hx
  cases fuel with
  | zero => simp [DataW.trod] at hx
  | succ n =>
    unfold DataW.trod at hx
    rw [h] at hx
    split at hx <;> first | (rename_i b _; exact ⟨_, rfl⟩) | simp_all

theorem choose_list {α : Type} {p : Nat → α → Prop} : ∀ (n : Nat), (∀ i, i < n → ∃ x, p i x) → ∃ l : List α, l.length = n ∧ ∀ (i : Nat) x, l[i]? = some x → p i x
  | 0, _ => ⟨[], rfl, by simp⟩
  | n + 1, h => by
    obtain ⟨l, hl, hp⟩ := choose_list n (fun i hi => h i (by omega))
    obtain ⟨x, hx⟩ := h n (by omega)
    refine ⟨l ++ [x], by simp [hl], fun i y hy => ?_⟩
    rcases Nat.lt_or_ge i l.length with hi | hi
    · rw [List.getElem?_append_left hi] at hy; exact hp i y hy
    · rw [List.getElem?_append_right hi] at hy
      rcases hq : i - l.length with _ | q
      · rw [hq] at hy; simp at hy; subst hy
        rw [show i = n by omega]; exact hx
      · rw [hq] at hy; simp at hy

theorem conv_slice {t e : TypeId} {α : Type} {r : RT α} (ht : P.underlying t = some (.slice e)) (hs : P.cellsOf e = r.size) (hp : 0 < r.size) (he : Conv P e r) : Conv P t r.slice := by
  intro H enc w spare held fuel cs x hx
  rcases Go.Deep.open_slice ht hx with ⟨rfl, _⟩ | ⟨a, len, cap, m, n, D, Pl, rfl, _, hl, hm, hmm, _, hel⟩
  · exact ⟨[], none, 0, rfl, by simp, by simp, by simp⟩
  · have hml : len ≤ m := by rw [hmm]; split <;> omega
    obtain ⟨l, hll, hlp⟩ := choose_list (α := α × List Value) (p := fun i q => w.cells? 0 (a.add (i * r.size)) r.size = some q.2 ∧ r.rd (fun k => k < w.heap.size) w q.2 q.1) len (fun i hi => by
      obtain ⟨cs', h1, h2⟩ := hel i (by omega)
      obtain ⟨y, hy⟩ := he enc w spare held n cs' _ h2
      rw [hs] at h1
      exact ⟨(y, cs'), h1, hy⟩)
    refine ⟨l.map (·.1), some a, cap, by simp [hll], by simp [hll, hl], by simp only [maxLen] at hm; omega, fun i x hx => ?_⟩
    rw [List.getElem?_map] at hx
    obtain ⟨⟨y, cs'⟩, hq, rfl⟩ := Option.map_eq_some_iff.1 hx
    obtain ⟨h1, h2⟩ := hlp i _ hq
    dsimp only at h1 h2 ⊢
    have hi : i < len := by have := (List.getElem?_eq_some_iff.1 hq).1; omega
    obtain ⟨_, hlen, hc⟩ := World.cells?_some h1
    have hspot : a.spot = none := by
      obtain ⟨cs0, g1, g2⟩ := hel 0 (by omega)
      rw [hs] at g1
      obtain ⟨_, g3, g4⟩ := World.cells?_some g1
      have := g4 0 (by omega)
      simp only [Nat.zero_mul, Addr.add_zero'] at this
      have g5 : cs0[0]? = some cs0[0] := List.getElem?_eq_getElem (by omega)
      cases hsp : a.spot with
      | none => rfl
      | some q =>
        exfalso
        have h6 : w.cell? a = some cs0[0] := by simpa [g5] using this
        unfold World.cell? at h6
        split at h6
        · simp [hsp] at h6
        · cases h6
    obtain ⟨b, o, sp⟩ := a
    dsimp only at hspot
    subst hspot
    have hcell : ∀ j c, cs'[j]? = some c → w.cell? ⟨b, o + i * r.size + j, none⟩ = some c := fun j c hj => by
      have hjl : j < r.size := by have := (List.getElem?_eq_some_iff.1 hj).1; omega
      have := hc j (by omega)
      rw [Addr.add_lit, Addr.add_lit] at this
      rw [this, hj]
    refine ⟨b, o, cs', rfl, ?_, hcell, h2⟩
    have h0 : cs'[0]? = some cs'[0] := List.getElem?_eq_getElem (by omega)
    exact World.cell_lt (hcell 0 _ h0)

/-- The fields of a struct, one after the other. -/
def ConvF (P : Program) (fs : List Field) (off : Nat) {α : Type} (r : RT α) : Prop :=
  ∀ {H : Type} (enc : TypeId × Value → H) (w : World) (spare : Nat → Bool) (held : Bool) (fuel : Nat) (cs : List Value) (xs : List (DataW H × List MemPlace)),
    off + r.size = cs.length → fs.mapM (fun f => DataW.trod enc P w 0 spare held fuel f.type ((cs.drop f.offset).take (P.cellsOf f.type))) = some xs → ∃ y, r.rd (fun k => k < w.heap.size) w (cs.drop off) y
theorem convF_nil {off : Nat} : ConvF P [] off RT.unit := by
  intro H enc w spare held fuel cs xs hl _
  exact ⟨(), by simp [RT.unit] at hl ⊢; omega⟩
theorem convF_cons {f : Field} {fs : List Field} {off : Nat} {α β : Type} {r : RT α} {s : RT β} (ho : f.offset = off) (hs : P.cellsOf f.type = r.size) (h1 : Conv P f.type r) (h2 : ConvF P fs (off + r.size) s) : ConvF P (f :: fs) off (RT.pair r s) := by
  intro H enc w spare held fuel cs xs hl hx
  rw [List.mapM_cons] at hx
  cases hy : DataW.trod enc P w 0 spare held fuel f.type ((cs.drop f.offset).take (P.cellsOf f.type)) with
  | none => rw [hy] at hx; simp at hx
  | some y =>
    rw [hy] at hx
    cases hz : fs.mapM (fun f => DataW.trod enc P w 0 spare held fuel f.type ((cs.drop f.offset).take (P.cellsOf f.type))) with
    | none => rw [hz] at hx; simp at hx
    | some zs =>
      obtain ⟨u, hu⟩ := h1 enc w spare held fuel _ _ hy
      obtain ⟨v, hv⟩ := h2 enc w spare held fuel cs zs (by simp only [RT.pair] at hl; omega) hz
      rw [ho, hs] at hu
      refine ⟨(u, v), _, _, ?_, hu, hv⟩
      rw [← List.drop_drop, List.take_append_drop]
theorem conv_struct {t : TypeId} {fs : Array Field} {α : Type} {r : RT α} (ht : P.underlying t = some (.struct fs)) (hs : P.cellsOf t = r.size) (h : ConvF P fs.toList 0 r) : Conv P t r := by
  intro H enc w spare held fuel cs x hx
  cases fuel with
  | zero => simp [DataW.trod] at hx
  | succ n =>
    unfold DataW.trod at hx
    rw [ht] at hx
    simp only at hx
    split at hx
    · rename_i hl
      obtain ⟨xs, hxs, _⟩ := Option.map_eq_some_iff.1 hx
      have := h enc w spare held n cs xs (by omega) hxs
      simpa using this
    · cases hx
end
end Go.RX
