/- The walks over 'great' and 'known' of chapter 26's laws. -/
import Derived.Test.YtfhbainbmipddaaRt8
namespace Go.Proofs.Ytfhbainbmipddaa
open Go Go.RR Go.RX Go.GX Go.Api Go.RiseM Go.ReachM Go.RtM
attribute [local irreducible] wpList Code.wp wpPlan Exit.then Exit.inBlock bodyPost NoPanic Went GX.Post GX.Again GX.Meet GX.RowR GX.Own GX.Owns GX.Box GX.Sl GX.Pt GX.Ag GX.MapR GX.Kept GX.Pin wpT GoK AtEnd Both

/-- A unit such as the laws speak of. -/
def TinyU (u : Unt) : Prop := (u.vars.length ≤ 150 ∧ u.ins.length ≤ 400 ∧ u.takes.length ≤ 80 ∧ u.owns.length ≤ 80) ∧ ∀ i ∈ u.ins, i.args.length ≤ 80
instance (u : Unt) : Decidable (TinyU u) := by unfold TinyU; infer_instance
def Tiny (t : RTg) : Prop := (t.classes.length ≤ 80 ∧ t.globals.length ≤ 20 ∧ t.units.length ≤ 20) ∧ (∀ L ∈ t.classes, L.refs.length ≤ 20) ∧ ∀ u ∈ t.units, TinyU u
instance (t : RTg) : Decidable (Tiny t) := by unfold Tiny; infer_instance
theorem sum_le {l : List Nat} {k : Nat} (h : ∀ x ∈ l, x ≤ k) : l.sum ≤ l.length * k := by
  induction l with
  | nil => simp
  | cons x l ih =>
    have h1 := h x (by simp)
    have h2 := ih fun y hy => h y (by simp [hy])
    rw [List.sum_cons, List.length_cons, Nat.add_mul]; omega
theorem Tiny.small {t : RTg} (h : Tiny t) : Small t := by
  refine ⟨by have := h.1.1; omega, ?_, by have := h.1.2.1; omega, by have := h.1.2.2; omega, fun u hu => ?_⟩
  · have h1 : ∀ x ∈ (flds t).map List.length, x ≤ 20 := fun x hx => by
      obtain ⟨l, hl, rfl⟩ := List.mem_map.1 hx
      obtain ⟨L, hL, rfl⟩ := List.mem_map.1 hl
      exact h.2.1 L hL
    have h2 := sum_le h1
    rw [List.length_map, flds_len] at h2
    have := h.1.1
    omega
  · have := (h.2.2 u hu).1; omega
theorem all_one {α : Type} {P : α → Prop} {l : List α} {i : Nat} {x : α} (hx : l[i]? = some x) (h : ∀ y ∈ l.take i, P y) (hp : P x) : ∀ y ∈ l.take (i + 1), P y := by
  intro y hy
  rw [List.take_add_one, hx, List.mem_append] at hy
  rcases hy with hy | hy
  · exact h y hy
  · simp at hy; subst hy; exact hp
theorem great_spec (cs : List Value) (t : RTg) : Does Try.prog 10 [.agg cs.toArray] [Ag tyRTg cs t] [] (fun _ : Unit => .bool (decide (¬ Tiny t))) (fun _ => []) (fun _ => []) := by
  refine enter Try.func10 rfl Try.ntmps10 rfl fun b => ?_
  by_cases h1 : 80 < (t.classes.length : Int)
  · refine GX.wR ?_; intros
    exact rt1 () (vY fun h => by have := h.1.1; omega)
  by_cases h2 : 20 < (t.globals.length : Int)
  · refine GX.wR ?_; intros
    exact rt1 () (vY fun h => by have := h.1.2.1; omega)
  by_cases h3 : 20 < (t.units.length : Int)
  · refine GX.wR ?_; intros
    exact rt1 () (vY fun h => by have := h.1.2.2; omega)
  refine GX.wR ?_; intros
  refine GX.nmP 1 ?_; rintro b1 rfl
  refine GX.loop (σ := Nat) (fun i => [(1, .pointer (some ⟨b1, 0, none⟩)), (3, .int .i64 (i : Int))]) (fun _ => []) (fun _ => [])
    (fun i => i ≤ t.classes.length ∧ ∀ L ∈ t.classes.take i, L.refs.length ≤ 20) (fun i => t.classes.length - i) 0 ⟨rfl, rfl, trivial⟩ ⟨by omega, by simp⟩ (fun i hi => ?_)
  obtain ⟨hi, hA⟩ := hi
  by_cases hlt : i < t.classes.length
  · obtain ⟨L, hL⟩ := get_lt hlt
    by_cases g1 : 20 < (L.refs.length : Int)
    · refine GX.wR ?_; intros
      exact rt1 () (vY fun h => by have := h.2.1 L (List.mem_of_getElem? hL); omega)
    · refine GX.wR ?_; intros
      exact again (i + 1) ⟨rfl, rfl, trivial⟩ ⟨by omega, all_one hL hA (by omega)⟩ (by omega)
  rw [List.take_of_length_le (by omega)] at hA
  clear hi
  refine GX.wR ?_; intros
  refine GX.loop (σ := Nat) (fun i => [(1, .pointer (some ⟨b1, 0, none⟩)), (4, .int .i64 (i : Int))]) (fun _ => []) (fun _ => [])
    (fun i => i ≤ t.units.length ∧ ∀ u ∈ t.units.take i, TinyU u) (fun i => t.units.length - i) 0 ⟨rfl, rfl, trivial⟩ ⟨by omega, by simp⟩ (fun k hk => ?_)
  obtain ⟨hk, hU⟩ := hk
  by_cases hkl : k < t.units.length
  · obtain ⟨u, hu⟩ := get_lt hkl
    have hm := List.mem_of_getElem? hu
    have no : ¬ TinyU u → ¬ Tiny t := fun h h2 => h (h2.2.2 u hm)
    by_cases g1 : 150 < (u.vars.length : Int)
    · refine GX.wR ?_; intros
      exact rt1 () (vY (no fun h => by have := h.1.1; omega))
    by_cases g2 : 400 < (u.ins.length : Int)
    · refine GX.wR ?_; intros
      exact rt1 () (vY (no fun h => by have := h.1.2.1; omega))
    by_cases g3 : 80 < (u.takes.length : Int)
    · refine GX.wR ?_; intros
      exact rt1 () (vY (no fun h => by have := h.1.2.2.1; omega))
    by_cases g4 : 80 < (u.owns.length : Int)
    · refine GX.wR ?_; intros
      exact rt1 () (vY (no fun h => by have := h.1.2.2.2; omega))
    refine GX.wR ?_; intros
    refine GX.nmP 5 ?_; rintro b5 rfl
    refine frzB b5 ?_
    refine GX.loop (σ := Nat) (fun i => [(1, .pointer (some ⟨b1, 0, none⟩)), (4, .int .i64 (k : Int)), (5, .pointer (some ⟨b5, 0, none⟩)), (6, .int .i64 (i : Int))]) (fun _ => []) (fun _ => [])
      (fun j => j ≤ u.ins.length ∧ ∀ i ∈ u.ins.take j, i.args.length ≤ 80) (fun j => u.ins.length - j) 0 ⟨rfl, rfl, rfl, rfl, trivial⟩ ⟨by omega, by simp⟩ (fun j hj => ?_)
    obtain ⟨hj, hI⟩ := hj
    by_cases hjl : j < u.ins.length
    · obtain ⟨x, hx⟩ := get_lt hjl
      by_cases g5 : 80 < (x.args.length : Int)
      · refine GX.wR ?_; intros
        exact rt1 () (vY (no fun h => by have := h.2 x (List.mem_of_getElem? hx); omega))
      · refine GX.wR ?_; intros
        exact again (j + 1) ⟨rfl, rfl, rfl, rfl, trivial⟩ ⟨by omega, all_one hx hI (by omega)⟩ (by omega)
    · rw [List.take_of_length_le (by omega)] at hI
      refine GX.wR ?_; intros
      exact again (k + 1) ⟨rfl, rfl, trivial⟩ ⟨by omega, all_one hu hU ⟨by omega, hI⟩⟩ (by omega)
  rw [List.take_of_length_le (by omega)] at hU
  refine GX.wR ?_; intros
  exact rt1 () (vN (Classical.not_not.2 ⟨by omega, hA, hU⟩))

def u26 : Unt := ⟨0, [0, -2], -3, [], [0], [⟨1, 1, 0, 0, 3, []⟩, ⟨15, 1, 0, 0, 0, []⟩, ⟨18, -1, 0, 0, 0, []⟩]⟩
def t26 : RTg := ⟨[⟨false, [-2]⟩], [], [u26], 0⟩
theorem t26_small : Small t26 := Tiny.small (by decide)
theorem v26_small : Small { t26 with main := 1 } := Tiny.small (by decide)
theorem g26 : glob t26 = [] := fromL_nil (by decide)
theorem o26 : outOf t26 u26 = [] := by
  unfold outOf
  rw [fromL_nil (f := flds t26) (r := roots u26) (by decide)]; rfl
theorem r26 : RightP t26 := by
  refine ⟨by decide, by decide, by decide, by decide, by decide, fun u hu => ?_⟩
  obtain rfl : u = u26 := by simpa [t26] using hu
  refine ⟨⟨by decide, by decide, by decide, by decide, ⟨by decide, by decide⟩, ⟨by decide, fun c hc => ?_⟩, by decide⟩, by decide⟩
  rw [o26, g26]
  obtain rfl : c = 0 := by simpa [u26] using hc
  exact ⟨by decide, by simp, by simp⟩
theorem v26 : ¬ RightP { t26 with main := 1 } := fun h => by
  have := h.2.1
  exact absurd this (by decide)
theorem known26_spec : Does Try.prog 13 [] [] [] (fun _ : Unit => .bool true) (fun _ => []) (fun _ => []) := by
  refine enter Try.func13 rfl Try.ntmps13 rfl fun b => ?_
  have h1 := r26
  have h2 := v26
  refine GX.wR ?_; intros
  refine GX.o (cl (right_spec _ t26 t26_small) fun _ => ?_)
  refine GX.wR ?_; intros
  refine GX.o (cl (right_spec _ { t26 with main := 1 } v26_small) fun _ => ?_)
  refine GX.wR ?_; intros
  refine GX.o (cl (fields_spec _ t26 t26_small) fun s => ?_)
  obtain ⟨a1, c1⟩ := s
  dsimp only
  rw [show (flds t26).length = 1 from rfl]
  refine GX.wR ?_; intros
  refine GX.o (cl (global_spec _ t26 t26_small) fun s => ?_)
  obtain ⟨a2, c2⟩ := s
  dsimp only
  rw [g26, List.length_nil]
  refine GX.wR ?_; intros
  refine GX.o (cl (outU_spec _ t26 t26_small 0 u26 rfl) fun s => ?_)
  obtain ⟨a3, c3⟩ := s
  dsimp only
  rw [o26, List.length_nil]
  refine GX.wR ?_; intros
  exact rtT ()
end Go.Proofs.Ytfhbainbmipddaa
