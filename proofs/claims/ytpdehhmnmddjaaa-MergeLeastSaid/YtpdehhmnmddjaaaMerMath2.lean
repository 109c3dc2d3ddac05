/- More plain mathematics of chapter 21: the document's own way to the classes. No program in sight. -/
import Derived.Test.YtpdehhmnmddjaaaMerMath
namespace Go.MerM
open Go.FindM Go.Api

/-- The fields of two sites, one by one, up to i. -/
def rtog (a b : List (List Int)) (lst : List Nat) : Nat → Bool × List Nat
  | 0 => (false, lst)
  | i + 1 => ((rtog a b lst i).1 || (tog ((a.getD i [] ++ b.getD i []).headD 0) (a.getD i [] ++ b.getD i []) (rtog a b lst i).2).1, (tog ((a.getD i [] ++ b.getD i []).headD 0) (a.getD i [] ++ b.getD i []) (rtog a b lst i).2).2)
theorem rtog_len (a b : List (List Int)) (lst : List Nat) : ∀ i, (rtog a b lst i).2.length = lst.length
  | 0 => rfl
  | i + 1 => by rw [rtog, tog_len]; exact rtog_len a b lst i
theorem tog_one (l : List Int) (lst : List Nat) : tog (l.headD 0) (l.take 1) lst = (false, lst) := by
  cases l with
  | nil => rfl
  | cons a l => simp only [List.take_succ_cons, List.take_zero, List.headD_cons]; exact tog_cons_self _ _ _

/-- What one field of two sites leaves behind. -/
def Did (p : Points) (cur : List Nat) (s t k : Nat) : Prop := ∀ x ∈ fld p s k ++ fld p t k, ∀ y ∈ fld p s k ++ fld p t k, at_ cur x = at_ cur y
theorem Did.up {p : Points} (hm : May p) {cur cur' : List Nat} {t : Bool} {s s' k : Nat} (h : Did p cur s s' k) (hu : Up p.fields.length cur t cur') : Did p cur' s s' k := fun x hx y hy => by
  have i1 : In p.fields.length x := by rcases List.mem_append.1 hx with c | c <;> exact (mem_fld hm c).2.2
  have i2 : In p.fields.length y := by rcases List.mem_append.1 hy with c | c <;> exact (mem_fld hm c).2.2
  exact hu.up _ _ (by omega) (by omega) (h x hx y hy)
theorem rtog_step {p : Points} (hm : May p) {cur : List Nat} (hc : Made p cur) {s t : Nat} (hs : s < p.fields.length) (ht : t < p.fields.length) (e : cur.getD s 0 = cur.getD t 0) {a b : List (List Int)} (ha : a = p.fields.getD s []) (hb : b = p.fields.getD t []) :
    ∀ i, Made p (rtog a b cur i).2 ∧ Up p.fields.length cur (rtog a b cur i).1 (rtog a b cur i).2 ∧ ∀ k, k < i → Did p (rtog a b cur i).2 s t k
  | 0 => ⟨hc, Up.refl _ _, fun k hk => by omega⟩
  | i + 1 => by
    obtain ⟨h1, h2, h3⟩ := rtog_step hm hc hs ht e ha hb i
    have ea : a.getD i [] = fld p s i := by rw [ha]; rfl
    have eb : b.getD i [] = fld p t i := by rw [hb]; rfl
    rw [rtog, ea, eb]
    obtain ⟨g1, g2, g3⟩ := tog_all h1 (l := fld p s i ++ fld p t i) (fun y hy => by rcases List.mem_append.1 hy with c | c <;> exact (mem_fld hm c).2.2) (fun C hC x hx y hy => by
      have hst : C s = C t := hc.fine C hC s t hs ht e
      rcases List.mem_append.1 hx with c | c <;> rcases List.mem_append.1 hy with d | d
      · exact hC.field s s hs hs rfl i x c y d
      · exact hC.field s t hs ht hst i x c y d
      · exact hC.field t s ht hs hst.symm i x c y d
      · exact hC.field t t ht ht rfl i x c y d)
    refine ⟨g1, h2.trans g2, fun k hk => ?_⟩
    by_cases ek : k = i
    · subst ek; exact g3
    · exact (h3 k (by omega)).up hm g2

/-- What a pass has looked at: the pairs ahead of (s, t). -/
def Seen (p : Points) (lst cur : List Nat) (s t : Nat) : Prop := ∀ a b, a < p.fields.length → b < p.fields.length → a < s ∨ a = s ∧ b < t → lst.getD a 0 = lst.getD b 0 → ∀ k, Did p cur a b k
theorem Seen.start (p : Points) (lst cur : List Nat) : Seen p lst cur 0 0 := fun a b _ _ h => by omega
theorem Seen.up {p : Points} (hm : May p) {lst cur cur' : List Nat} {t : Bool} {s u : Nat} (h : Seen p lst cur s u) (hu : Up p.fields.length cur t cur') : Seen p lst cur' s u :=
  fun a b ha hb hab e k => (h a b ha hb hab e k).up hm hu
theorem Seen.next {p : Points} {lst cur : List Nat} {s t : Nat} (h : Seen p lst cur s t) (hd : lst.getD s 0 = lst.getD t 0 → ∀ k, Did p cur s t k) : Seen p lst cur s (t + 1) := fun a b ha hb hab e k => by
  by_cases c : a = s ∧ b = t
  · obtain ⟨rfl, rfl⟩ := c; exact hd e k
  · exact h a b ha hb (by omega) e k
theorem Seen.line {p : Points} {lst cur : List Nat} {s : Nat} (h : Seen p lst cur s p.fields.length) : Seen p lst cur (s + 1) 0 := fun a b ha hb hab e k => h a b ha hb (by omega) e k
theorem did_wide {p : Points} {cur : List Nat} {s t k : Nat} (h1 : wid p s ≤ k) (h2 : wid p t ≤ k) : Did p cur s t k := fun x hx => by
  have e : ∀ s, wid p s ≤ k → fld p s k = [] := fun s h => by
    unfold wid at h
    unfold fld; rw [List.getD, List.getElem?_eq_none (by omega)]; rfl
  rw [e s h1, e t h2] at hx; simp at hx
/-- A pass that joins nothing. -/
theorem Seen.done {p : Points} {lst : List Nat} (h : Seen p lst lst p.fields.length 0) : ∀ s t, s < p.fields.length → t < p.fields.length → lst.getD s 0 = lst.getD t 0 → ∀ k, ∀ x ∈ fld p s k, ∀ y ∈ fld p t k, at_ lst x = at_ lst y :=
  fun s t hs ht e k x hx y hy => h s t hs ht (by omega) e k x (List.mem_append_left _ hx) y (List.mem_append_right _ hy)

theorem elems_start {lst : List Nat} (hf : Fix lst) {s : Nat} (hs : s ≤ lst.length) : elems lst s s = [] := by
  cases h : elems lst s s with
  | nil => rfl
  | cons a l =>
    exfalso
    have hm : a ∈ elems lst s s := by rw [h]; simp
    obtain ⟨h1, h2⟩ := elems_mem.1 hm
    have := hf.le a (by omega)
    omega
/-- One more site of a set. -/
theorem cls_next {p : Points} {lst : List Nat} (hF : Final p lst) {s t k : Nat} (ht : t < p.fields.length) (e : lst.getD t 0 = s) {y : Int} (hy : (fld p t k).head? = some y) :
    cls lst (gath p (elems lst (t + 1) s) k) = cnum lst y := by
  have hlen := hF.len
  have hym : y ∈ fld p t k := List.mem_of_mem_head? (by rw [hy]; rfl)
  refine cls_of (mem_gath.2 ⟨t, elems_mem.2 ⟨by omega, e⟩, hym⟩) fun z hz => ?_
  obtain ⟨u, hu, hzu⟩ := mem_gath.1 hz
  obtain ⟨u1, u2⟩ := elems_mem.1 hu
  exact hF.closed.field t u ht (by omega) (by rw [e, u2]) k y hym z hzu
theorem gath_skip {p : Points} {lst : List Nat} {s t k : Nat} (h : lst.getD t 0 ≠ s ∨ fld p t k = []) : gath p (elems lst (t + 1) s) k = gath p (elems lst t s) k := by
  rw [elems_succ]
  split
  · rename_i e
    rcases h with h | h
    · exact absurd e h
    · unfold gath; rw [List.flatMap_append]; simp [h]
  · rw [List.append_nil]
end Go.MerM
