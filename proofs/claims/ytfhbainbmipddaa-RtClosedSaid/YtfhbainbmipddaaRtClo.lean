/- What is reached from the globals and from a unit's outside is closed. No program in sight. -/
import Derived.Test.YtfhbainbmipddaaRtMath
namespace Go.RtM
open Go.RiseM Go.ReachM Go.Api

def both (a b : List Int) : List Int := puts (a ++ b)
theorem both_mem {a b : List Int} {x : Int} : x ∈ both a b ↔ x ∈ a ∨ x ∈ b := by rw [both, (puts_spec _).2, List.mem_append]
theorem both_rise (a b : List Int) : Rise (both a b) := (puts_spec _).1
theorem Rise.nodup {l : List Int} (h : Rise l) : l.Nodup := List.Pairwise.imp (fun {a b} (h : a < b) => (by omega : a ≠ b)) h
theorem both_len {a b : List Int} (ha : Rise a) (hb : Rise b) (hd : ∀ x ∈ a, x ∉ b) : (both a b).length = a.length + b.length := by
  have h1 : (a ++ b).Nodup := List.nodup_append.2 ⟨Rise.nodup ha, Rise.nodup hb, fun x hx y hy e => hd x hx (e ▸ hy)⟩
  have h2 : (both a b).Perm (a ++ b) := (List.perm_ext_iff_of_nodup (Rise.nodup (both_rise a b)) h1).2 fun x => by rw [both_mem, List.mem_append]
  rw [h2.length_eq, List.length_append]
/-- Nothing new is reached from there. -/
def Clo (f : List (List Int)) (l : List Int) : Prop := ∀ x ∈ fromL f l, x ∈ l
noncomputable instance (f : List (List Int)) (l : List Int) : Decidable (Clo f l) := Classical.propDecidable _
theorem clo_of {f : List (List Int)} {l : List Int} (h : ∀ (c : Nat) (k : List Int) (d : Nat), (c : Int) ∈ l → f[c]? = some k → (d : Int) ∈ k → d < f.length → (d : Int) ∈ l) : Clo f l := by
  intro x hx
  obtain ⟨c, rfl, hc⟩ := fromL_mem.1 hx
  induction hc with
  | root h1 _ => exact h1
  | step h1 h2 h3 h4 ih => exact h _ _ _ (ih (fromL_mem'.2 h1)) h2 h3 h4
theorem fromL_step {f : List (List Int)} {r : List Int} {c d : Nat} {k : List Int} (h : (c : Int) ∈ fromL f r) (h1 : f[c]? = some k) (h2 : (d : Int) ∈ k) (h3 : d < f.length) : (d : Int) ∈ fromL f r :=
  fromL_mem'.2 (.step (fromL_mem'.1 h) h1 h2 h3)
theorem clo_glob (t : RTg) : Clo (flds t) (glob t) := clo_of fun _ _ _ h h1 h2 h3 => fromL_step h h1 h2 h3
theorem out_rise (t : RTg) (u : Int) : Rise (out t u) := by
  unfold out
  split
  · exact List.Pairwise.filter _ (fromL_rise _ _)
  · exact List.Pairwise.nil
theorem clo_both (t : RTg) (u : Int) : Clo (flds t) (both (glob t) (out t u)) := by
  refine clo_of fun c k d h h1 h2 h3 => ?_
  rw [both_mem] at h ⊢
  rcases h with h | h
  · exact .inl (fromL_step h h1 h2 h3)
  · unfold out at h ⊢
    cases hu : gt t.units u with
    | none => rw [hu] at h; simp at h
    | some x =>
      rw [hu] at h
      have h : (c : Int) ∈ outOf t x := h
      show _ ∨ (d : Int) ∈ outOf t x
      unfold outOf at h ⊢
      have hd := fromL_step (List.mem_filter.1 h).1 h1 h2 h3
      by_cases hg : (d : Int) ∈ glob t
      · exact .inl hg
      · exact .inr (List.mem_filter.2 ⟨hd, by simpa using hg⟩)
theorem out_glob {t : RTg} {u : Int} : ∀ x ∈ glob t, x ∉ out t u := by
  intro x hx h
  unfold out at h
  split at h
  · unfold outOf at h
    have := (List.mem_filter.1 h).2
    simp only [decide_eq_true_eq] at this
    exact this hx
  · simp at h
theorem out_len {t : RTg} {u : Int} : (both (glob t) (out t u)).length = (glob t).length + (out t u).length := both_len (fromL_rise _ _) (out_rise t u) out_glob
theorem both_in {t : RTg} {u x : Int} (h : x ∈ both (glob t) (out t u)) : 0 ≤ x ∧ x < (t.classes.length : Int) := by
  rw [← flds_len]
  rcases both_mem.1 h with h | h
  · exact fromL_in h
  · unfold out at h
    split at h
    · unfold outOf at h
      exact fromL_in (List.mem_filter.1 h).1
    · simp at h
end Go.RtM
