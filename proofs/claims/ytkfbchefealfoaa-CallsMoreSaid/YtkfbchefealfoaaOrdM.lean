/- What the lists of Comps are. No program in sight. -/
import Derived.Test.YtkfbchefealfoaaTarTop
namespace Go.TarM

theorem mid_ex {e : List (List Nat)} (hE : ∀ x, ∀ y ∈ kids e x, y < e.length) {k : Nat} (ih : ∀ (gray : List Nat) (s : TS) (f : Nat), Inv e gray s → f < e.length → f ∉ s.met → (∀ x ∈ gray, R e x f) → e.length ≤ s.met.length + k → ∃ s' ℓ, Post e gray f s s' ℓ)
    {gray : List Nat} {s : TS} {f : Nat} (hi : Inv e gray s) (hf : f < e.length) (hm : f ∉ s.met) (hg : ∀ x ∈ gray, R e x f) (hk : e.length ≤ s.met.length + (k + 1)) : ∀ j, j ≤ (kids e f).length → ∃ t ℓ, Mid e gray f s ((kids e f).take j) t ℓ := by
  intro j
  induction j with
  | zero => intro _; exact ⟨_, _, Mid.begin hi hf hm hg⟩
  | succ j ihj =>
    intro hj
    obtain ⟨t, ℓ, hmid⟩ := ihj (by omega)
    have hgj : (kids e f)[j]? = some ((kids e f)[j]'(by omega)) := List.getElem?_eq_getElem (by omega)
    obtain ⟨g, hg1⟩ : ∃ g, (kids e f)[j]? = some g := ⟨_, hgj⟩
    have hgk := List.mem_of_getElem? hg1
    have htk : (kids e f).take (j + 1) = (kids e f).take j ++ [g] := by rw [List.take_add_one, hg1]; rfl
    rw [htk]
    by_cases hgm : g ∈ t.met
    · by_cases hgd : g ∈ t.comps.flatten
      · exact ⟨_, _, hmid.done hgd⟩
      · exact ⟨_, _, hmid.open_ hf hgk ⟨hgm, hgd⟩⟩
    · have hext : s.met.length < t.met.length := by
        obtain ⟨S, hS⟩ := hmid.ext
        rw [hS, List.length_append, List.length_cons]; omega
      obtain ⟨t2, ℓg, hp⟩ := ih (gray ++ [f]) t g hmid.inv (hE f g hgk) hgm (fun x hx => by
        rcases List.mem_append.1 hx with hx | hx
        · exact (hg x hx).trans (.edge hgk)
        · simp at hx; subst hx; exact .edge hgk) (by omega)
      exact ⟨_, _, hmid.new hf hgk hgm hp⟩
theorem post_ex {e : List (List Nat)} (hE : ∀ x, ∀ y ∈ kids e x, y < e.length) : ∀ (k : Nat) (gray : List Nat) (s : TS) (f : Nat), Inv e gray s → f < e.length → f ∉ s.met → (∀ x ∈ gray, R e x f) → e.length ≤ s.met.length + k → ∃ s' ℓ, Post e gray f s s' ℓ
  | 0, gray, s, f, hi, hf, hm, _, hk => by have := hi.less hf hm; omega
  | k + 1, gray, s, f, hi, hf, hm, hg, hk => by
    obtain ⟨t, ℓ, hmid⟩ := mid_ex hE (post_ex hE k) hi hf hm hg hk (kids e f).length (Nat.le_refl _)
    rw [List.take_length] at hmid
    have h0 := hi.less hf hm
    by_cases hl : ℓ = s.met.length + 1
    · subst hl; exact ⟨_, _, hmid.ends h0 hf hi⟩
    · exact ⟨_, _, hmid.stays h0 hl⟩
theorem top_ex {e : List (List Nat)} (hE : ∀ x, ∀ y ∈ kids e x, y < e.length) : ∀ k, k ≤ e.length → ∃ s, Top e k s
  | 0, _ => ⟨_, Top.begin e⟩
  | k + 1, hk => by
    obtain ⟨s, h⟩ := top_ex hE k (by omega)
    by_cases hm : k ∈ s.met
    · exact ⟨s, h.old hm⟩
    · obtain ⟨s', ℓ, hp⟩ := post_ex hE e.length [] s k h.inv (by omega) hm (by simp) (by omega)
      exact ⟨s', h.new hm hp⟩
/-- What the lists are. -/
structure Ordered (e : List (List Nat)) (C : List (List Nat)) : Prop where
  each : ∀ c ∈ C, ∃ f, f < e.length ∧ c = scc e f
  all : ∀ x, x ∈ C.flatten ↔ x < e.length
  nodup : C.flatten.Nodup
  pref : ∀ k, ∀ x ∈ (C.take k).flatten, ∀ y ∈ kids e x, y ∈ (C.take k).flatten
theorem scc_nodup (e : List (List Nat)) (f : Nat) : (scc e f).Nodup := by unfold scc; exact List.nodup_range.filter _
theorem flat_nodup {e : List (List Nat)} {M : List Nat} : ∀ {L : List Nat}, L.Nodup → (∀ f ∈ L, f ∈ M ∧ IsRoot e M f ∧ f < e.length) → (L.map (scc e)).flatten.Nodup
  | [], _, _ => by simp
  | f :: L, hn, h => by
    have hn2 := List.nodup_cons.1 hn
    rw [List.map_cons, List.flatten_cons, List.nodup_append]
    refine ⟨scc_nodup e f, flat_nodup hn2.2 (fun g hg => h g (by simp [hg])), fun a ha b hb hab => ?_⟩
    subst hab
    obtain ⟨c, hc, hac⟩ := List.mem_flatten.1 hb
    obtain ⟨g, hg, rfl⟩ := List.mem_map.1 hc
    have h1 := scc_mem.1 ha
    have h2 := scc_mem.1 hac
    obtain ⟨hfm, hfr, _⟩ := h f (by simp)
    obtain ⟨hgm, hgr, _⟩ := h g (by simp [hg])
    have hfg : R e f g := h1.2.1.trans h2.2.2
    have hgf : R e g f := h2.2.1.trans h1.2.2
    have e1 := hfr g hgm hfg hgf
    have e2 := hgr f hfm hgf hfg
    have := num_inj hfm hgm (by omega)
    subst this
    exact hn2.1 hg
theorem ordered {e : List (List Nat)} (hE : ∀ x, ∀ y ∈ kids e x, y < e.length) : Ordered e (comps0 e) := by
  obtain ⟨s, h⟩ := top_ex hE e.length (Nat.le_refl _)
  rw [← h.comps]
  have hc := h.inv.comps
  have hleft : ∀ x, x ∈ s.left ↔ x < e.length := fun x => by
    constructor
    · intro hx; exact h.inv.lt x ((h.inv.mem x).2 (.inl hx))
    · intro hx
      have := (h.inv.mem x).1 (h.all x hx)
      simpa using this
  refine ⟨fun c hcm => ?_, fun x => ?_, ?_, h.inv.pref⟩
  · rw [hc] at hcm
    obtain ⟨f, hf, rfl⟩ := List.mem_map.1 hcm
    exact ⟨f, (hleft f).1 (List.mem_filter.1 hf).1, rfl⟩
  · constructor
    · intro hx; exact (hleft x).1 (h.inv.dl x hx)
    · intro hx
      refine Classical.byContradiction fun hn => ?_
      obtain ⟨y, hy, _⟩ := h.inv.i4 x ⟨h.all x hx, hn⟩
      simp at hy
  · rw [hc]
    unfold compsOf
    refine flat_nodup (M := s.met) (h.inv.lnd.filter _) fun f hf => ?_
    have := List.mem_filter.1 hf
    exact ⟨(h.inv.mem f).2 (.inl this.1), by simpa using this.2, (hleft f).1 this.1⟩
theorem Ordered.len {e : List (List Nat)} {C : List (List Nat)} (h : Ordered e C) : C.flatten.length = e.length := by
  have h1 := nodup_len (m := List.range e.length) h.nodup (fun x hx => List.mem_range.2 ((h.all x).1 hx))
  have h2 := nodup_len (m := C.flatten) (l := List.range e.length) List.nodup_range (fun x hx => (h.all x).2 (List.mem_range.1 hx))
  rw [List.length_range] at h1 h2
  omega
theorem Ordered.ne {e : List (List Nat)} {C : List (List Nat)} (h : Ordered e C) {c : List Nat} (hc : c ∈ C) : c ≠ [] := by
  obtain ⟨f, hf, rfl⟩ := h.each c hc
  intro hn
  have := scc_self (e := e) hf
  rw [hn] at this; simp at this
end Go.TarM
