/- With a call more, lists only grow together; a circle, and a circle that is cut. No program in sight. -/
import Derived.Test.YtkfbchefealfoaaOrdM
namespace Go.TarM
open Go.Api Go.CalM

theorem len_flat {C : List (List Nat)} (h : ∀ c ∈ C, c ≠ []) : C.length ≤ C.flatten.length := by
  induction C with
  | nil => simp
  | cons c C ih =>
    have h1 := ih fun d hd => h d (by simp [hd])
    have h2 := List.length_pos_iff.2 (h c (by simp))
    rw [List.length_cons, List.flatten_cons, List.length_append]; omega
theorem Ordered.le {e : List (List Nat)} {C : List (List Nat)} (h : Ordered e C) : C.length ≤ e.length := by
  rw [← h.len]; exact len_flat fun c hc => h.ne hc
theorem R.mono {e e' : List (List Nat)} (h : ∀ x, ∀ y ∈ kids e x, y ∈ kids e' x) {x y : Nat} (hr : R e x y) : R e' x y := by
  induction hr with
  | refl => exact .refl _
  | step _ hk ih => exact .step ih (h _ _ hk)
theorem nodup_map {α β : Type} {f : α → β} : ∀ {l : List α}, l.Nodup → (∀ x ∈ l, ∀ y ∈ l, f x = f y → x = y) → (l.map f).Nodup
  | [], _, _ => by simp
  | a :: l, hn, h => by
    have hn2 := List.nodup_cons.1 hn
    rw [List.map_cons, List.nodup_cons]
    refine ⟨fun hm => ?_, nodup_map hn2.2 fun x hx y hy => h x (by simp [hx]) y (by simp [hy])⟩
    obtain ⟨b, hb, hab⟩ := List.mem_map.1 hm
    have := h b (by simp [hb]) a (by simp) hab
    subst this
    exact hn2.1 hb
/-- Two lists that share one are one. -/
theorem share {C : List (List Nat)} (h : C.flatten.Nodup) {i j x : Nat} {c d : List Nat} (hc : C[i]? = some c) (hd : C[j]? = some d) (hx : x ∈ c) (hy : x ∈ d) : i = j := by
  induction C generalizing i j with
  | nil => simp at hc
  | cons a C ih =>
    rw [List.flatten_cons, List.nodup_append] at h
    cases i with
    | zero =>
      cases j with
      | zero => rfl
      | succ j =>
        simp at hc hd; subst hc
        exact absurd rfl (h.2.2 x hx x (List.mem_flatten.2 ⟨d, List.mem_of_getElem? hd, hy⟩))
    | succ i =>
      cases j with
      | zero =>
        simp at hc hd; subst hd
        exact absurd rfl (h.2.2 x hy x (List.mem_flatten.2 ⟨c, List.mem_of_getElem? hc, hx⟩))
      | succ j =>
        simp at hc hd
        rw [ih h.2.1 hc hd]
theorem grow_in {e e' : List (List Nat)} {C C' : List (List Nat)} (hC : Ordered e C) (hC' : Ordered e' C') (hl : e.length = e'.length) (hm : ∀ x, ∀ y ∈ kids e x, y ∈ kids e' x) {w : List Nat} (hw : w ∈ C) : ∃ c ∈ C', ∀ x ∈ w, x ∈ c := by
  obtain ⟨f, hf, rfl⟩ := hC.each w hw
  obtain ⟨c, hc, hfc⟩ := List.mem_flatten.1 ((hC'.all f).2 (by omega))
  refine ⟨c, hc, fun x hx => ?_⟩
  obtain ⟨f1, hf1, rfl⟩ := hC'.each c hc
  have h1 := scc_mem.1 hx
  have h2 := scc_mem.1 hfc
  exact scc_mem.2 ⟨by omega, h2.2.1.trans (h1.2.1.mono hm), (h1.2.2.mono hm).trans h2.2.2⟩
open Classical in
theorem grow_len {e e' : List (List Nat)} {C C' : List (List Nat)} (hC : Ordered e C) (hC' : Ordered e' C') (hl : e.length = e'.length) (hm : ∀ x, ∀ y ∈ kids e x, y ∈ kids e' x) : C'.length ≤ C.length := by
  have pick : ∀ k, k < C'.length → ∃ i x c c', i < C.length ∧ C[i]? = some c ∧ C'[k]? = some c' ∧ x ∈ c ∧ x ∈ c' := fun k hk => by
    have hc' : C'[k]? = some C'[k] := List.getElem?_eq_getElem hk
    have hcm := List.mem_of_getElem? hc'
    obtain ⟨x, hx⟩ := List.exists_mem_of_ne_nil _ (hC'.ne hcm)
    have hxn := (hC'.all x).1 (List.mem_flatten.2 ⟨_, hcm, hx⟩)
    obtain ⟨c, hc, hxc⟩ := List.mem_flatten.1 ((hC.all x).2 (by omega))
    obtain ⟨i, hi⟩ := List.mem_iff_getElem?.1 hc
    exact ⟨i, x, c, _, (List.getElem?_eq_some_iff.1 hi).1, hi, hc', hxc, hx⟩
  let g : Nat → Nat := fun k => if h : k < C'.length then Classical.choose (pick k h) else 0
  have hg : ∀ k, k < C'.length → ∃ x c c', g k < C.length ∧ C[g k]? = some c ∧ C'[k]? = some c' ∧ x ∈ c ∧ x ∈ c' := fun k hk => by
    have := Classical.choose_spec (pick k hk)
    have e1 : g k = Classical.choose (pick k hk) := dif_pos hk
    rw [e1]; exact this
  have hn : ((List.range C'.length).map g).Nodup := by
    refine nodup_map List.nodup_range fun a ha b hb hab => ?_
    obtain ⟨x, c, c', h1, h2, h3, h4, h5⟩ := hg a (List.mem_range.1 ha)
    obtain ⟨y, d, d', k1, k2, k3, k4, k5⟩ := hg b (List.mem_range.1 hb)
    rw [hab, k2] at h2
    obtain rfl := Option.some.inj h2
    obtain ⟨f, hf, rfl⟩ := hC.each _ (List.mem_of_getElem? k2)
    have hx := scc_mem.1 h4
    have hy := scc_mem.1 k4
    have hxy : R e' x y := (hx.2.2.trans hy.2.1).mono hm
    have hyx : R e' y x := (hy.2.2.trans hx.2.1).mono hm
    obtain ⟨f1, _, rfl⟩ := hC'.each _ (List.mem_of_getElem? h3)
    have hx2 := scc_mem.1 h5
    refine share hC'.nodup h3 k3 (x := y) (scc_mem.2 ⟨?_, hx2.2.1.trans hxy, hyx.trans hx2.2.2⟩) k5
    have := hy.1; omega
  have := nodup_len (m := List.range C.length) hn (fun i hi => by
    obtain ⟨k, hk, rfl⟩ := List.mem_map.1 hi
    obtain ⟨_, _, _, h1, _⟩ := hg k (List.mem_range.1 hk)
    exact List.mem_range.2 h1)
  rwa [List.length_map, List.length_range, List.length_range] at this

/-! ### A call more -/
theorem addI_sub (n : Nat) (acc : List Int) (i : Ins) : ∀ y ∈ acc, y ∈ addI n acc i := fun y hy => by
  unfold addI; split
  · exact List.mem_append_left _ hy
  · exact hy
theorem edI_more (n : Nat) (l : List Ins) (i : Ins) : ∀ y ∈ edI n l, y ∈ edI n (l ++ [i]) := fun y hy => by
  unfold edI at hy ⊢
  rw [List.foldl_append]
  exact addI_sub n _ i y hy
/-- Code f calls g too. -/
def more (e : List (List Int)) (f g : Nat) : List (List Int) := e.set f ((e[f]?).getD [] ++ [(g : Int)])
theorem more_len (e : List (List Int)) (f g : Nat) : (more e f g).length = e.length := by simp [more]
theorem kids_prog (e : List (List Int)) (x : Nat) : kids (gr (cProg e)) x = ((e[x]?).map fun l => (edI e.length (l.map cIns)).map Int.toNat).getD [] := by
  have hl : (cProg e).codes.length = e.length := by show (e.map cCode).length = _; simp
  unfold kids gr edges
  rw [hl]
  show ((((e.map cCode).map _).map _)[x]?).getD [] = _
  rw [List.getElem?_map, List.getElem?_map, List.getElem?_map]
  cases e[x]? <;> rfl
theorem more_kids (e : List (List Int)) (f g : Nat) : ∀ x, ∀ y ∈ kids (gr (cProg e)) x, y ∈ kids (gr (cProg (more e f g))) x := by
  intro x y hy
  rw [kids_prog] at hy ⊢
  rw [more_len]
  cases hx : e[x]? with
  | none => rw [hx] at hy; simp at hy
  | some l =>
    rw [hx] at hy
    simp only [Option.map_some, Option.getD_some] at hy
    have hxl := (List.getElem?_eq_some_iff.1 hx).1
    unfold more
    by_cases hxf : f = x
    · subst hxf
      rw [List.getElem?_set_self hxl, hx]
      simp only [Option.map_some, Option.getD_some, List.map_append]
      obtain ⟨z, hz, rfl⟩ := List.mem_map.1 hy
      exact List.mem_map.2 ⟨z, edI_more _ _ _ z hz, rfl⟩
    · rw [List.getElem?_set_ne hxf, hx]
      exact hy

/-! ### A circle -/
def ring (n : Nat) : List (List Int) := (List.range n).map fun i => [(((i + 1) % n : Nat) : Int)]
theorem ring_len (n : Nat) : (ring n).length = n := by simp [ring]
theorem ring_kids {n i : Nat} (h : i < n) : kids (gr (cProg (ring n))) i = [(i + 1) % n] := by
  have hm : (i + 1) % n < n := Nat.mod_lt _ (by omega)
  rw [kids_prog, ring_len]
  unfold ring
  rw [List.getElem?_map, List.getElem?_range h]
  simp only [Option.map_some, Option.getD_some, List.map_cons, List.map_nil, edI, List.foldl_cons, List.foldl_nil]
  rw [addI_yes ⟨rfl, by show (0 : Int) ≤ (((i + 1) % n : Nat) : Int); omega, by show (((i + 1) % n : Nat) : Int) < n; omega, by simp⟩]
  show [(((i + 1) % n : Nat) : Int).toNat] = _
  rw [Int.toNat_natCast]
theorem ring_gr (n : Nat) : (gr (cProg (ring n))).length = n := by rw [gr_len]; show ((ring n).map cCode).length = n; simp [ring]
theorem ring_up {n i : Nat} (hi : i < n) : ∀ k, i + k < n → R (gr (cProg (ring n))) i (i + k)
  | 0, _ => .refl i
  | k + 1, h => .step (ring_up hi k (by omega)) (by rw [ring_kids (by omega), Nat.mod_eq_of_lt (by omega)]; simp; omega)
theorem ring_all {n i j : Nat} (hi : i < n) (hj : j < n) : R (gr (cProg (ring n))) i j := by
  have h1 : R (gr (cProg (ring n))) i (n - 1) := by have := ring_up hi (n - 1 - i) (by omega); rwa [show i + (n - 1 - i) = n - 1 by omega] at this
  have h2 : R (gr (cProg (ring n))) (n - 1) 0 := .edge (by rw [ring_kids (by omega), show n - 1 + 1 = n by omega, Nat.mod_self]; simp)
  have h3 : R (gr (cProg (ring n))) 0 j := by have := ring_up (i := 0) (n := n) (by omega) j (by omega); rwa [Nat.zero_add] at this
  exact (h1.trans h2).trans h3
theorem ring_scc {n f : Nat} (hf : f < n) : scc (gr (cProg (ring n))) f = List.range n := by
  unfold scc
  rw [ring_gr]
  rw [List.filter_eq_self]
  intro g hg
  have hg := List.mem_range.1 hg
  simp [ring_all hf hg, ring_all hg hf]
theorem gr_lt (x : IR) : ∀ f, ∀ y ∈ kids (gr x) f, y < (gr x).length := gr_kids x
theorem ring_comps {n : Nat} (h : 0 < n) : comps0 (gr (cProg (ring n))) = [List.range n] := by
  have ho := ordered (gr_lt (cProg (ring n)))
  have hl := ring_gr n
  have hflat := ho.len
  rw [hl] at hflat
  have he : ∀ c ∈ comps0 (gr (cProg (ring n))), c = List.range n := fun c hc => by
    obtain ⟨f, hf, rfl⟩ := ho.each c hc
    exact ring_scc (by omega)
  generalize comps0 (gr (cProg (ring n))) = C at *
  match C with
  | [] => simp at hflat; omega
  | [c] => rw [he c (by simp)]
  | c :: d :: C =>
    rw [he c (by simp), he d (by simp)] at hflat
    simp at hflat; omega

/-! ### A circle that is cut -/
def cut (n c : Nat) : List (List Int) := (ring n).set c []
theorem cut_len (n c : Nat) : (cut n c).length = n := by simp [cut, ring]
theorem cut_gr (n c : Nat) : (gr (cProg (cut n c))).length = n := by rw [gr_len]; show ((cut n c).map cCode).length = n; simp [cut, ring]
theorem cut_kids {n c i : Nat} (h : i < n) (hc : i ≠ c) : kids (gr (cProg (cut n c))) i = [(i + 1) % n] := by
  have := ring_kids h
  rw [kids_prog, ring_len] at this
  rw [kids_prog, cut_len]
  unfold cut
  rw [List.getElem?_set_ne (Ne.symm hc)]; exact this
theorem cut_none {n c : Nat} (h : c < n) : kids (gr (cProg (cut n c))) c = [] := by
  rw [kids_prog]
  unfold cut
  rw [List.getElem?_set_self (by rw [ring_len]; exact h)]; rfl
/-- How far it is to where the circle is cut. -/
def far (n c i : Nat) : Nat := if i ≤ c then c - i else c + n - i
theorem far_lt {n c i : Nat} (hi : i < n) (hc : c < n) : far n c i < n := by unfold far; split <;> omega
theorem far_inj {n c i j : Nat} (hi : i < n) (hj : j < n) (hc : c < n) (h : far n c i = far n c j) : i = j := by
  unfold far at h; split at h <;> split at h <;> omega
theorem far_step {n c i : Nat} (hi : i < n) (hc : c < n) (hne : i ≠ c) : far n c ((i + 1) % n) + 1 = far n c i := by
  by_cases h : i + 1 = n
  · rw [h, Nat.mod_self]; unfold far; split <;> split <;> omega
  · rw [Nat.mod_eq_of_lt (by omega)]; unfold far; split <;> split <;> omega
theorem cut_far {n c : Nat} (hc : c < n) {x y : Nat} (hr : R (gr (cProg (cut n c))) x y) : y = x ∨ (y < n ∧ far n c y < far n c x) := by
  induction hr with
  | refl => exact .inl rfl
  | @step y z hxy hk ih =>
    have hy : y < n := by
      refine Classical.byContradiction fun h => ?_
      rw [kids_prog] at hk
      unfold cut at hk
      rw [List.getElem?_eq_none (by simp [ring]; omega)] at hk
      simp at hk
    have hyc : y ≠ c := fun h => by subst h; rw [cut_none hc] at hk; simp at hk
    rw [cut_kids hy hyc] at hk
    obtain rfl : z = (y + 1) % n := by simpa using hk
    have h1 := far_step hy hc hyc
    have h2 : (y + 1) % n < n := Nat.mod_lt _ (by omega)
    rcases ih with rfl | ⟨_, h3⟩
    · exact .inr ⟨h2, by omega⟩
    · exact .inr ⟨h2, by omega⟩
theorem cut_scc {n c f : Nat} (hc : c < n) (hf : f < n) : scc (gr (cProg (cut n c))) f = [f] := by
  have hp : ∀ g, g ∈ scc (gr (cProg (cut n c))) f ↔ g = f := fun g => by
    rw [scc_mem, cut_gr]
    constructor
    · rintro ⟨hg, h1, h2⟩
      rcases cut_far hc h1 with h | ⟨_, h⟩
      · exact h
      · rcases cut_far hc h2 with h3 | ⟨_, h3⟩
        · exact h3.symm
        · omega
    · rintro rfl; exact ⟨hf, .refl g, .refl g⟩
  have hnd := scc_nodup (gr (cProg (cut n c))) f
  generalize scc (gr (cProg (cut n c))) f = l at *
  match l with
  | [] => have := (hp f).2 rfl; simp at this
  | [a] => rw [(hp a).1 (by simp)]
  | a :: b :: l =>
    have h1 := (hp a).1 (by simp)
    have h2 := (hp b).1 (by simp)
    subst h1; subst h2
    simp at hnd
theorem singles {n : Nat} {C : List (List Nat)} (h : ∀ d ∈ C, ∃ f, f < n ∧ d = [f]) : C.flatten.length = C.length := by
  induction C with
  | nil => rfl
  | cons d C ih =>
    obtain ⟨f, _, rfl⟩ := h d (by simp)
    rw [List.length_cons, List.flatten_cons, List.length_append, ih fun x hx => h x (by simp [hx]), List.length_singleton]; omega
theorem cut_comps {n c : Nat} (hc : c < n) : (comps0 (gr (cProg (cut n c)))).length = n ∧ ∀ k, k ≤ c → (comps0 (gr (cProg (cut n c))))[k]? = some [c - k] := by
  have ho := ordered (gr_lt (cProg (cut n c)))
  have hl := cut_gr n c
  have he : ∀ d ∈ comps0 (gr (cProg (cut n c))), ∃ f, f < n ∧ d = [f] := fun d hd => by
    obtain ⟨f, hf, rfl⟩ := ho.each d hd
    exact ⟨f, by omega, cut_scc hc (by omega)⟩
  have hflat := ho.len
  rw [hl] at hflat
  have hlen : (comps0 (gr (cProg (cut n c)))).length = n := by rw [← singles he]; exact hflat
  generalize comps0 (gr (cProg (cut n c))) = C at *
  have key : ∀ k, k < n → ∃ x, x < n ∧ C[k]? = some [x] ∧ far n c x = k := by
    intro k
    induction k using Nat.strongRecOn with
    | _ k ih =>
    intro hk
    have hck : C[k]? = some (C[k]'(by omega)) := List.getElem?_eq_getElem (by omega)
    obtain ⟨x, hx, hcx⟩ := he _ (List.mem_of_getElem? hck)
    rw [hcx] at hck
    refine ⟨x, hx, hck, ?_⟩
    have hnot : ∀ j, j < k → ∀ y, C[j]? = some [y] → y ≠ x := fun j hj y hy h => by
      subst h
      have := share ho.nodup hy hck (x := y) (by simp) (by simp)
      omega
    have hge : k ≤ far n c x := Classical.byContradiction fun hlt => by
      obtain ⟨y, hy, hcy, hfy⟩ := ih (far n c x) (by omega) (far_lt hx hc)
      exact hnot _ (by omega) y hcy (far_inj hy hx hc hfy)
    by_cases hxc : x = c
    · subst hxc
      have : far n x x = 0 := by unfold far; simp
      omega
    · have hs := far_step hx hc hxc
      have hs2 : (x + 1) % n < n := Nat.mod_lt _ (by omega)
      have hin := ho.pref (k + 1) x (by rw [List.take_add_one, hck]; simp) ((x + 1) % n) (by rw [cut_kids hx hxc]; simp)
      obtain ⟨d, hd, hyd⟩ := List.mem_flatten.1 hin
      obtain ⟨j, hj⟩ := List.mem_iff_getElem?.1 hd
      rw [List.getElem?_take] at hj
      split at hj
      · rename_i hjk
        obtain ⟨f, _, rfl⟩ := he d (List.mem_of_getElem? hj)
        obtain rfl : (x + 1) % n = f := by simpa using hyd
        by_cases hjk2 : j = k
        · subst hjk2
          rw [hck] at hj
          have : x = (x + 1) % n := by simpa using hj
          rw [← this] at hs; omega
        · obtain ⟨y, hy, hcy, hfy⟩ := ih j (by omega) (by omega)
          rw [hj] at hcy
          have : (x + 1) % n = y := by simpa using hcy
          rw [← this] at hfy; omega
      · cases hj
  refine ⟨hlen, fun k hk => ?_⟩
  obtain ⟨x, hx, h1, h2⟩ := key k (by omega)
  have : far n c (c - k) = k := by unfold far; split <;> omega
  rw [h1, far_inj hx (show c - k < n by omega) hc (h2.trans this.symm)]
end Go.TarM
