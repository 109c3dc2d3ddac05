/- The plain mathematics of chapter 21: sites that go together. No program in sight. -/
import Derived.Test.YtpdehhmnmddjaaaFindMore
import Derived.Test.YtpdehhmnmddjaaaApi
namespace Go.MerM
open Go.FindM Go.Api

/-- The least one of x's set. -/
abbrev at_ (lst : List Nat) (x : Int) : Nat := lst.getD x.toNat 0
/-- A number that is a site. -/
abbrev In (m : Int) (x : Int) : Prop := 0 ≤ x ∧ x < m

/-- Lists that may be merged. -/
def May (p : Points) : Prop :=
  p.fields.length ≤ 60 ∧ (∀ l ∈ p.nodes, ∀ x ∈ l, In p.fields.length x) ∧
    ∀ l ∈ p.fields, l.length = (p.fields.getD 0 []).length ∧ l.length ≤ 8 ∧ ∀ k ∈ l, ∀ x ∈ k, In p.fields.length x
instance (p : Points) : Decidable (May p) := by unfold May; infer_instance

/-- A field of a site. -/
def fld (p : Points) (s k : Nat) : List Int := (p.fields.getD s []).getD k []

/-- The sites of a field of some sites. -/
def gath (p : Points) (set : List Nat) (k : Nat) : List Int := set.flatMap fun s => fld p s k
/-- How many fields the site s has. -/
def wid (p : Points) (s : Nat) : Nat := (p.fields.getD s []).length

/-- What holds together all that must be together. -/
structure Closed (p : Points) (C : Nat → Nat) : Prop where
  node : ∀ l ∈ p.nodes, ∀ x ∈ l, ∀ y ∈ l, C x.toNat = C y.toNat
  field : ∀ s t, s < p.fields.length → t < p.fields.length → C s = C t → ∀ k, ∀ x ∈ fld p s k, ∀ y ∈ fld p t k, C x.toNat = C y.toNat

/-- Nothing is joined but what must be. -/
structure Made (p : Points) (lst : List Nat) : Prop where
  len : lst.length = p.fields.length
  fix : Fix lst
  fine : ∀ C, Closed p C → ∀ i j, i < p.fields.length → j < p.fields.length → lst.getD i 0 = lst.getD j 0 → C i = C j

theorem Made.new (p : Points) : Made p (List.range p.fields.length) := by
  refine ⟨by simp, (Roots.new _).fix, fun C _ i j hi hj h => ?_⟩
  rw [List.getD, List.getElem?_range hi, List.getD, List.getElem?_range hj] at h
  simp at h; rw [h]

/-- From one state to another: was anything joined? -/
structure Up (n : Nat) (lst : List Nat) (t : Bool) (lst' : List Nat) : Prop where
  up : ∀ i j, i < n → j < n → lst.getD i 0 = lst.getD j 0 → lst'.getD i 0 = lst'.getD j 0
  same : t = false → lst' = lst
  less : t = true → (heads lst' n).length < (heads lst n).length

theorem Up.refl (n : Nat) (lst : List Nat) : Up n lst false lst := ⟨fun _ _ _ _ h => h, fun _ => rfl, fun h => by simp at h⟩
theorem Up.trans {n : Nat} {a b c : List Nat} {t u : Bool} (h : Up n a t b) (g : Up n b u c) : Up n a (t || u) c := by
  refine ⟨fun i j hi hj e => g.up i j hi hj (h.up i j hi hj e), fun e => ?_, fun e => ?_⟩
  · simp at e; rw [g.same e.2, h.same e.1]
  · cases t
    · cases u
      · simp at e
      · have := g.less rfl; rw [h.same rfl] at this; exact this
    · cases u
      · rw [g.same rfl]; exact h.less rfl
      · have := g.less rfl; have := h.less rfl; omega

theorem join_step {p : Points} {lst : List Nat} (h : Made p lst) {a b : Int} (ha : In p.fields.length a) (hb : In p.fields.length b) (hC : ∀ C, Closed p C → C a.toNat = C b.toNat) :
    Made p (join lst a b).2 ∧ Up p.fields.length lst (join lst a b).1 (join lst a b).2 ∧ at_ (join lst a b).2 a = at_ (join lst a b).2 b := by
  have hlen := h.len
  unfold join
  rw [least_val (lst := lst) (a := a) (by rw [hlen]; exact ha), least_val (lst := lst) (a := b) (by rw [hlen]; exact hb)]
  simp only [at_]
  have hxl := h.fix.le a.toNat (by omega)
  have hyl := h.fix.le b.toNat (by omega)
  have ex := h.fix.idem a.toNat (by omega)
  have ey := h.fix.idem b.toNat (by omega)
  generalize hx : lst.getD a.toNat 0 = x at *
  generalize hy : lst.getD b.toNat 0 = y at *
  by_cases e : x = y
  · rw [if_pos (by omega)]
    exact ⟨h, Up.refl _ _, by dsimp only; rw [hx, hy, e]⟩
  · rw [if_neg (by omega)]
    have hxn : x < lst.length := by omega
    have hyn : y < lst.length := by omega
    have jg : ∀ i, i < p.fields.length → (joined lst x y).getD i 0 = if lst.getD i 0 = x ∨ lst.getD i 0 = y then min x y else lst.getD i 0 := fun i hi => joined_getD _ _ _ _ (by omega)
    simp only [Int.toNat_natCast]
    refine ⟨⟨by rw [joined_length]; exact hlen, joined_fix h.fix hxn hyn ex ey, fun C hc i j hi hj he => ?_⟩, ⟨fun i j hi hj he => ?_, fun e => by simp at e, fun _ => ?_⟩, ?_⟩
    · rw [jg i hi, jg j hj] at he
      have f := h.fine C hc
      have hab := hC C hc
      have fa : ∀ i, i < p.fields.length → lst.getD i 0 = x ∨ lst.getD i 0 = y → C i = C a.toNat := fun i hi hc => by
        rcases hc with c | c
        · exact f i a.toNat hi (by omega) (by rw [hx, c])
        · rw [hab]; exact f i b.toNat hi (by omega) (by rw [hy, c])
      have hi2 := h.fix.idem i (by omega)
      have hj2 := h.fix.idem j (by omega)
      split at he
      · rename_i c1
        split at he
        · rename_i c2; rw [fa i hi c1, fa j hj c2]
        · rename_i c2
          exfalso; apply c2
          rcases Nat.le_total x y with c | c
          · rw [Nat.min_eq_left c] at he; exact .inl he.symm
          · rw [Nat.min_eq_right c] at he; exact .inr he.symm
      · rename_i c1
        split at he
        · exfalso; apply c1
          rcases Nat.le_total x y with c | c
          · rw [Nat.min_eq_left c] at he; exact .inl he
          · rw [Nat.min_eq_right c] at he; exact .inr he
        · exact f i j hi hj he
    · rw [jg i hi, jg j hj, he]
    · have := joined_heads hxn hyn ex ey e
      rw [hlen] at this
      omega
    · rw [jg _ (by omega), jg _ (by omega), hx, hy, if_pos (.inl rfl), if_pos (.inr rfl)]

/-- All of a list are joined with x. -/
def tog (x : Int) (l : List Int) (lst : List Nat) : Bool × List Nat := l.foldl (fun q y => (q.1 || (join q.2 x y).1, (join q.2 x y).2)) (false, lst)
theorem tog_nil (x : Int) (lst : List Nat) : tog x [] lst = (false, lst) := rfl
theorem tog_snoc (x : Int) (l : List Int) (y : Int) (lst : List Nat) : tog x (l ++ [y]) lst = ((tog x l lst).1 || (join (tog x l lst).2 x y).1, (join (tog x l lst).2 x y).2) := by simp [tog, List.foldl_append]
theorem take_snoc {α : Type} {l : List α} {i : Nat} {x : α} (h : l[i]? = some x) : l.take (i + 1) = l.take i ++ [x] := by rw [List.take_add_one, h]; rfl
theorem tog_take (x : Int) {l : List Int} {i : Nat} {y : Int} (h : l[i]? = some y) (lst : List Nat) : tog x (l.take (i + 1)) lst = ((tog x (l.take i) lst).1 || (join (tog x (l.take i) lst).2 x y).1, (join (tog x (l.take i) lst).2 x y).2) := by rw [take_snoc h, tog_snoc]
theorem join_self (lst : List Nat) (x : Int) : join lst x x = (false, lst) := by unfold join; rw [if_pos (.inr (.inr rfl))]
theorem tog_cons_self (x : Int) (l : List Int) (lst : List Nat) : tog x (x :: l) lst = tog x l lst := by simp [tog, join_self]
theorem tog_head (x : Int) {l : List Int} (lst : List Nat) (h : l.head? = some x) : tog x l lst = tog x (l.drop 1) lst := by
  cases l with
  | nil => rfl
  | cons y l => simp at h; subst h; exact tog_cons_self _ _ _
theorem join_len (lst : List Nat) (a b : Int) : (join lst a b).2.length = lst.length := by
  unfold join
  split
  · rfl
  · exact joined_length _ _ _
theorem tog_len (x : Int) (l : List Int) (lst : List Nat) : (tog x l lst).2.length = lst.length := by
  have key : ∀ i, i ≤ l.length → (tog x (l.take i) lst).2.length = lst.length := by
    intro i
    induction i with
    | zero => intro _; rfl
    | succ i ih =>
      intro hi
      have hy : l[i]? = some l[i] := List.getElem?_eq_getElem (by omega)
      rw [tog_take x hy, join_len]; exact ih (by omega)
  have := key l.length (Nat.le_refl _)
  rwa [List.take_length] at this
theorem tog_step {p : Points} {lst : List Nat} (h : Made p lst) {x : Int} (hx : In p.fields.length x) {l : List Int} (hl : ∀ y ∈ l, In p.fields.length y) (hC : ∀ C, Closed p C → ∀ y ∈ l, C x.toNat = C y.toNat) :
    Made p (tog x l lst).2 ∧ Up p.fields.length lst (tog x l lst).1 (tog x l lst).2 ∧ ∀ y ∈ l, at_ (tog x l lst).2 x = at_ (tog x l lst).2 y := by
  have key : ∀ i, i ≤ l.length → Made p (tog x (l.take i) lst).2 ∧ Up p.fields.length lst (tog x (l.take i) lst).1 (tog x (l.take i) lst).2 ∧ ∀ y ∈ l.take i, at_ (tog x (l.take i) lst).2 x = at_ (tog x (l.take i) lst).2 y := by
    intro i
    induction i with
    | zero => intro _; exact ⟨h, Up.refl _ _, by simp⟩
    | succ i ih =>
      intro hi
      obtain ⟨h1, h2, h3⟩ := ih (by omega)
      have hy : l[i]? = some l[i] := List.getElem?_eq_getElem (by omega)
      have hm : l[i] ∈ l := List.getElem_mem _
      obtain ⟨g1, g2, g3⟩ := join_step h1 hx (hl _ hm) (fun C hc => hC C hc _ hm)
      rw [tog_take x hy]
      refine ⟨g1, h2.trans g2, fun y hyy => ?_⟩
      rw [take_snoc hy, List.mem_append, List.mem_singleton] at hyy
      rcases hyy with c | c
      · have := hl y (List.mem_of_mem_take c)
        exact g2.up _ _ (by omega) (by omega) (h3 y c)
      · subst c; exact g3
  have := key l.length (Nat.le_refl _)
  rwa [List.take_length] at this

theorem tog_all {p : Points} {lst : List Nat} (h : Made p lst) {l : List Int} (hl : ∀ y ∈ l, In p.fields.length y) (hC : ∀ C, Closed p C → ∀ x ∈ l, ∀ y ∈ l, C x.toNat = C y.toNat) :
    Made p (tog (l.headD 0) l lst).2 ∧ Up p.fields.length lst (tog (l.headD 0) l lst).1 (tog (l.headD 0) l lst).2 ∧ ∀ x ∈ l, ∀ y ∈ l, at_ (tog (l.headD 0) l lst).2 x = at_ (tog (l.headD 0) l lst).2 y := by
  cases l with
  | nil => exact ⟨h, Up.refl _ _, by simp⟩
  | cons a l =>
    obtain ⟨h1, h2, h3⟩ := tog_step h (x := a) (hl a (by simp)) hl (fun C hc y hy => hC C hc a (by simp) y hy)
    exact ⟨h1, h2, fun x hx y hy => (h3 x hx).symm.trans (h3 y hy)⟩
/-- What a pass knows: all the sites that one set's sites have in one field are together. -/
def Even (p : Points) (cur set : List Nat) (k : Nat) : Prop := ∀ x ∈ gath p set k, ∀ y ∈ gath p set k, at_ cur x = at_ cur y
/-- The end: all that must be together is. -/
structure Final (p : Points) (lst : List Nat) : Prop extends Made p lst where
  closed : Closed p fun i => lst.getD i 0

theorem Final.eq {p : Points} {l m : List Nat} (h : Final p l) (g : Final p m) : l = m := by
  have h1 := h.len
  have g1 := g.len
  apply List.ext_getElem (by omega)
  intro i hi hj
  have e1 : l.getD i 0 = l[i] := by rw [List.getD, List.getElem?_eq_getElem hi]; rfl
  have e2 : m.getD i 0 = m[i] := by rw [List.getD, List.getElem?_eq_getElem hj]; rfl
  have a1 := h.fine _ g.closed i (l.getD i 0) (by omega) (by have := h.fix.le i hi; omega) (h.fix.idem i hi).symm
  have a2 := g.fine _ h.closed i (m.getD i 0) (by omega) (by have := g.fix.le i hj; omega) (g.fix.idem i hj).symm
  have b0 := h.fix.le i hi
  have b1 := g.fix.le i hj
  have b2 := g.fix.le (l.getD i 0) (by omega)
  have b3 := h.fix.le (m.getD i 0) (by omega)
  omega

/-- The number of a site's class. -/
def cnum (lst : List Nat) (x : Int) : Int := (heads lst (at_ lst x)).length
/-- The class of a list. -/
def cls (lst : List Nat) : List Int → Int
  | [] => -1
  | x :: _ => cnum lst x
/-- What 'Make' hands back. -/
def classes (p : Points) (lst : List Nat) : Classes where
  count := (heads lst p.fields.length).length
  of := (List.range p.fields.length).map fun i : Nat => cnum lst (i : Int)
  nodes := p.nodes.map (cls lst)
  fields := (sets lst).map fun set => (List.range (wid p (set.getD 0 0))).map fun k => cls lst (gath p set k)

theorem mem_fld {p : Points} (hm : May p) {s k : Nat} {x : Int} (hx : x ∈ fld p s k) : s < p.fields.length ∧ k < wid p s ∧ In p.fields.length x := by
  unfold fld at hx
  by_cases hs : s < p.fields.length
  · have e : p.fields.getD s [] = p.fields[s] := by rw [List.getD, List.getElem?_eq_getElem hs]; rfl
    have hmem : p.fields.getD s [] ∈ p.fields := by rw [e]; exact List.getElem_mem _
    by_cases hk : k < (p.fields.getD s []).length
    · have e2 : (p.fields.getD s []).getD k [] = (p.fields.getD s [])[k] := by rw [List.getD, List.getElem?_eq_getElem hk]; rfl
      exact ⟨hs, hk, (hm.2.2 _ hmem).2.2 _ (by rw [e2]; exact List.getElem_mem _) x hx⟩
    · have : (p.fields.getD s []).getD k [] = [] := by rw [List.getD, List.getElem?_eq_none (by omega)]; rfl
      rw [this] at hx; simp at hx
  · have : p.fields.getD s [] = [] := by rw [List.getD, List.getElem?_eq_none (by omega)]; rfl
    rw [this] at hx; simp at hx
theorem mem_gath {p : Points} {set : List Nat} {k : Nat} {x : Int} : x ∈ gath p set k ↔ ∃ s ∈ set, x ∈ fld p s k := by
  unfold gath; rw [List.mem_flatMap]
theorem sets_mem {lst set : List Nat} (h : set ∈ sets lst) : ∃ r, r < lst.length ∧ lst.getD r 0 = r ∧ set = elems lst lst.length r := by
  unfold sets setsTo at h
  obtain ⟨r, hr, rfl⟩ := List.mem_map.1 h
  obtain ⟨h1, h2⟩ := heads_mem.1 hr
  exact ⟨r, h1, h2, rfl⟩
theorem elems_head {lst : List Nat} (hf : Fix lst) {r : Nat} (hr : r < lst.length) (e : lst.getD r 0 = r) : (elems lst lst.length r).head? = some r := by
  have hm : r ∈ elems lst lst.length r := elems_mem.2 ⟨hr, e⟩
  have hp : (elems lst lst.length r).Pairwise (· < ·) := List.Pairwise.filter _ List.pairwise_lt_range
  have hle : ∀ x ∈ elems lst lst.length r, r ≤ x := fun x hx => by
    obtain ⟨h1, h2⟩ := elems_mem.1 hx
    have := hf.le x h1; omega
  cases h : elems lst lst.length r with
  | nil => rw [h] at hm; simp at hm
  | cons a l =>
    rw [h] at hm hp hle
    rcases List.mem_cons.1 hm with c | c
    · rw [c]; rfl
    · have h1 := (List.pairwise_cons.1 hp).1 r c
      have h2 := hle a (by simp)
      omega
/-- A site is in the set of its number, and in no other. -/
theorem sets_at {lst : List Nat} (hf : Fix lst) {i : Nat} (hi : i < lst.length) : (sets lst)[(heads lst (lst.getD i 0)).length]? = some (elems lst lst.length (lst.getD i 0)) := by
  have h1 := hf.le i hi
  have h2 := hf.idem i hi
  unfold sets setsTo
  rw [List.getElem?_map, heads_at h2 _ (by omega)]; rfl
theorem sets_idx {lst : List Nat} {j : Nat} {set : List Nat} (h : (sets lst)[j]? = some set) : ∃ r, r < lst.length ∧ lst.getD r 0 = r ∧ set = elems lst lst.length r ∧ (heads lst r).length = j := by
  unfold sets setsTo at h
  rw [List.getElem?_map] at h
  obtain ⟨r, hr, rfl⟩ := Option.map_eq_some_iff.1 h
  obtain ⟨h1, h2⟩ := heads_mem.1 (List.mem_of_getElem? hr)
  refine ⟨r, h1, h2, rfl, ?_⟩
  have h3 := heads_at h2 _ h1
  obtain ⟨l1, e1⟩ := List.getElem?_eq_some_iff.1 hr
  obtain ⟨l2, e2⟩ := List.getElem?_eq_some_iff.1 h3
  exact (nodup_inj (heads_nodup lst lst.length) l1 l2 (e1.trans e2.symm)).symm
theorem heads_mono (lst : List Nat) {a b : Nat} (h : a ≤ b) : (heads lst a).length ≤ (heads lst b).length := by
  induction b with
  | zero => have : a = 0 := by omega
            subst this; exact Nat.le_refl _
  | succ b ih =>
    by_cases e : a = b + 1
    · subst e; exact Nat.le_refl _
    · rw [heads_succ, List.length_append]
      have := ih (by omega)
      omega
theorem cnum_lt {lst : List Nat} (hf : Fix lst) {n : Nat} (hn : lst.length = n) {x : Int} (hx : In n x) : 0 ≤ cnum lst x ∧ cnum lst x < ((heads lst n).length : Int) := by
  unfold cnum at_
  have h1 := hf.le x.toNat (by omega)
  have h2 := hf.idem x.toNat (by omega)
  have h3 := heads_at h2 n (by omega)
  have := (List.getElem?_eq_some_iff.1 h3).1
  omega
theorem cnum_congr {lst : List Nat} {x y : Int} (h : at_ lst x = at_ lst y) : cnum lst x = cnum lst y := by unfold cnum; rw [h]
theorem cls_of {lst : List Nat} {l : List Int} {x : Int} (hx : x ∈ l) (h : ∀ y ∈ l, at_ lst x = at_ lst y) : cls lst l = cnum lst x := by
  cases l with
  | nil => simp at hx
  | cons y l => exact (cnum_congr (h y (by simp))).symm

theorem wid_eq {p : Points} (hm : May p) {s t : Nat} (hs : s < p.fields.length) (ht : t < p.fields.length) : wid p s = wid p t := by
  have key : ∀ s, s < p.fields.length → wid p s = (p.fields.getD 0 []).length := fun s hs => by
    have e : p.fields.getD s [] = p.fields[s] := by rw [List.getD, List.getElem?_eq_getElem hs]; rfl
    unfold wid; rw [e]; exact (hm.2.2 _ (List.getElem_mem _)).1
  rw [key s hs, key t ht]
theorem wid_le {p : Points} (hm : May p) (s : Nat) : wid p s ≤ 8 := by
  unfold wid
  by_cases hs : s < p.fields.length
  · have e : p.fields.getD s [] = p.fields[s] := by rw [List.getD, List.getElem?_eq_getElem hs]; rfl
    rw [e]; exact (hm.2.2 _ (List.getElem_mem _)).2.1
  · rw [List.getD, List.getElem?_eq_none (by omega)]; simp
theorem Even.up {p : Points} (hm : May p) {cur cur' set : List Nat} {t : Bool} {k : Nat} (h : Even p cur set k) (hu : Up p.fields.length cur t cur') : Even p cur' set k := fun x hx y hy => by
  obtain ⟨s, _, hs⟩ := mem_gath.1 hx
  obtain ⟨s', _, hs'⟩ := mem_gath.1 hy
  have i1 := (mem_fld hm hs).2.2
  have i2 := (mem_fld hm hs').2.2
  exact hu.up _ _ (by omega) (by omega) (h x hx y hy)
/-- One field of one set. -/
theorem pass_step {p : Points} (hm : May p) {lst cur : List Nat} {t : Bool} (hM : Made p lst) (hc : Made p cur) (hu : Up p.fields.length lst t cur) {set : List Nat} (hset : set ∈ sets lst) (k : Nat) :
    Made p (tog ((gath p set k).headD 0) (gath p set k) cur).2 ∧ Up p.fields.length lst (t || (tog ((gath p set k).headD 0) (gath p set k) cur).1) (tog ((gath p set k).headD 0) (gath p set k) cur).2 ∧
      Up p.fields.length cur (tog ((gath p set k).headD 0) (gath p set k) cur).1 (tog ((gath p set k).headD 0) (gath p set k) cur).2 ∧ Even p (tog ((gath p set k).headD 0) (gath p set k) cur).2 set k := by
  obtain ⟨r, hr, er, rfl⟩ := sets_mem hset
  have hlen := hM.len
  obtain ⟨h1, h2, h3⟩ := tog_all hc (l := gath p (elems lst lst.length r) k) (fun y hy => by
    obtain ⟨s, _, hs⟩ := mem_gath.1 hy
    exact (mem_fld hm hs).2.2) (fun C hC x hx y hy => by
    obtain ⟨s, hs, hxs⟩ := mem_gath.1 hx
    obtain ⟨s', hs', hys⟩ := mem_gath.1 hy
    obtain ⟨l1, e1⟩ := elems_mem.1 hs
    obtain ⟨l2, e2⟩ := elems_mem.1 hs'
    exact hC.field s s' (by omega) (by omega) (hM.fine C hC s s' (by omega) (by omega) (by rw [e1, e2])) k x hxs y hys)
  exact ⟨h1, hu.trans h2, h2, h3⟩
/-- What a pass hands back. -/
structure Pass (p : Points) (lst : List Nat) (t : Bool) (cur : List Nat) : Prop where
  made : Made p cur
  up : Up p.fields.length lst t cur
  done : t = false → ∀ s s', s < p.fields.length → s' < p.fields.length → lst.getD s 0 = lst.getD s' 0 → ∀ k, ∀ x ∈ fld p s k, ∀ y ∈ fld p s' k, at_ lst x = at_ lst y
theorem Pass.of {p : Points} (hm : May p) {lst cur : List Nat} {t : Bool} (hM : Made p lst) (hc : Made p cur) (hu : Up p.fields.length lst t cur) (h : ∀ set ∈ sets lst, ∀ k, k < wid p (set.getD 0 0) → Even p cur set k) : Pass p lst t cur := by
  refine ⟨hc, hu, fun ht s s' hs hs' e k x hx y hy => ?_⟩
  have hlen := hM.len
  have e1 := hu.same ht
  subst e1
  have hset := List.mem_of_getElem? (sets_at hM.fix (show s < cur.length by omega))
  have hr := hM.fix.le s (by omega)
  have hi := hM.fix.idem s (by omega)
  have hh := elems_head hM.fix (r := cur.getD s 0) (by omega) hi
  have hk := (mem_fld hm hx).2.1
  have hg : (elems cur cur.length (cur.getD s 0)).getD 0 0 = cur.getD s 0 := by
    rw [List.head?_eq_getElem?] at hh
    rw [List.getD, hh]; rfl
  refine h _ hset k (by rw [hg, wid_eq hm (by omega) hs]; exact hk) x (mem_gath.2 ⟨s, elems_mem.2 ⟨by omega, rfl⟩, hx⟩) y (mem_gath.2 ⟨s', elems_mem.2 ⟨by omega, e.symm⟩, hy⟩)

/-- A pass over the fields that joins nothing ends it. -/
theorem Final.mk' {p : Points} {lst : List Nat} (h : Made p lst) (hn : ∀ l ∈ p.nodes, ∀ x ∈ l, ∀ y ∈ l, at_ lst x = at_ lst y)
    (hf : ∀ s t, s < p.fields.length → t < p.fields.length → lst.getD s 0 = lst.getD t 0 → ∀ k, ∀ x ∈ fld p s k, ∀ y ∈ fld p t k, at_ lst x = at_ lst y) : Final p lst :=
  { h with closed := ⟨hn, hf⟩ }
/-- The number of a site's set. -/
abbrev idx (lst : List Nat) (x : Nat) : Nat := (heads lst (lst.getD x 0)).length
theorem idx_mem {lst : List Nat} (hf : Fix lst) {i x : Nat} {set : List Nat} (hset : (sets lst)[i]? = some set) (hx : x < lst.length) : x ∈ set ↔ idx lst x = i := by
  obtain ⟨r, hr, er, rfl, hi⟩ := sets_idx hset
  constructor
  · intro h
    obtain ⟨_, h2⟩ := elems_mem.1 h
    unfold idx; rw [h2]; exact hi
  · intro h
    have h1 := sets_at hf hx
    unfold idx at h
    rw [h, hset] at h1
    rw [Option.some.inj h1]
    exact elems_mem.2 ⟨hx, rfl⟩
theorem idx_lt {lst : List Nat} (hf : Fix lst) {x : Nat} (hx : x < lst.length) : idx lst x < (sets lst).length := (List.getElem?_eq_some_iff.1 (sets_at hf hx)).1
theorem of_all {lst : List Nat} {n : Nat} {O : List Int} (hO : O.length = n) (h : ∀ x, x < n → O[x]? = some (idx lst x : Int)) : O = (List.range n).map fun i : Nat => cnum lst (i : Int) := by
  apply List.ext_getElem?
  intro x
  by_cases hx : x < n
  · rw [h x hx, List.getElem?_map, List.getElem?_range hx]; simp [cnum, at_, idx]
  · rw [List.getElem?_eq_none (by omega), List.getElem?_eq_none (by simp; omega)]
end Go.MerM
