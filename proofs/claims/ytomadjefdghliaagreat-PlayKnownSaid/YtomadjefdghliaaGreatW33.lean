import Derived.Test.YtomadjefdghliaaGreatW31
import Derived.Test.YtomadjefdghliaaGreatW32
/- The plain mathematics of chapter 26: the program's and the reference's tests of an instruction agree. No program in sight. -/
namespace Go.RtM
open Go.RiseM Go.ReachM Go.Api

/-- What is right of a program ahead of its instructions. -/
structure Hds (t : RTg) (u : Unt) : Prop where
  lay : ∀ L ∈ t.classes, LayoutOk t L
  vars : Entries t u.vars
  res : u.result = -3 ∨ IsEntry t u.result
  glob : Entries t t.globals
  units : ∀ g ∈ t.units, Entries t g.vars ∧ (g.result = -3 ∨ IsEntry t g.result) ∧ 0 ≤ g.params
section
variable {t : RTg} {u : Unt}
theorem ent {e : Int} (h : IsEntry t e) : -2 ≤ e ∧ e < (t.classes.length : Int) := (rentry_iff t e).2 h
/-- A variable: it is there, and both find it; or neither does. -/
theorem var (h : Hds t u) (n : Int) : (∃ e, -2 ≤ e ∧ e < (t.classes.length : Int) ∧ of u n = e ∧ rof u n = e) ∨ (of u n = -3 ∧ rof u n = -4) := by
  unfold of rof
  cases hg : gt u.vars n with
  | none => exact .inr ⟨rfl, rfl⟩
  | some e => have := ent (h.vars e (gt_mem hg)); exact .inl ⟨e, this.1, this.2, rfl, rfl⟩
theorem e_num (h : Hds t u) (n : Int) : of u n = -2 ↔ rof u n = -2 := by
  rcases var h n with ⟨e, _, _, h1, h2⟩ | ⟨h1, h2⟩ <;> rw [h1, h2] <;> omega
theorem e_there (h : Hds t u) (n : Int) : of u n ≠ -3 ↔ rof u n ≠ -4 := by
  rcases var h n with ⟨e, _, _, h1, h2⟩ | ⟨h1, h2⟩ <;> rw [h1, h2] <;> omega
theorem e_ref (h : Hds t u) (n : Int) : IsRef (of u n) ↔ -1 ≤ rof u n := by
  unfold IsRef
  rcases var h n with ⟨e, _, _, h1, h2⟩ | ⟨h1, h2⟩ <;> rw [h1, h2] <;> omega
theorem e_same (h : Hds t u) (n m : Int) (hm : 0 ≤ m) : of u n = m ↔ rof u n = m := by
  rcases var h n with ⟨e, _, _, h1, h2⟩ | ⟨h1, h2⟩ <;> rw [h1, h2] <;> omega
theorem e_intoL (h : Hds t u) (n : Int) {x : Int} (hx : -2 ≤ x) : Into (of u n) x ↔ rof u n ≠ -4 ∧ RInto (rof u n) x := by
  rcases var h n with ⟨e, h0, _, h1, h2⟩ | ⟨h1, h2⟩
  · rw [h1, h2, into_iff h0 hx]
    exact ⟨fun h => ⟨by omega, h⟩, fun h => h.2⟩
  · rw [h1, h2]
    exact ⟨fun h => absurd h none_into, fun h => absurd rfl h.1⟩
theorem e_intoR (h : Hds t u) (n : Int) {x : Int} (hx : -2 ≤ x) : Into x (of u n) ↔ rof u n ≠ -4 ∧ RInto x (rof u n) := by
  rcases var h n with ⟨e, h0, _, h1, h2⟩ | ⟨h1, h2⟩
  · rw [h1, h2, into_iff hx h0]
    exact ⟨fun h => ⟨by omega, h⟩, fun h => h.2⟩
  · rw [h1, h2]
    exact ⟨fun h => absurd h into_none, fun h => absurd rfl h.1⟩
theorem e_into (h : Hds t u) (n m : Int) : Into (of u n) (of u m) ↔ rof u n ≠ -4 ∧ rof u m ≠ -4 ∧ RInto (rof u n) (rof u m) := by
  rcases var h m with ⟨e, h0, _, h1, h2⟩ | ⟨h1, h2⟩
  · rw [h1, h2, e_intoL h n h0]
    exact ⟨fun h => ⟨h.1, by omega, h.2⟩, fun h => ⟨h.1, h.2.2⟩⟩
  · rw [h1, h2]
    exact ⟨fun h => absurd h into_none, fun h => absurd rfl h.2.1⟩
/-- What both say of a cell. -/
theorem e_rec (h : Hds t u) (f c : Int) : (∃ x, -2 ≤ x ∧ cell t u f false c = (x, false, true) ∧ record t (rof u f) c = (x, false)) ∨ (cell t u f false c = (0, true, true) ∧ record t (rof u f) c = (-4, true)) ∨ ((cell t u f false c).2.2 = false ∧ record t (rof u f) c = (-4, false)) := by
  have none : ∀ {e : Int}, (¬ (e = -1 ∧ 0 ≤ c ∧ c < 8)) → gt t.classes e = Option.none → record t e c = (-4, false) := fun h1 h2 => by unfold record; rw [if_neg h1, h2]
  rcases var h f with ⟨e, h0, h3, h1, h2⟩ | ⟨h1, h2⟩
  · rw [h2]
    by_cases g1 : e = -1
    · rw [cell_null (h1.trans g1)]
      by_cases g2 : 0 ≤ c ∧ c < 8
      · refine .inr (.inl ⟨by rw [decide_eq_true g2], ?_⟩)
        unfold record; rw [if_pos ⟨g1, g2⟩]
      · exact .inr (.inr ⟨decide_eq_false g2, none (fun h => g2 h.2) (gt_out (.inl (by omega)))⟩)
    · have hn : ¬ (e = -1 ∧ 0 ≤ c ∧ c < 8) := fun h => g1 h.1
      by_cases g2 : e < 0
      · have hg := gt_out (l := t.classes) (.inl g2)
        exact .inr (.inr ⟨by rw [cell_none (by omega) (by rw [h1]; exact hg)], none hn hg⟩)
      · obtain ⟨L, hL, k, hk, hkl, hL2⟩ := gt_in (l := t.classes) (n := e) ⟨by omega, h3⟩
        have hLm := List.mem_of_getElem? hL2
        have hL' : gt t.classes (of u f) = some L := by rw [h1]; exact hL
        by_cases g3 : L.arr = true
        · exact .inr (.inr ⟨by rw [cell_arr (by omega) hL' (by rw [g3]; simp)], record_arr hn hL g3⟩)
        · have g3' : L.arr = false := by simpa using g3
          cases hx : gt L.refs c with
          | none => exact .inr (.inr ⟨by rw [cell_out (by omega) hL' g3' hx], record_out hn hL g3 hx⟩)
          | some x => exact .inl ⟨x, (ent ((h.lay L hLm).2.2 x (gt_mem hx))).1, cell_some (by omega) hL' g3' hx, record_some hn hL g3 hx⟩
  · rw [h2]
    exact .inr (.inr ⟨by rw [cell_none (by omega) (gt_out (.inl (by omega)))], none (by omega) (gt_out (.inl (by omega)))⟩)
theorem e_arr (h : Hds t u) (f : Int) : (∃ x, -2 ≤ x ∧ cell t u f true 0 = (x, false, true) ∧ array t (rof u f) = (x, false)) ∨ (cell t u f true 0 = (0, true, true) ∧ array t (rof u f) = (-4, true)) ∨ ((cell t u f true 0).2.2 = false ∧ array t (rof u f) = (-4, false)) := by
  have none : ∀ {e : Int}, e ≠ -1 → gt t.classes e = Option.none → array t e = (-4, false) := fun h1 h2 => by unfold array; rw [if_neg h1, h2]
  rcases var h f with ⟨e, h0, h3, h1, h2⟩ | ⟨h1, h2⟩
  · rw [h2]
    by_cases g1 : e = -1
    · rw [cell_null (h1.trans g1)]
      refine .inr (.inl ⟨rfl, ?_⟩)
      unfold array; rw [if_pos g1]
    · by_cases g2 : e < 0
      · have hg := gt_out (l := t.classes) (.inl g2)
        exact .inr (.inr ⟨by rw [cell_none (by omega) (by rw [h1]; exact hg)], none g1 hg⟩)
      · obtain ⟨L, hL, k, hk, hkl, hL2⟩ := gt_in (l := t.classes) (n := e) ⟨by omega, h3⟩
        have hLm := List.mem_of_getElem? hL2
        have hL' : gt t.classes (of u f) = some L := by rw [h1]; exact hL
        by_cases g3 : L.arr = true
        · have hlen := (h.lay L hLm).2.1 g3
          obtain ⟨x, hx, _⟩ := gt_in (l := L.refs) (n := 0) ⟨by omega, by omega⟩
          exact .inl ⟨x, (ent ((h.lay L hLm).2.2 x (gt_mem hx))).1, cell_some (by omega) hL' g3 hx, array_some g1 hL g3 hx⟩
        · exact .inr (.inr ⟨by rw [cell_arr (by omega) hL' g3], array_rec g1 hL g3⟩)
  · rw [h2]
    exact .inr (.inr ⟨by rw [cell_none (by omega) (gt_out (.inl (by omega)))], none (by omega) (gt_out (.inl (by omega)))⟩)
theorem e_loads (h : Hds t u) (a : Int) {f c : Int} {arr : Bool} {r : Int × Bool} (hc : (∃ x, -2 ≤ x ∧ cell t u f arr c = (x, false, true) ∧ r = (x, false)) ∨ (cell t u f arr c = (0, true, true) ∧ r = (-4, true)) ∨ ((cell t u f arr c).2.2 = false ∧ r = (-4, false))) :
    Loads t u a f arr c ↔ rof u a ≠ -4 ∧ Has r (RInto (rof u a)) := by
  unfold Loads Has
  rcases hc with ⟨x, hx, h1, rfl⟩ | ⟨h1, rfl⟩ | ⟨h1, rfl⟩
  · rw [h1]
    simp only [if_neg (show ¬ (false = true) by simp), e_intoL h a hx]
    exact ⟨fun h => ⟨h.2.1, .inr ⟨by omega, h.2.2⟩⟩, fun h => ⟨trivial, h.1, h.2.elim (fun h => by simp at h) (fun h => h.2)⟩⟩
  · rw [h1]
    simp only [if_pos rfl, e_there h a]
    exact ⟨fun h => ⟨h.2, .inl trivial⟩, fun h => ⟨trivial, h.1⟩⟩
  · rw [h1]
    exact ⟨fun h => by simp at h, fun h => by simp at h⟩
theorem e_lays (h : Hds t u) (d : Int) {f c : Int} {arr : Bool} {r : Int × Bool} (hc : (∃ x, -2 ≤ x ∧ cell t u f arr c = (x, false, true) ∧ r = (x, false)) ∨ (cell t u f arr c = (0, true, true) ∧ r = (-4, true)) ∨ ((cell t u f arr c).2.2 = false ∧ r = (-4, false))) :
    Lays t u f arr c d ↔ rof u d ≠ -4 ∧ Has r (fun e => RInto e (rof u d)) := by
  unfold Lays Has
  rcases hc with ⟨x, hx, h1, rfl⟩ | ⟨h1, rfl⟩ | ⟨h1, rfl⟩
  · rw [h1]
    simp only [if_neg (show ¬ (false = true) by simp), e_intoR h d hx]
    exact ⟨fun h => ⟨h.2.1, .inr ⟨by omega, h.2.2⟩⟩, fun h => ⟨trivial, h.1, h.2.elim (fun h => by simp at h) (fun h => h.2)⟩⟩
  · rw [h1]
    simp only [if_pos rfl, e_there h d]
    exact ⟨fun h => ⟨h.2, .inl trivial⟩, fun h => ⟨trivial, h.1⟩⟩
  · rw [h1]
    exact ⟨fun h => by simp at h, fun h => by simp at h⟩
theorem e_len (h : Hds t u) (f : Int) : (cell t u f true 0).2.2 = true ↔ Has (array t (rof u f)) (fun _ => True) := by
  unfold Has
  rcases e_arr h f with ⟨x, hx, h1, h2⟩ | ⟨h1, h2⟩ | ⟨h1, h2⟩
  · rw [h1, h2]; exact ⟨fun _ => .inr ⟨by omega, trivial⟩, fun _ => rfl⟩
  · rw [h1, h2]; exact ⟨fun _ => .inl rfl, fun _ => rfl⟩
  · rw [h1, h2]; exact ⟨fun h => by simp at h, fun h => by simp at h⟩
theorem e_fresh (h : Hds t u) (i : Ins) (arr : Bool) : Fresh t u i arr ↔ RClass t i.n arr ∧ rof u i.a = i.n := by
  unfold Fresh RClass
  cases hg : gt t.classes i.n with
  | none => simp
  | some L =>
    obtain ⟨k, hk, _⟩ := gt_some hg
    simp only [e_same h i.a i.n (by omega)]
theorem e_call (h : Hds t u) (i : Ins) : CallOk t u i ↔ RCall t u i := by
  unfold CallOk RCall
  cases hg : gt t.units i.c with
  | none => exact Iff.rfl
  | some g =>
    obtain ⟨hv, hr, hp⟩ := h.units g (gt_mem hg)
    simp only
    have z : (∀ p ∈ i.args.zip g.vars, Into p.2 (of u p.1)) ↔ ∀ p ∈ i.args.zip g.vars, rof u p.1 ≠ -4 ∧ RInto p.2 (rof u p.1) := by
      have key : ∀ p ∈ i.args.zip g.vars, (Into p.2 (of u p.1) ↔ rof u p.1 ≠ -4 ∧ RInto p.2 (rof u p.1)) := fun p hp => e_intoR h p.1 (ent (hv p.2 (List.of_mem_zip hp).2)).1
      exact ⟨fun h2 p hp => (key p hp).1 (h2 p hp), fun h2 p hp => (key p hp).2 (h2 p hp)⟩
    have r : Into (of u i.a) g.result ↔ rof u i.a ≠ -4 ∧ g.result ≠ -3 ∧ RInto (rof u i.a) g.result := by
      rcases hr with hr | hr
      · rw [hr]; exact ⟨fun h => absurd h into_none, fun h => absurd rfl h.2.1⟩
      · have := ent hr
        rw [e_intoL h i.a this.1]
        exact ⟨fun h => ⟨h.1, by omega, h.2⟩, fun h => ⟨h.1, h.2.2⟩⟩
    rw [z, r]
    exact ⟨fun h => ⟨⟨hp, h.1.2.1, h.1.1, h.1.2.2⟩, h.2⟩, fun h => ⟨⟨h.1.2.2.1, h.1.2.1, h.1.2.2.2⟩, h.2⟩⟩
theorem e_glob (h : Hds t u) (n : Int) {A B : Int → Prop} (hab : ∀ g, -2 ≤ g → (A g ↔ rof u n ≠ -4 ∧ B g)) (k : Int) : InG t k A ↔ rof u n ≠ -4 ∧ InG t k B := by
  unfold InG
  cases hg : gt t.globals k with
  | none => simp
  | some g => exact hab g (ent (h.glob g (gt_mem hg))).1
theorem e_two (h : Hds t u) (i : Ins) : Two u i ↔ (rof u i.a = -2 ∧ 14 ≤ i.n ∧ i.n ≤ 24) ∧ (if i.n = 21 ∨ i.n = 22 then rof u i.b ≠ -4 ∧ rof u i.c ≠ -4 ∧ (rof u i.b = -2 ↔ rof u i.c = -2) else rof u i.b = -2 ∧ rof u i.c = -2) := by
  unfold Two
  rw [e_num h i.a, e_num h i.b, e_num h i.c, e_ref h i.b, e_ref h i.c]
  have hb : rof u i.b = -4 ∨ -2 ≤ rof u i.b := by rcases var h i.b with ⟨e, h0, _, _, h2⟩ | ⟨_, h2⟩ <;> omega
  have hc : rof u i.c = -4 ∨ -2 ≤ rof u i.c := by rcases var h i.c with ⟨e, h0, _, _, h2⟩ | ⟨_, h2⟩ <;> omega
  split <;> rename_i hn <;> omega
/-- The two tests of an instruction agree. -/
theorem fits_step (h : Hds t u) (i : Ins) : (Bare i ∧ Fits t u i) ↔ Step t u i := by
  by_cases hop : i.op ∈ ([1, 2, 3, 4, 5, 6, 7, 8, 9, 10, 11, 12, 13, 14, 15, 16, 17, 18, 19, 20, 21, 22] : List Int)
  · unfold Step
    rw [named_iff hop]
    refine and_congr_right fun _ => ?_
    simp only [List.mem_cons, List.not_mem_nil, or_false] at hop
    have L1 := e_loads h i.a (e_rec h i.b i.c)
    have L2 := e_lays h i.b (e_rec h i.a i.c)
    have L3 := e_loads h i.a (e_arr h i.b)
    have L4 := e_lays h i.c (e_arr h i.a)
    have L5 := e_len h i.b
    have L6 := e_fresh h i
    have L7 := e_call h i
    have L8 := e_two h i
    have L9 := e_into h i.a i.b
    have La := e_num h i.a
    have Lb := e_num h i.b
    have Lc := e_num h i.c
    have Lr := e_ref h i.a
    have G1 := e_glob h i.a (A := fun g => Into (of u i.a) g) (B := fun g => RInto (rof u i.a) g) (fun g hg => e_intoL h i.a hg) i.n
    have G2 := e_glob h i.a (A := fun g => Into g (of u i.a)) (B := fun g => RInto g (rof u i.a)) (fun g hg => e_intoR h i.a hg) i.n
    have R : (u.result = -3 ∧ i.a = -1 ∨ u.result ≠ -3 ∧ Into u.result (of u i.a)) ↔ (if u.result = -3 then i.a = -1 else rof u i.a ≠ -4 ∧ RInto u.result (rof u i.a)) := by
      rcases h.res with hr | hr
      · rw [if_pos hr]; exact ⟨fun h => h.elim (fun h => h.2) (fun h => absurd hr h.1), fun h => .inl ⟨hr, h⟩⟩
      · have := ent hr
        rw [if_neg (by omega), ← e_intoR h i.a this.1]
        exact ⟨fun h => h.elim (fun h => by omega) (fun h => h.2), fun h => .inr ⟨by omega, h⟩⟩
    unfold Fits Goes
    rcases hop with e | e | e | e | e | e | e | e | e | e | e | e | e | e | e | e | e | e | e | e | e | e <;> simp only [e, reduceCtorEq, Int.reduceEq, or_false, or_true, false_or, true_or, if_true, if_false, or_self, ↓reduceIte] <;> first
      | exact La | exact Lr | exact L9 | exact L8 | exact L1 | exact L2 | exact L7 | exact R | exact G1 | exact G2 | exact Iff.rfl
      | (rw [La, Lb]; exact ⟨fun h => ⟨h.2.1, h.2.2, h.1⟩, fun h => ⟨h.2.2, h.1, h.2.1⟩⟩)
      | (rw [Lc, L3]; exact ⟨fun h => ⟨h.2.1, h.1, h.2.2⟩, fun h => ⟨h.2.1, h.1, h.2.2⟩⟩)
      | (rw [Lb, L4]; exact ⟨fun h => ⟨h.2.1, h.1, h.2.2⟩, fun h => ⟨h.2.1, h.1, h.2.2⟩⟩)
      | (rw [L5, La]; exact ⟨fun h => ⟨h.2, h.1⟩, fun h => ⟨h.2, h.1⟩⟩)
      | exact L6 false
      | (rw [L6 true, Lb]; exact ⟨fun h => ⟨h.1.1, h.1.2, h.2⟩, fun h => ⟨⟨h.1, h.2.1⟩, h.2.2⟩⟩)
      | (rw [La])
  · exact ⟨fun h => absurd (bare_op h.1) hop, fun h => absurd (step_op h) hop⟩
end
end Go.RtM

/- The walk over step of the reference of chapter 26. Written by wip/rstep.py. -/
namespace Go.Proofs.YtomadjefdghliaaGreat
open Go Go.RR Go.RX Go.GX Go.Api Go.RiseM Go.ReachM Go.RtM
attribute [local irreducible] wpList Code.wp wpPlan Exit.then Exit.inBlock bodyPost NoPanic Went GX.Post GX.Again GX.Meet GX.RowR GX.Own GX.Owns GX.Box GX.Sl GX.Pt GX.Ag GX.MapR GX.Kept GX.Pin wpT GoK AtEnd Both

noncomputable instance (t : RTg) (u : Unt) (i : Ins) : Decidable (Step t u i) := Classical.propDecidable _
theorem rof_lt {t : RTg} {u : Unt} (h : Hds t u) (n : Int) : rof u n < (t.classes.length : Int) := by
  rcases var h n with ⟨e, _, h1, _, h2⟩ | ⟨_, h2⟩ <;> omega
theorem lay_arr {t : RTg} {u : Unt} (h : Hds t u) : ∀ L ∈ t.classes, L.arr = true → L.refs.length = 1 := fun L hL => (h.lay L hL).2.1
set_option maxHeartbeats 8000000 in
theorem step_spec (c1 c2 c3 : List Value) (t : RTg) (u : Unt) (i : Ins) (h : Hds t u) : Does Tryz.prog 37 [.agg c1.toArray, .agg c2.toArray, .agg c3.toArray] [Ag tyRTg c1 t, Ag tyUnt c2 u, Ag tyIns c3 i] []
    (fun _ : Unit => .bool (decide (Step t u i))) (fun _ => []) (fun _ => []) := by
  refine enter Tryz.func37 rfl Tryz.ntmps37 rfl fun b => ?_
  refine GX.wR ?_; intros
  refine GX.o (cl (named_spec _ i) fun _ => ?_)
  by_cases hN : Named i
  rotate_left
  · refine GX.wR ?_; intros
    exact rt1 () (vN fun h => hN h.1)
  have hN' := Classical.not_not.2 hN
  refine GX.wR ?_; intros
  refine GX.drawn0  (fun j => !(List.contains [11] j)) [(0, true), (1, true), (2, true), (4, true), (5, true), (6, true), (8, true), (9, true), (10, true), (3, false), (7, false), (11, false), (12, true), (13, true), (14, true)] rfl (by kernel_rfl) (by kernel_rfl) (by first | ((repeat (first | apply Go.GX.SelR.nil | apply Go.GX.SelR.cons | (with_reducible apply Go.GX.TakeR.head) | apply Go.GX.TakeR.tail)); done) | (repeat (first | apply Go.GX.SelR.nil | apply Go.GX.SelR.cons | apply Go.GX.TakeR.head | apply Go.GX.TakeR.tail))) ?_; intro wd F hW hR
  refine GX.wT ?_; intros
  refine GX.gow ?_
  refine (cl (rof_spec _ u i.a) fun _ => ?_)
  refine GX.wT ?_; intros
  refine GX.gow ?_
  refine (cl (rof_spec _ u i.b) fun _ => ?_)
  refine GX.wT ?_; intros
  refine GX.gow ?_
  refine (cl (rof_spec _ u i.c) fun _ => ?_)
  refine GX.wT ?_; intros
  have ha := rof_lt h i.a
  have hb := rof_lt h i.b
  have hl := lay_arr h
  refine GX.wRB ?_; intros
  refine GX.nmP 3 ?_; rintro b3 rfl
  refine GX.nmP 4 ?_; rintro b4 rfl
  refine GX.nmP 5 ?_; rintro b5 rfl
  refine less [(3, .pointer (some ⟨b3, 0, none⟩)), (4, .pointer (some ⟨b4, 0, none⟩)), (5, .pointer (some ⟨b5, 0, none⟩)), (7, .int .i64 (rof u i.a)), (8, .int .i64 (rof u i.b)), (9, .int .i64 (rof u i.c)), (10, .int .i64 (-2)), (37, .int .i64 i.op)] [Pt tyRTg b3 0 t, Pt tyUnt b4 0 u, Pt tyIns b5 0 i] [] ⟨rfl, rfl, rfl, rfl, rfl, rfl, rfl, rfl, trivial⟩ (AllIn.sub (by ((repeat (first | apply Go.GX.AllIn.nil | apply Go.GX.AllIn.cons | (with_reducible apply Go.GX.InP.head) | apply Go.GX.InP.tail)); done))) (List.nil_sublist _) ?_
  by_cases h1 : i.op = 1 ∨ i.op = 14 ∨ i.op = 15
  · have e : Step t u i ↔ rof u i.a = -2 := by unfold Step; rw [if_pos h1]; exact ⟨fun h => h.2, fun h => ⟨hN, h⟩⟩
    rcases h1 with h1 | h1 | h1
    · refine GX.wR ?_; intros
      exact rt1 () (vI e)
    · refine GX.wR ?_; intros
      exact rt1 () (vI e)
    · refine GX.wR ?_; intros
      exact rt1 () (vI e)
  have n1 : i.op ≠ 1 := fun h => h1 (.inl h)
  have n14 : i.op ≠ 14 := fun h => h1 (.inr (.inl h))
  have n15 : i.op ≠ 15 := fun h => h1 (.inr (.inr h))
  by_cases h2 : i.op = 2
  · have e : Step t u i ↔ -1 ≤ rof u i.a := by unfold Step; rw [if_neg h1, if_pos h2]; exact ⟨fun h => h.2, fun h => ⟨hN, h⟩⟩
    refine GX.wR ?_; intros
    exact rt1 () (vI e)
  by_cases h3 : i.op = 3
  · have e : Step t u i ↔ rof u i.a ≠ -4 ∧ rof u i.b ≠ -4 ∧ RInto (rof u i.a) (rof u i.b) := by unfold Step; rw [if_neg h1, if_neg h2, if_pos h3]; exact ⟨fun h => h.2, fun h => ⟨hN, h⟩⟩
    by_cases g1 : rof u i.a = -4
    · refine GX.wR ?_; intros
      exact rt1 () (vN fun h => (e.1 h).1 g1)
    by_cases g2 : rof u i.b = -4
    · refine GX.wR ?_; intros
      exact rt1 () (vN fun h => (e.1 h).2.1 g2)
    refine GX.wR ?_; intros
    refine GX.o (cl (rinto_spec _ _) fun _ => ?_)
    refine GX.wR ?_; intros
    exact rt1 () (vI (e.trans ⟨fun h => h.2.2, fun h => ⟨g1, g2, h⟩⟩))
  by_cases h4 : i.op = 4
  · have e : Step t u i ↔ (rof u i.a = -2 ∧ 14 ≤ i.n ∧ i.n ≤ 24) ∧ (if i.n = 21 ∨ i.n = 22 then rof u i.b ≠ -4 ∧ rof u i.c ≠ -4 ∧ (rof u i.b = -2 ↔ rof u i.c = -2) else rof u i.b = -2 ∧ rof u i.c = -2) := by unfold Step; rw [if_neg h1, if_neg h2, if_neg h3, if_pos h4]; exact ⟨fun h => h.2, fun h => ⟨hN, h⟩⟩
    by_cases g1 : rof u i.a = -2
    rotate_left
    · refine GX.wR ?_; intros
      exact rt1 () (vN fun h => g1 (e.1 h).1.1)
    have g1' := Classical.not_not.2 g1
    by_cases g2 : i.n < 14
    · refine GX.wR ?_; intros
      exact rt1 () (vN fun h => by have := (e.1 h).1; omega)
    by_cases g3 : 24 < i.n
    · refine GX.wR ?_; intros
      exact rt1 () (vN fun h => by have := (e.1 h).1; omega)
    have hh : rof u i.a = -2 ∧ 14 ≤ i.n ∧ i.n ≤ 24 := ⟨g1, by omega, by omega⟩
    by_cases g4 : i.n = 21 ∨ i.n = 22
    · rw [if_pos g4] at e
      by_cases g5 : rof u i.b = -4
      · rcases g4 with g4 | g4
        · refine GX.wR ?_; intros
          exact rt1 () (vN fun h => (e.1 h).2.1 g5)
        · refine GX.wR ?_; intros
          exact rt1 () (vN fun h => (e.1 h).2.1 g5)
      by_cases g6 : rof u i.c = -4
      · rcases g4 with g4 | g4
        · refine GX.wR ?_; intros
          exact rt1 () (vN fun h => (e.1 h).2.2.1 g6)
        · refine GX.wR ?_; intros
          exact rt1 () (vN fun h => (e.1 h).2.2.1 g6)
      have e2 : decide (Step t u i) = (decide (rof u i.b = -2) == decide (rof u i.c = -2)) := by
        rw [Bool.eq_iff_iff, decide_eq_true_eq, beq_iff_eq, decide_eq_decide, e]
        exact ⟨fun h => h.2.2.2, fun h => ⟨hh, g5, g6, h⟩⟩
      rw [e2]
      rcases g4 with g4 | g4
      · refine GX.wR ?_; intros
        exact rt1 () rfl
      · refine GX.wR ?_; intros
        exact rt1 () rfl
    · rw [if_neg g4] at e
      have g5 : i.n ≠ 21 := fun h => g4 (.inl h)
      have g6 : i.n ≠ 22 := fun h => g4 (.inr h)
      by_cases g7 : rof u i.b = -2
      · refine GX.wR ?_; intros
        exact rt1 () (vI (e.trans ⟨fun h => h.2.2, fun h => ⟨hh, g7, h⟩⟩))
      · refine GX.wR ?_; intros
        exact rt1 () (vN fun h => g7 (e.1 h).2.1)
  by_cases h5 : i.op = 5
  · have e : Step t u i ↔ rof u i.a = -2 ∧ rof u i.b = -2 ∧ (i.n = 12 ∨ i.n = 13) := by unfold Step; rw [if_neg h1, if_neg h2, if_neg h3, if_neg h4, if_pos h5]; exact ⟨fun h => h.2, fun h => ⟨hN, h⟩⟩
    by_cases g1 : rof u i.a = -2
    rotate_left
    · refine GX.wR ?_; intros
      exact rt1 () (vN fun h => g1 (e.1 h).1)
    by_cases g2 : rof u i.b = -2
    rotate_left
    · refine GX.wR ?_; intros
      exact rt1 () (vN fun h => g2 (e.1 h).2.1)
    by_cases g3 : i.n = 12
    · refine GX.wR ?_; intros
      exact rt1 () (vY (e.2 ⟨g1, g2, .inl g3⟩))
    · refine GX.wR ?_; intros
      exact rt1 () (vI (e.trans ⟨fun h => h.2.2.elim (fun h => absurd h g3) id, fun h => ⟨g1, g2, .inr h⟩⟩))
  by_cases h6 : i.op = 6
  · have e : Step t u i ↔ rof u i.a ≠ -4 ∧ RtM.Has (record t (rof u i.b) i.c) (RInto (rof u i.a)) := by unfold Step; rw [if_neg h1, if_neg h2, if_neg h3, if_neg h4, if_neg h5, if_pos h6]; exact ⟨fun h => h.2, fun h => ⟨hN, h⟩⟩
    refine GX.wR ?_; intros
    refine GX.o (cl (record_spec _ t (rof u i.b) i.c hb) fun _ => ?_)
    unfold RtM.Has at e
    generalize record t (rof u i.b) i.c = r at *
    obtain ⟨x, any⟩ := r
    dsimp only at *
    by_cases f0 : rof u i.a = -4
    · refine GX.wR ?_; intros
      exact rt1 () (vN fun h => (e.1 h).1 f0)
    cases any with
    | true =>
      refine GX.wR ?_; intros
      exact rt1 () (vY (e.2 ⟨f0, .inl rfl⟩))
    | false =>
      by_cases g : x = -4
      · refine GX.wR ?_; intros
        exact rt1 () (vN fun h => (e.1 h).2.elim (fun h => by simp at h) (fun h => h.1 g))
      · refine GX.wR ?_; intros
        refine GX.o (cl (rinto_spec _ x) fun _ => ?_)
        refine GX.wR ?_; intros
        exact rt1 () (vI (e.trans ⟨fun h => h.2.elim (fun h => by simp at h) (fun h => h.2), fun h => ⟨f0, .inr ⟨g, h⟩⟩⟩))
  by_cases h7 : i.op = 7
  · have e : Step t u i ↔ rof u i.b ≠ -4 ∧ RtM.Has (record t (rof u i.a) i.c) (fun e => RInto e (rof u i.b)) := by unfold Step; rw [if_neg h1, if_neg h2, if_neg h3, if_neg h4, if_neg h5, if_neg h6, if_pos h7]; exact ⟨fun h => h.2, fun h => ⟨hN, h⟩⟩
    refine GX.wR ?_; intros
    refine GX.o (cl (record_spec _ t (rof u i.a) i.c ha) fun _ => ?_)
    unfold RtM.Has at e
    generalize record t (rof u i.a) i.c = r at *
    obtain ⟨x, any⟩ := r
    dsimp only at *
    by_cases f0 : rof u i.b = -4
    · refine GX.wR ?_; intros
      exact rt1 () (vN fun h => (e.1 h).1 f0)
    cases any with
    | true =>
      refine GX.wR ?_; intros
      exact rt1 () (vY (e.2 ⟨f0, .inl rfl⟩))
    | false =>
      by_cases g : x = -4
      · refine GX.wR ?_; intros
        exact rt1 () (vN fun h => (e.1 h).2.elim (fun h => by simp at h) (fun h => h.1 g))
      · refine GX.wR ?_; intros
        refine GX.o (cl (rinto_spec x _) fun _ => ?_)
        refine GX.wR ?_; intros
        exact rt1 () (vI (e.trans ⟨fun h => h.2.elim (fun h => by simp at h) (fun h => h.2), fun h => ⟨f0, .inr ⟨g, h⟩⟩⟩))
  by_cases h8 : i.op = 8
  · have e : Step t u i ↔ rof u i.a ≠ -4 ∧ rof u i.c = -2 ∧ RtM.Has (array t (rof u i.b)) (RInto (rof u i.a)) := by unfold Step; rw [if_neg h1, if_neg h2, if_neg h3, if_neg h4, if_neg h5, if_neg h6, if_neg h7, if_pos h8]; exact ⟨fun h => h.2, fun h => ⟨hN, h⟩⟩
    refine GX.wR ?_; intros
    refine GX.o (cl (array_spec _ t (rof u i.b) hb hl) fun _ => ?_)
    unfold RtM.Has at e
    generalize array t (rof u i.b) = r at *
    obtain ⟨x, any⟩ := r
    dsimp only at *
    by_cases f0 : rof u i.a = -4
    · refine GX.wR ?_; intros
      exact rt1 () (vN fun h => (e.1 h).1 f0)
    by_cases f1 : rof u i.c = -2
    rotate_left
    · refine GX.wR ?_; intros
      exact rt1 () (vN fun h => f1 (e.1 h).2.1)
    cases any with
    | true =>
      refine GX.wR ?_; intros
      exact rt1 () (vY (e.2 ⟨f0, f1, .inl rfl⟩))
    | false =>
      by_cases g : x = -4
      · refine GX.wR ?_; intros
        exact rt1 () (vN fun h => (e.1 h).2.2.elim (fun h => by simp at h) (fun h => h.1 g))
      · refine GX.wR ?_; intros
        refine GX.o (cl (rinto_spec _ x) fun _ => ?_)
        refine GX.wR ?_; intros
        exact rt1 () (vI (e.trans ⟨fun h => h.2.2.elim (fun h => by simp at h) (fun h => h.2), fun h => ⟨f0, f1, .inr ⟨g, h⟩⟩⟩))
  by_cases h9 : i.op = 9
  · have e : Step t u i ↔ rof u i.c ≠ -4 ∧ rof u i.b = -2 ∧ RtM.Has (array t (rof u i.a)) (fun e => RInto e (rof u i.c)) := by unfold Step; rw [if_neg h1, if_neg h2, if_neg h3, if_neg h4, if_neg h5, if_neg h6, if_neg h7, if_neg h8, if_pos h9]; exact ⟨fun h => h.2, fun h => ⟨hN, h⟩⟩
    refine GX.wR ?_; intros
    refine GX.o (cl (array_spec _ t (rof u i.a) ha hl) fun _ => ?_)
    unfold RtM.Has at e
    generalize array t (rof u i.a) = r at *
    obtain ⟨x, any⟩ := r
    dsimp only at *
    by_cases f0 : rof u i.c = -4
    · refine GX.wR ?_; intros
      exact rt1 () (vN fun h => (e.1 h).1 f0)
    by_cases f1 : rof u i.b = -2
    rotate_left
    · refine GX.wR ?_; intros
      exact rt1 () (vN fun h => f1 (e.1 h).2.1)
    cases any with
    | true =>
      refine GX.wR ?_; intros
      exact rt1 () (vY (e.2 ⟨f0, f1, .inl rfl⟩))
    | false =>
      by_cases g : x = -4
      · refine GX.wR ?_; intros
        exact rt1 () (vN fun h => (e.1 h).2.2.elim (fun h => by simp at h) (fun h => h.1 g))
      · refine GX.wR ?_; intros
        refine GX.o (cl (rinto_spec x _) fun _ => ?_)
        refine GX.wR ?_; intros
        exact rt1 () (vI (e.trans ⟨fun h => h.2.2.elim (fun h => by simp at h) (fun h => h.2), fun h => ⟨f0, f1, .inr ⟨g, h⟩⟩⟩))
  by_cases h10 : i.op = 10
  · have e : Step t u i ↔ rof u i.a = -2 ∧ RtM.Has (array t (rof u i.b)) (fun _ => True) := by unfold Step; rw [if_neg h1, if_neg h2, if_neg h3, if_neg h4, if_neg h5, if_neg h6, if_neg h7, if_neg h8, if_neg h9, if_pos h10]; exact ⟨fun h => h.2, fun h => ⟨hN, h⟩⟩
    refine GX.wR ?_; intros
    refine GX.o (cl (array_spec _ t (rof u i.b) hb hl) fun _ => ?_)
    unfold RtM.Has at e
    generalize array t (rof u i.b) = r at *
    obtain ⟨x, any⟩ := r
    dsimp only at *
    by_cases f0 : rof u i.a = -2
    rotate_left
    · refine GX.wR ?_; intros
      exact rt1 () (vN fun h => f0 (e.1 h).1)
    cases any with
    | true =>
      refine GX.wR ?_; intros
      exact rt1 () (vY (e.2 ⟨f0, .inl rfl⟩))
    | false =>
      refine GX.wR ?_; intros
      exact rt1 () (vI (e.trans ⟨fun h => h.2.elim (fun h => by simp at h) (fun h => h.1), fun h => ⟨f0, .inr ⟨h, trivial⟩⟩⟩))
  by_cases h11 : i.op = 11
  · have e : Step t u i ↔ RClass t i.n false ∧ rof u i.a = i.n := by unfold Step; rw [if_neg h1, if_neg h2, if_neg h3, if_neg h4, if_neg h5, if_neg h6, if_neg h7, if_neg h8, if_neg h9, if_neg h10, if_pos h11]; exact ⟨fun h => h.2, fun h => ⟨hN, h⟩⟩
    refine GX.wR ?_; intros
    refine GX.o (cl (rclass_spec _ t i.n false) fun _ => ?_)
    by_cases g1 : RClass t i.n false
    · refine GX.wR ?_; intros
      exact rt1 () (vI (e.trans ⟨fun h => h.2, fun h => ⟨g1, h⟩⟩))
    · refine GX.wR ?_; intros
      exact rt1 () (vN fun h => g1 (e.1 h).1)
  by_cases h12 : i.op = 12
  · have e : Step t u i ↔ RClass t i.n true ∧ rof u i.a = i.n ∧ rof u i.b = -2 := by unfold Step; rw [if_neg h1, if_neg h2, if_neg h3, if_neg h4, if_neg h5, if_neg h6, if_neg h7, if_neg h8, if_neg h9, if_neg h10, if_neg h11, if_pos h12]; exact ⟨fun h => h.2, fun h => ⟨hN, h⟩⟩
    refine GX.wR ?_; intros
    refine GX.o (cl (rclass_spec _ t i.n true) fun _ => ?_)
    by_cases g1 : RClass t i.n true
    rotate_left
    · refine GX.wR ?_; intros
      exact rt1 () (vN fun h => g1 (e.1 h).1)
    by_cases g2 : rof u i.a = i.n
    · refine GX.wR ?_; intros
      exact rt1 () (vI (e.trans ⟨fun h => h.2.2, fun h => ⟨g1, g2, h⟩⟩))
    · refine GX.wR ?_; intros
      exact rt1 () (vN fun h => g2 (e.1 h).2.1)
  by_cases h13 : i.op = 13
  · have e : Step t u i ↔ RCall t u i := by unfold Step; rw [if_neg h1, if_neg h2, if_neg h3, if_neg h4, if_neg h5, if_neg h6, if_neg h7, if_neg h8, if_neg h9, if_neg h10, if_neg h11, if_neg h12, if_pos h13]; exact ⟨fun h => h.2, fun h => ⟨hN, h⟩⟩
    refine GX.wR ?_; intros
    refine GX.o (cl (rcall_spec _ _ _ t u i) fun _ => ?_)
    refine GX.wR ?_; intros
    exact rt1 () (vI e)
  by_cases h16 : i.op = 16
  · have e : Step t u i ↔ RtM.Place u i.n := by unfold Step; rw [if_neg h1, if_neg h2, if_neg h3, if_neg h4, if_neg h5, if_neg h6, if_neg h7, if_neg h8, if_neg h9, if_neg h10, if_neg h11, if_neg h12, if_neg h13, if_pos h16]; exact ⟨fun h => h.2, fun h => ⟨hN, h⟩⟩
    by_cases g1 : 0 ≤ i.n
    · refine GX.wR ?_; intros
      exact rt1 () (vI (e.trans ⟨fun h => h.2, fun h => ⟨g1, h⟩⟩))
    · refine GX.wR ?_; intros
      exact rt1 () (vN fun h => g1 (e.1 h).1)
  by_cases h17 : i.op = 17
  · have e : Step t u i ↔ rof u i.a = -2 ∧ RtM.Place u i.n ∧ RtM.Place u i.c := by unfold Step; rw [if_neg h1, if_neg h2, if_neg h3, if_neg h4, if_neg h5, if_neg h6, if_neg h7, if_neg h8, if_neg h9, if_neg h10, if_neg h11, if_neg h12, if_neg h13, if_neg h16, if_pos h17]; exact ⟨fun h => h.2, fun h => ⟨hN, h⟩⟩
    by_cases g1 : rof u i.a = -2
    rotate_left
    · refine GX.wR ?_; intros
      exact rt1 () (vN fun h => g1 (e.1 h).1)
    by_cases g2 : 0 ≤ i.n
    rotate_left
    · refine GX.wR ?_; intros
      exact rt1 () (vN fun h => g2 (e.1 h).2.1.1)
    by_cases g3 : i.n < (u.ins.length : Int)
    rotate_left
    · refine GX.wR ?_; intros
      exact rt1 () (vN fun h => g3 (e.1 h).2.1.2)
    by_cases g4 : 0 ≤ i.c
    · refine GX.wR ?_; intros
      exact rt1 () (vI (e.trans ⟨fun h => h.2.2.2, fun h => ⟨g1, ⟨g2, g3⟩, g4, h⟩⟩))
    · refine GX.wR ?_; intros
      exact rt1 () (vN fun h => g4 (e.1 h).2.2.1)
  by_cases h18 : i.op = 18
  · have e : Step t u i ↔ (if u.result = -3 then i.a = -1 else rof u i.a ≠ -4 ∧ RInto u.result (rof u i.a)) := by unfold Step; rw [if_neg h1, if_neg h2, if_neg h3, if_neg h4, if_neg h5, if_neg h6, if_neg h7, if_neg h8, if_neg h9, if_neg h10, if_neg h11, if_neg h12, if_neg h13, if_neg h16, if_neg h17, if_pos h18]; exact ⟨fun h => h.2, fun h => ⟨hN, h⟩⟩
    by_cases g1 : u.result = -3
    · rw [if_pos g1] at e
      refine GX.wR ?_; intros
      exact rt1 () (vI e)
    · rw [if_neg g1] at e
      by_cases g2 : rof u i.a = -4
      · refine GX.wR ?_; intros
        exact rt1 () (vN fun h => (e.1 h).1 g2)
      · refine GX.wR ?_; intros
        refine GX.o (cl (rinto_spec u.result _) fun _ => ?_)
        refine GX.wR ?_; intros
        exact rt1 () (vI (e.trans ⟨fun h => h.2, fun h => ⟨g2, h⟩⟩))
  by_cases h19 : i.op = 19
  · have e : Step t u i ↔ rof u i.a ≠ -4 ∧ InG t i.n (fun g => RInto (rof u i.a) g) := by unfold Step; rw [if_neg h1, if_neg h2, if_neg h3, if_neg h4, if_neg h5, if_neg h6, if_neg h7, if_neg h8, if_neg h9, if_neg h10, if_neg h11, if_neg h12, if_neg h13, if_neg h16, if_neg h17, if_neg h18, if_pos h19]; exact ⟨fun h => h.2, fun h => ⟨hN, h⟩⟩
    by_cases g1 : rof u i.a = -4
    · refine GX.wR ?_; intros
      exact rt1 () (vN fun h => (e.1 h).1 g1)
    by_cases g2 : i.n < 0
    · have e2 : ¬ InG t i.n (fun g => RInto (rof u i.a) g) := by unfold InG; rw [gt_out (.inl g2)]; exact id
      refine GX.wR ?_; intros
      exact rt1 () (vN fun h => e2 (e.1 h).2)
    by_cases g3 : (t.globals.length : Int) ≤ i.n
    · have e2 : ¬ InG t i.n (fun g => RInto (rof u i.a) g) := by unfold InG; rw [gt_out (.inr g3)]; exact id
      refine GX.wR ?_; intros
      exact rt1 () (vN fun h => e2 (e.1 h).2)
    obtain ⟨g, hg, k, hk, hkl, hg2⟩ := gt_in (l := t.globals) (n := i.n) ⟨by omega, by omega⟩
    have e2 : InG t i.n (fun g => RInto (rof u i.a) g) ↔ (fun g => RInto (rof u i.a) g) g := by unfold InG; rw [hg]
    refine GX.wR ?_; intros
    refine GX.o (cl (rinto_spec _ g) fun _ => ?_)
    refine GX.wR ?_; intros
    exact rt1 () (vI (e.trans ⟨fun h => e2.1 h.2, fun h => ⟨g1, e2.2 h⟩⟩))
  by_cases h20 : i.op = 20
  · have e : Step t u i ↔ rof u i.a ≠ -4 ∧ InG t i.n (fun g => RInto g (rof u i.a)) := by unfold Step; rw [if_neg h1, if_neg h2, if_neg h3, if_neg h4, if_neg h5, if_neg h6, if_neg h7, if_neg h8, if_neg h9, if_neg h10, if_neg h11, if_neg h12, if_neg h13, if_neg h16, if_neg h17, if_neg h18, if_neg h19, if_pos h20]; exact ⟨fun h => h.2, fun h => ⟨hN, h⟩⟩
    by_cases g1 : rof u i.a = -4
    · refine GX.wR ?_; intros
      exact rt1 () (vN fun h => (e.1 h).1 g1)
    by_cases g2 : i.n < 0
    · have e2 : ¬ InG t i.n (fun g => RInto g (rof u i.a)) := by unfold InG; rw [gt_out (.inl g2)]; exact id
      refine GX.wR ?_; intros
      exact rt1 () (vN fun h => e2 (e.1 h).2)
    by_cases g3 : (t.globals.length : Int) ≤ i.n
    · have e2 : ¬ InG t i.n (fun g => RInto g (rof u i.a)) := by unfold InG; rw [gt_out (.inr g3)]; exact id
      refine GX.wR ?_; intros
      exact rt1 () (vN fun h => e2 (e.1 h).2)
    obtain ⟨g, hg, k, hk, hkl, hg2⟩ := gt_in (l := t.globals) (n := i.n) ⟨by omega, by omega⟩
    have e2 : InG t i.n (fun g => RInto g (rof u i.a)) ↔ (fun g => RInto g (rof u i.a)) g := by unfold InG; rw [hg]
    refine GX.wR ?_; intros
    refine GX.o (cl (rinto_spec g _) fun _ => ?_)
    refine GX.wR ?_; intros
    exact rt1 () (vI (e.trans ⟨fun h => e2.1 h.2, fun h => ⟨g1, e2.2 h⟩⟩))
  by_cases h21 : i.op = 21 ∨ i.op = 22
  · have e : Step t u i ↔ i.args ≠ [] ∧ Rise i.args ∧ ∀ n ∈ i.args, n ∈ u.owns := by unfold Step; rw [if_neg h1, if_neg h2, if_neg h3, if_neg h4, if_neg h5, if_neg h6, if_neg h7, if_neg h8, if_neg h9, if_neg h10, if_neg h11, if_neg h12, if_neg h13, if_neg h16, if_neg h17, if_neg h18, if_neg h19, if_neg h20, if_pos h21]; exact ⟨fun h => h.2, fun h => ⟨hN, h⟩⟩
    have ea : 0 < (i.args.length : Int) ↔ i.args ≠ [] := by rw [ne_eq, ← List.length_eq_zero_iff]; omega
    by_cases g1 : 0 < (i.args.length : Int)
    rotate_left
    · rcases h21 with h21 | h21
      · refine GX.wR ?_; intros
        exact rt1 () (vN fun h => g1 (ea.2 (e.1 h).1))
      · refine GX.wR ?_; intros
        exact rt1 () (vN fun h => g1 (ea.2 (e.1 h).1))
    rcases h21 with h21 | h21
    · refine GX.wR ?_; intros
      refine GX.nmS 406 ?_; rintro aA cA rfl rfl
      refine GX.o (cl (rrising_spec aA cA i.args) fun _ => ?_)
      by_cases g2 : Rise i.args
      · refine GX.wR ?_; intros
        refine GX.nmS 411 ?_; rintro aB cB rfl rfl
        refine GX.nmS 413 ?_; rintro aO cO rfl rfl
        refine GX.o (cl (all2_spec aB aO cB cO i.args u.owns) fun _ => ?_)
        refine GX.wR ?_; intros
        exact rt1 () (vI (e.trans ⟨fun h => h.2.2, fun h => ⟨ea.1 g1, g2, h⟩⟩))
      · refine GX.wR ?_; intros
        exact rt1 () (vN fun h => g2 (e.1 h).2.1)
    · refine GX.wR ?_; intros
      refine GX.nmS 406 ?_; rintro aA cA rfl rfl
      refine GX.o (cl (rrising_spec aA cA i.args) fun _ => ?_)
      by_cases g2 : Rise i.args
      · refine GX.wR ?_; intros
        refine GX.nmS 411 ?_; rintro aB cB rfl rfl
        refine GX.nmS 413 ?_; rintro aO cO rfl rfl
        refine GX.o (cl (all2_spec aB aO cB cO i.args u.owns) fun _ => ?_)
        refine GX.wR ?_; intros
        exact rt1 () (vI (e.trans ⟨fun h => h.2.2, fun h => ⟨ea.1 g1, g2, h⟩⟩))
      · refine GX.wR ?_; intros
        exact rt1 () (vN fun h => g2 (e.1 h).2.1)
  have n21 : i.op ≠ 21 := fun h => h21 (.inl h)
  have n22 : i.op ≠ 22 := fun h => h21 (.inr h)
  have e : ¬ Step t u i := by unfold Step; rw [if_neg h1, if_neg h2, if_neg h3, if_neg h4, if_neg h5, if_neg h6, if_neg h7, if_neg h8, if_neg h9, if_neg h10, if_neg h11, if_neg h12, if_neg h13, if_neg h16, if_neg h17, if_neg h18, if_neg h19, if_neg h20, if_neg h21]; exact fun h => h.2
  refine GX.wR ?_; intros
  exact rt1 () (vN e)
end Go.Proofs.YtomadjefdghliaaGreat
