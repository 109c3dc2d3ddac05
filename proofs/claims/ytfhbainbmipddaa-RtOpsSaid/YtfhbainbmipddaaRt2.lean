/- The walks over package rt: rising, cell, loads, lays, only, bare, two, length, fresh. -/
import Derived.Test.YtfhbainbmipddaaRt1
namespace Go.Proofs.Ytfhbainbmipddaa
open Go Go.RR Go.RX Go.GX Go.Api Go.RiseM Go.ReachM Go.RtM
attribute [local irreducible] wpList Code.wp wpPlan Exit.then Exit.inBlock bodyPost NoPanic Went GX.Post GX.Again GX.Meet GX.RowR GX.Own GX.Owns GX.Box GX.Sl GX.Pt GX.Ag GX.MapR GX.Kept GX.Pin wpT GoK AtEnd Both

/-- Rising, and each is such. -/
abbrev UpP (p : Int → Bool) (l : List Int) : Prop := Rise l ∧ ∀ n ∈ l, p n = true
theorem upP_snoc {p : Int → Bool} {l : List Int} {i : Nat} {x : Int} (hx : l[i]? = some x) : UpP p (l.take (i + 1)) ↔ UpP p (l.take i) ∧ (∀ k y, i = k + 1 → l[k]? = some y → y < x) ∧ p x = true := by
  have e : l.take (i + 1) = l.take i ++ [x] := by rw [List.take_add_one, hx]; rfl
  rw [e]
  unfold UpP Rise
  rw [List.pairwise_append]
  constructor
  · rintro ⟨⟨h1, _, h2⟩, h3⟩
    refine ⟨⟨h1, fun n hn => h3 n (by simp [hn])⟩, fun k y hk hy => h2 y ?_ x (by simp), h3 x (by simp)⟩
    exact List.mem_take_iff_getElem.2 ⟨k, by have := (List.getElem?_eq_some_iff.1 hy).1; omega, (List.getElem?_eq_some_iff.1 hy).2⟩
  · rintro ⟨⟨h1, h2⟩, h3, h4⟩
    refine ⟨⟨h1, by simp, fun a ha c hc => ?_⟩, fun n hn => ?_⟩
    · obtain rfl : c = x := by simpa using hc
      obtain ⟨j, hj, rfl⟩ := List.mem_take_iff_getElem.1 ha
      cases i with
      | zero => omega
      | succ k =>
        have hkl : k < l.length := by have := (List.getElem?_eq_some_iff.1 hx).1; omega
        have h5 := h3 k l[k] rfl (List.getElem?_eq_getElem hkl)
        by_cases e : j = k
        · subst e; exact h5
        · have h6 := List.pairwise_iff_getElem.1 h1 j k (by rw [List.length_take]; omega) (by rw [List.length_take]; omega) (by omega)
          rw [List.getElem_take, List.getElem_take] at h6
          omega
    · rw [List.mem_append, List.mem_singleton] at hn
      rcases hn with hn | hn
      · exact h2 n hn
      · subst hn; exact h4
theorem upP_take {p : Int → Bool} {l : List Int} (i : Nat) (h : UpP p l) : UpP p (l.take i) := ⟨h.1.sublist (List.take_sublist _ _), fun n hn => h.2 n (List.mem_of_mem_take hn)⟩

theorem last2 {l : List Int} {k k2 : Nat} {y z x : Int} (e : k = k2) (hy : l[k]? = some y) (hz : l[k2]? = some z) (h : y < x) : z < x := by subst e; rw [hy] at hz; cases hz; exact h
theorem rising_spec (ao : Option Addr) (cap : Nat) (l : List Int) (fid : Nat) (caps : List Value) (psC : List Pf) (hpC : List Res) (p : Int → Bool) [UFunc Try.prog fid]
    (hf : ∀ x ∈ l, Does Try.prog fid (.int .i64 x :: caps) psC hpC (fun _ : Unit => .bool (p x)) (fun _ => []) (fun _ => hpC)) :
    Does Try.prog 62 [.slice ao l.length cap, .func (.func fid) #[] caps.toArray] (Sl Ty.int ao cap l :: psC) hpC (fun _ : Unit => .bool (decide (UpP p l))) (fun _ => []) (fun _ => hpC) := by
  refine enter Try.func62 rfl Try.ntmps62 rfl fun b => ?_
  refine sln ao fun hl1 hl2 _ => ?_
  refine GX.wR ?_; intros
  refine GX.loop (σ := Nat) (fun i => [(0, .slice ao l.length cap), (1, .func (.func fid) #[] caps.toArray), (7, .slice ao l.length cap), (8, .int .i64 (l.length : Int)), (9, .int .i64 (i : Int))]) (fun _ => []) (fun _ => hpC)
    (fun i => i ≤ l.length ∧ UpP p (l.take i)) (fun i => l.length - i) 0 ⟨rfl, rfl, rfl, rfl, rfl, trivial⟩ ⟨by omega, by simp [UpP, Rise]⟩ (fun i hi => ?_) (h2 := SelR.all _)
  obtain ⟨hi, hU⟩ := hi
  by_cases hlt : i < l.length
  · obtain ⟨x, hx⟩ := get_lt hlt
    have hs := upP_snoc (p := p) hx
    have no : ¬ UpP p (l.take (i + 1)) → ¬ UpP p l := fun h h2 => h (upP_take _ h2)
    by_cases h0 : i = 0
    · subst h0
      refine GX.wR ?_; intros
      refine GX.o (clvA (fs := []) (vs := [.int .i64 x]) (cs := caps) (hf x (List.mem_of_getElem? hx)) fun _ => ?_)
      cases hp : p x with
      | true =>
        refine GX.wR ?_; intros
        exact again 1 ⟨rfl, rfl, rfl, rfl, rfl, trivial⟩ ⟨by omega, hs.2 ⟨hU, fun k y hk => by omega, hp⟩⟩ (by omega) (h2 := SelR.all _)
      | false =>
        refine GX.wR ?_; intros
        exact rt1 () (vN (no fun h => by rw [(hs.1 h).2.2] at hp; cases hp)) (h2 := SelR.all _)
    · obtain ⟨k, rfl⟩ : ∃ k, i = k + 1 := ⟨i - 1, by omega⟩
      obtain ⟨y, hy⟩ := get_lt (show k < l.length by omega)
      by_cases hxy : x ≤ y
      · refine GX.wR ?_; intros
        exact rt1 () (vN (no fun h => by have := (hs.1 h).2.1 k y rfl hy; omega)) (h2 := SelR.all _)
      · refine GX.wR ?_; intros
        refine GX.o (clvA (fs := []) (vs := [.int .i64 x]) (cs := caps) (hf x (List.mem_of_getElem? hx)) fun _ => ?_)
        cases hp : p x with
        | true =>
          refine GX.wR ?_; intros
          exact again (k + 2) ⟨rfl, rfl, rfl, rfl, rfl, trivial⟩ ⟨by omega, hs.2 ⟨hU, fun k2 z hk hz => last2 (show k = k2 by omega) hy hz (by omega), hp⟩⟩ (by omega) (h2 := SelR.all _)
        | false =>
          refine GX.wR ?_; intros
          exact rt1 () (vN (no fun h => by rw [(hs.1 h).2.2] at hp; cases hp)) (h2 := SelR.all _)
  · have hil : i = l.length := by omega
    subst hil
    rw [List.take_length] at hU
    refine GX.wR ?_; intros
    exact rt1 () (vY hU) (h2 := SelR.all _)

theorem cell_spec (cs : List Value) (v : RtView) (n : Int) (arr : Bool) (c : Int) : Does Try.prog 81 [.agg cs.toArray, .int .i64 n, .bool arr, .int .i64 c] [Ag tyRtView cs v] []
    (fun _ : Unit => .tuple #[.int .i64 (cell v.t v.u n arr c).1, .bool (cell v.t v.u n arr c).2.1, .bool (cell v.t v.u n arr c).2.2]) (fun _ => []) (fun _ => []) := by
  refine enter Try.func81 rfl Try.ntmps81 rfl fun b => ?_
  refine GX.wR ?_; intros
  refine GX.o (cl (of_spec _ v n) fun _ => ?_)
  by_cases h1 : RtM.of v.u n = -1
  · rw [cell_null h1]
    by_cases h2 : 0 ≤ c
    · have e2 : decide (0 ≤ c ∧ c < 8) = decide (c < 8) := decide_eq_decide.2 ⟨fun h => h.2, fun h => ⟨h2, h⟩⟩
      rw [e2]
      refine GX.wR ?_; intros
      exact rt3 () rfl
    · have e2 : decide (0 ≤ c ∧ c < 8) = false := decide_eq_false fun h => h2 h.1
      rw [e2]
      refine GX.wR ?_; intros
      exact rt3 () rfl
  · by_cases h2 : IsClass v.t (RtM.of v.u n)
    · obtain ⟨L, hL, k, hk, hkl, hL2⟩ := gt_in h2
      by_cases h3 : L.arr = arr
      · have hb : (L.arr != arr) = false := by rw [h3]; simp
        by_cases h4 : c < 0
        · rw [cell_out h1 hL h3 (gt_out (.inl h4)), hk]
          rw [hk] at h1 h2
          have h2' := Classical.not_not.2 h2
          refine GX.wR ?_; intros
          refine GX.o (cl (isClass_spec _ v.t k) fun _ => ?_)
          refine GX.wR ?_; intros
          exact rt3 () rfl
        · by_cases h5 : (L.refs.length : Int) ≤ c
          · rw [cell_out h1 hL h3 (gt_out (.inr h5)), hk]
            rw [hk] at h1 h2
            have h2' := Classical.not_not.2 h2
            refine GX.wR ?_; intros
            refine GX.o (cl (isClass_spec _ v.t k) fun _ => ?_)
            refine GX.wR ?_; intros
            exact rt3 () rfl
          · obtain ⟨x, hx, j, rfl, hj, hxj⟩ := gt_in (l := L.refs) (n := c) ⟨by omega, by omega⟩
            rw [cell_some h1 hL h3 hx, hk]
            rw [hk] at h1 h2
            have h2' := Classical.not_not.2 h2
            refine GX.wR ?_; intros
            refine GX.o (cl (isClass_spec _ v.t k) fun _ => ?_)
            refine GX.wR ?_; intros
            exact rt3 () rfl
      · have hb : (L.arr != arr) = true := by simpa using h3
        rw [cell_arr h1 hL h3, hk]
        rw [hk] at h1 h2
        have h2' := Classical.not_not.2 h2
        refine GX.wR ?_; intros
        refine GX.o (cl (isClass_spec _ v.t k) fun _ => ?_)
        refine GX.wR ?_; intros
        exact rt3 () rfl
    · have e2 : gt v.t.classes (RtM.of v.u n) = none := gt_out (by unfold IsClass at h2; omega)
      rw [cell_none h1 e2]
      refine GX.wR ?_; intros
      refine GX.o (cl (isClass_spec _ v.t _) fun _ => ?_)
      refine GX.wR ?_; intros
      exact rt3 () rfl
end Go.Proofs.Ytfhbainbmipddaa
