/- The walk over Before of the reference of chapter 15. -/
import Derived.Test.YtnpbadghodkhlaaRLiv1
namespace Go.LivM
open Go.RiseM Go.Api Go.FlowM
/-- What the lists say. -/
def HL (X : List (List Int)) (i : Nat) (v : Int) : Prop := ∃ s, X[i]? = some s ∧ v ∈ s
theorem hl_set {X : List (List Int)} {m : Nat} (hm : m < X.length) (r : List Int) (i : Nat) (v : Int) : HL (X.set m r) i v ↔ if i = m then v ∈ r else HL X i v := by
  unfold HL
  split
  · rename_i e; subst e
    rw [List.getElem?_set_self hm]
    exact ⟨fun ⟨s, h, hh⟩ => by cases h; exact hh, fun h => ⟨r, rfl, h⟩⟩
  · rename_i e
    rw [List.getElem?_set_ne (Ne.symm e)]
theorem hl_get {X : List (List Int)} {m : Nat} {s : List Int} (h : X[m]? = some s) (v : Int) : HL X m v ↔ v ∈ s :=
  ⟨fun ⟨s2, h2, hh⟩ => by rw [h] at h2; cases h2; exact hh, fun hh => ⟨s, h, hh⟩⟩
theorem hl_none (n : Nat) (i : Nat) (v : Int) : ¬ HL (List.replicate n []) i v := fun ⟨s, h, hh⟩ => by
  have := List.mem_of_getElem? h
  rw [List.eq_of_mem_replicate this] at hh
  simp at hh
theorem rise_sub : ∀ (m l : List Int), Rise l → Rise m → (∀ x ∈ l, x ∈ m) → l.length ≤ m.length ∧ (l.length = m.length → l = m)
  | [], l, _, _, h => by
    have : l = [] := List.eq_nil_iff_forall_not_mem.2 fun x hx => by simpa using h x hx
    subst this; exact ⟨Nat.le_refl _, fun _ => rfl⟩
  | y :: m, [], _, _, _ => ⟨Nat.zero_le _, fun h => by simp at h⟩
  | y :: m, x :: l, hl, hm, h => by
    obtain ⟨l1, l2⟩ := List.pairwise_cons.1 hl
    obtain ⟨m1, m2⟩ := List.pairwise_cons.1 hm
    by_cases e : x = y
    · subst e
      obtain ⟨h1, h2⟩ := rise_sub m l l2 m2 fun z hz => by
        rcases List.mem_cons.1 (h z (by simp [hz])) with rfl | h3
        · exact absurd (l1 _ hz) (by omega)
        · exact h3
      simp only [List.length_cons]
      exact ⟨by omega, fun h3 => by rw [h2 (by omega)]⟩
    · have hx : x ∈ m := by
        rcases List.mem_cons.1 (h x (by simp)) with h3 | h3
        · exact absurd h3 e
        · exact h3
      have hyx := m1 x hx
      obtain ⟨h1, _⟩ := rise_sub m (x :: l) hl m2 fun z hz => by
        rcases List.mem_cons.1 (h z hz) with rfl | h3
        · rcases List.mem_cons.1 hz with h4 | h4
          · exact absurd h4.symm e
          · exact absurd (l1 _ h4) (by omega)
        · exact h3
      simp only [List.length_cons] at h1 ⊢
      exact ⟨by omega, fun h3 => by omega⟩
theorem turnL {ins : List Ins} {X : List (List Int)} (hX : X.length = ins.length) (hG : ∀ s ∈ X, Rise s) (hI : Inv ins (HL X)) {m : Nat} (hm : m < ins.length) {s r : List Int} (hs : X[m]? = some s) (hr : Rise r) (hr2 : ∀ v, v ∈ r ↔ Step ins (HL X) m v) :
    (r.length = s.length → r = s) ∧ (r.length ≠ s.length → (∀ s ∈ X.set m r, Rise s) ∧ Inv ins (HL (X.set m r)) ∧ size ins.length (HL X) < size ins.length (HL (X.set m r))) := by
  have hsg := hG s (List.mem_of_getElem? hs)
  have hsub : ∀ v ∈ s, v ∈ r := fun v h => (hr2 v).2 (hI.step m v ((hl_get hs v).2 h))
  refine ⟨fun h => ((rise_sub r s hsg hr hsub).2 h.symm).symm, fun hne => ?_⟩
  have hml : m < X.length := by omega
  have h1 : ∀ v, HL (X.set m r) m v ↔ Step ins (HL X) m v := fun v => by rw [hl_set hml, if_pos rfl]; exact hr2 v
  have h2 : ∀ i v, i ≠ m → (HL (X.set m r) i v ↔ HL X i v) := fun i v e => by rw [hl_set hml, if_neg e]
  obtain ⟨hI2, hup⟩ := inv_set hI h1 h2
  refine ⟨fun t ht => ?_, hI2, ?_⟩
  · rcases List.mem_or_eq_of_mem_set ht with ht | rfl
    · exact hG t ht
    · exact hr
  · obtain ⟨v, hv1, hv2⟩ : ∃ v, v ∈ r ∧ v ∉ s := Classical.byContradiction fun h => hne (by rw [Rise.eq hr hsg fun v => ⟨fun h1 => Classical.byContradiction fun h2 => h ⟨v, h1, h2⟩, hsub v⟩])
    exact size_lt hup hm (hI.stepLive ((hr2 v).1 hv1)).var (fun h => hv2 ((hl_get hs v).1 h)) ((h1 v).2 ((hr2 v).1 hv1))
theorem len_in {N : List Int} (hr : Rise N) (h : ∀ v ∈ N, In 4000 v) : N.length ≤ 4000 := rise_len N 0 4000 hr fun v hv => by have := h v hv; omega
end Go.LivM
namespace Go.Proofs.Ytnpbadghodkhlaa
open Go Go.RR Go.RX Go.GX Go.Api Go.FlowM Go.RiseM Go.LivM
attribute [local irreducible] wpList Code.wp wpPlan Exit.then Exit.inBlock bodyPost NoPanic Went GX.Post GX.Again GX.Meet GX.RowR GX.Own GX.Owns GX.Box GX.Sl GX.Pt GX.Ag GX.MapR GX.Kept GX.Pin wpT GoK AtEnd Both
structure BrS where
  X : List (List Int)
  t : Bool
structure BqS where
  X : List (List Int)
  t : Bool
  k : Nat
structure BnS where
  k : Nat
  N : List Int
  a : Option Addr
  c : Nat
set_option maxHeartbeats 4000000 in
theorem rbefore_spec (cs : List Value) (c : Api.Code) (hn : c.ins.length ≤ 100000) :
    Does Try.prog 10 [.agg cs.toArray] [Ag tyCode cs c] [] (fun s : Option Addr × Nat => .slice s.1 (befores c.ins).length s.2) (fun s => [Sl (Ty.slice Ty.int) s.1 s.2 (befores c.ins)]) (fun _ => []) := by
  refine enter Try.func10 rfl Try.ntmps10 rfl fun b => ?_
  obtain ⟨n, hn0⟩ : ∃ n, n = c.ins.length := ⟨_, rfl⟩
  refine GX.wRO ?_; intros
  refine GX.nmP 1 ?_; rintro b1 rfl
  refine GX.nmB 3 ?_; rintro g rfl
  rw [← hn0]
  refine GX.loop (σ := BrS) (fun q => [(1, .pointer (some ⟨b1, 0, none⟩)), (3, .slice (some ⟨g, 0, none⟩) n n), (4, .bool q.t)]) (fun _ => []) (fun q => [Own 33 (Ty.slice Ty.int) (some ⟨g, 0, none⟩) n q.X])
    (fun q => q.X.length = n ∧ (∀ s ∈ q.X, Rise s) ∧ Inv c.ins (HL q.X) ∧ (q.t = false → ∀ i v, Step c.ins (HL q.X) i v → HL q.X i v)) (fun q => 2 * (n * 4000 - size n (HL q.X)) + (if q.t = true then 1 else 0)) ⟨List.replicate n [], true⟩ ⟨rfl, rfl, rfl, trivial⟩ ⟨by simp, fun s hs => by rw [List.eq_of_mem_replicate hs]; exact List.Pairwise.nil, inv_none (hl_none n), fun h => by simp at h⟩ (fun q hq => ?_)
  obtain ⟨X, t⟩ := q
  obtain ⟨h1, h2, h3, h4⟩ := hq
  dsimp only at *
  cases t with
  | true =>
    clear h4
    refine GX.wR ?_; intros
    refine GX.loop (σ := BqS) (fun q => [(1, .pointer (some ⟨b1, 0, none⟩)), (3, .slice (some ⟨g, 0, none⟩) n n), (4, .bool q.t), (5, .int .i64 ((q.k : Int) - 1))]) (fun _ => []) (fun q => [Own 33 (Ty.slice Ty.int) (some ⟨g, 0, none⟩) n q.X])
      (fun q => q.k ≤ n ∧ q.X.length = n ∧ (∀ s ∈ q.X, Rise s) ∧ Inv c.ins (HL q.X) ∧ (q.t = true → size n (HL X) < size n (HL q.X)) ∧ (q.t = false → q.X = X ∧ ∀ i, q.k ≤ i → ∀ v, Step c.ins (HL q.X) i v → HL q.X i v)) (fun q => q.k) ⟨X, false, n⟩ ⟨rfl, rfl, rfl, rfl, trivial⟩ ⟨Nat.le_refl _, h1, h2, h3, fun h => by simp at h, fun _ => ⟨rfl, fun i hi v hs => absurd (h3.stepLive hs).lt (by dsimp only at hi; omega)⟩⟩ (fun q hq => ?_)
    obtain ⟨Y, t, k⟩ := q
    obtain ⟨g0, g1, g2, g3, g4, g5⟩ := hq
    dsimp only at *
    cases k with
    | zero =>
      refine GX.wR ?_; intros
      refine again ⟨Y, t⟩ ⟨rfl, rfl, rfl, trivial⟩ ⟨g1, g2, g3, fun ht i v => (g5 ht).2 i (Nat.zero_le _) v⟩ ?_
      dsimp only
      have hs1 := size_le n (HL Y)
      cases t with
      | true => have := g4 rfl; simp; omega
      | false => rw [(g5 rfl).1]; simp
    | succ m =>
      have hm : m < c.ins.length := by omega
      obtain ⟨x, hx⟩ := get_lt hm
      obtain ⟨s0, hs0⟩ := get_lt (show m < Y.length by omega)
      have em : ((m + 1 : Nat) : Int) - 1 = (m : Int) := by omega
      have hnl := next_len c.ins (m : Int)
      rw [em]
      refine GX.wR ?_; intros
      refine GX.o (cl (ruses_spec _ x) fun s => ?_)
      obtain ⟨aU, cU⟩ := s
      dsimp only
      refine GX.wR ?_; intros
      refine GX.o (cl (rdef_spec _ x) fun _ => ?_)
      refine GX.wR ?_; intros
      refine GX.o (cl (rnext_spec _ c (m : Int)) fun s => ?_)
      obtain ⟨aN, cN⟩ := s
      dsimp only
      refine GX.wRB ?_; intros
      refine GX.cut (σ := BnS) (fun q => [(1, .pointer (some ⟨b1, 0, none⟩)), (3, .slice (some ⟨g, 0, none⟩) n n), (4, .bool t), (5, .int .i64 (m : Int)), (6, .slice q.a q.N.length q.c)]) (fun q => [Sl Ty.int q.a q.c q.N]) (fun _ => [Own 33 (Ty.slice Ty.int) (some ⟨g, 0, none⟩) n Y])
        (fun q => Rise q.N ∧ ∀ v, v ∈ q.N ↔ Step c.ins (HL Y) m v) ?_ (fun q hq => ?_)
      · refine GX.wR ?_; intros
        refine GX.loop (σ := BnS) (fun q => [(1, .pointer (some ⟨b1, 0, none⟩)), (3, .slice (some ⟨g, 0, none⟩) n n), (4, .bool t), (5, .int .i64 (m : Int)), (6, .slice q.a q.N.length q.c), (7, .int .i64 (def_ x)), (8, .slice aN (next c.ins m).length cN), (9, .int .i64 (q.k : Int))]) (fun q => [Sl Ty.int q.a q.c q.N]) (fun _ => [Own 33 (Ty.slice Ty.int) (some ⟨g, 0, none⟩) n Y])
          (fun q => q.k ≤ (next c.ins m).length ∧ Rise q.N ∧ ∀ v, v ∈ q.N ↔ v ∈ uses x ∨ def_ x ≠ v ∧ ∃ j : Nat, (j : Int) ∈ (next c.ins m).take q.k ∧ HL Y j v) (fun q => (next c.ins m).length - q.k) ⟨0, uses x, aU, cU⟩ ⟨rfl, rfl, rfl, rfl, rfl, rfl, rfl, rfl, trivial⟩ ⟨Nat.zero_le _, uses_rise x, fun v => by simp⟩ (fun q hq => ?_)
        obtain ⟨k, N, a, cc⟩ := q
        obtain ⟨j1, j2, j3⟩ := hq
        dsimp only at *
        by_cases hlt : k < (next c.ins m).length
        · obtain ⟨y, hy⟩ := get_lt hlt
          have hyi := (next_in (List.mem_of_getElem? hy)).1
          obtain ⟨z, rfl⟩ := Int.eq_ofNat_of_zero_le hyi.1
          obtain ⟨s, hs⟩ := get_lt (show z < Y.length by have := hyi.2; omega)
          have hsv : ∀ v ∈ s, In 4000 v := fun v hv => (g3.live z v ((hl_get hs v).2 hv)).var
          have hNv : ∀ v ∈ N, In 4000 v := fun v hv => by
            rcases (j3 v).1 hv with h | ⟨_, j, _, h⟩
            · exact (uses_in.1 h).2
            · exact (g3.live j v h).var
          refine GX.wR ?_; intros
          refine GX.loop (σ := BnS) (fun q => [(1, .pointer (some ⟨b1, 0, none⟩)), (3, .slice (some ⟨g, 0, none⟩) n n), (4, .bool t), (5, .int .i64 (m : Int)), (6, .slice q.a q.N.length q.c), (7, .int .i64 (def_ x)), (8, .slice aN (next c.ins m).length cN), (9, .int .i64 (k : Int)), (10, .int .i64 (q.k : Int))]) (fun q => [Sl Ty.int q.a q.c q.N]) (fun _ => [Own 33 (Ty.slice Ty.int) (some ⟨g, 0, none⟩) n Y])
            (fun q => q.k ≤ s.length ∧ Rise q.N ∧ ∀ v, v ∈ q.N ↔ v ∈ N ∨ def_ x ≠ v ∧ v ∈ s.take q.k) (fun q => s.length - q.k) ⟨0, N, a, cc⟩ ⟨rfl, rfl, rfl, rfl, rfl, rfl, rfl, rfl, rfl, trivial⟩ ⟨Nat.zero_le _, j2, fun v => by simp⟩ (fun q hq => ?_)
          obtain ⟨j, N2, a2, c2⟩ := q
          obtain ⟨p1, p2, p3⟩ := hq
          dsimp only at *
          have hN2 : N2.length ≤ 4000 := len_in p2 fun v hv => by
            rcases (p3 v).1 hv with h | ⟨_, h⟩
            · exact hNv v h
            · exact hsv v (List.mem_of_mem_take h)
          have hsl := len_in (g2 s (List.mem_of_getElem? hs)) hsv
          by_cases hj : j < s.length
          · obtain ⟨v0, hv0⟩ := get_lt hj
            have tk : ∀ v, v ∈ s.take (j + 1) ↔ v ∈ s.take j ∨ v = v0 := fun v => by rw [List.take_add_one, hv0]; simp
            by_cases hd : v0 ≠ def_ x
            · refine GX.wR ?_; intros
              refine GX.o (cl (put_spec a2 c2 N2 v0 p2 (by omega)) fun s => ?_)
              obtain ⟨a3, c3⟩ := s
              dsimp only
              refine GX.wR ?_; intros
              refine again ⟨j + 1, put N2 v0, a3, c3⟩ ⟨rfl, rfl, rfl, rfl, rfl, rfl, rfl, rfl, rfl, trivial⟩ ⟨by dsimp only; omega, p2.put v0, fun v => ?_⟩ (by dsimp only; omega)
              rw [put_mem, p3, tk]
              constructor
              · rintro (rfl | h | ⟨h, h5⟩)
                · exact .inr ⟨fun e => hd e.symm, .inr rfl⟩
                · exact .inl h
                · exact .inr ⟨h, .inl h5⟩
              · rintro (h | ⟨h, h5 | h5⟩)
                · exact .inr (.inl h)
                · exact .inr (.inr ⟨h, h5⟩)
                · exact .inl h5
            · have hd2 : v0 = def_ x := Classical.not_not.1 hd
              refine GX.wR ?_; intros
              refine again ⟨j + 1, N2, a2, c2⟩ ⟨rfl, rfl, rfl, rfl, rfl, rfl, rfl, rfl, rfl, trivial⟩ ⟨by dsimp only; omega, p2, fun v => ?_⟩ (by dsimp only; omega)
              rw [p3, tk]
              constructor
              · rintro (h | ⟨h, h5⟩)
                · exact .inl h
                · exact .inr ⟨h, .inl h5⟩
              · rintro (h | ⟨h, h5 | h5⟩)
                · exact .inl h
                · exact .inr ⟨h, h5⟩
                · exact absurd (by rw [h5, hd2]) h
          · rw [List.take_of_length_le (by omega)] at p3
            refine GX.wR ?_; intros
            refine again ⟨k + 1, N2, a2, c2⟩ ⟨rfl, rfl, rfl, rfl, rfl, rfl, rfl, rfl, trivial⟩ ⟨by dsimp only; omega, p2, fun v => ?_⟩ (by dsimp only; omega)
            rw [p3, j3, List.take_add_one, hy]
            constructor
            · rintro ((h | ⟨h, j, hj, hh⟩) | ⟨h, h5⟩)
              · exact .inl h
              · exact .inr ⟨h, j, List.mem_append_left _ hj, hh⟩
              · exact .inr ⟨h, z, by simp, s, hs, h5⟩
            · rintro (h | ⟨h, j, hj, hh⟩)
              · exact .inl (.inl h)
              · rcases List.mem_append.1 hj with hj | hj
                · exact .inl (.inr ⟨h, j, hj, hh⟩)
                · have e : (j : Int) = (z : Int) := by simpa using hj
                  obtain rfl : j = z := by omega
                  exact .inr ⟨h, (hl_get hs v).1 hh⟩
        · rw [List.take_of_length_le (by omega)] at j3
          refine GX.wR ?_; intros
          refine meet ⟨k, N, a, cc⟩ ⟨rfl, rfl, rfl, rfl, rfl, trivial⟩ ⟨j2, fun v => ?_⟩
          rw [j3]
          constructor
          · rintro (h | ⟨h, j, hj, hh⟩)
            · exact ⟨x, hx, .inl h⟩
            · exact ⟨x, hx, .inr ⟨h, j, hj, hh⟩⟩
          · rintro ⟨x2, hx2, h⟩
            rw [hx] at hx2
            cases hx2
            rcases h with h | ⟨h, j, hj, hh⟩
            · exact .inl h
            · exact .inr ⟨h, j, hj, hh⟩
      · obtain ⟨k0, N, a, cc⟩ := q
        obtain ⟨j1, j2⟩ := hq
        dsimp only at *
        obtain ⟨k1, k2⟩ := turnL (by omega) g2 g3 hm hs0 j1 j2
        by_cases hne : (N.length : Int) ≠ (s0.length : Int)
        · obtain ⟨k3, k4, k5⟩ := k2 (by omega)
          rw [← hn0] at k5
          refine GX.wR ?_; intros
          refine again ⟨Y.set m N, true, m⟩ ⟨rfl, rfl, rfl, rfl, trivial⟩ ⟨by dsimp only; omega, by dsimp only; rw [List.length_set]; exact g1, k3, k4, fun _ => ?_, fun h => by simp at h⟩ (by dsimp only; omega)
          dsimp only
          cases t with
          | true => have := g4 rfl; omega
          | false => rw [(g5 rfl).1] at k5; rw [(g5 rfl).1]; exact k5
        · have he : N = s0 := k1 (by omega)
          refine GX.wR ?_; intros
          refine again ⟨Y, t, m⟩ ⟨rfl, rfl, rfl, rfl, trivial⟩ ⟨by dsimp only; omega, g1, g2, g3, g4, fun ht => ⟨(g5 ht).1, fun i hi v hst => ?_⟩⟩ (by dsimp only; omega)
          by_cases e : i = m
          · subst e
            exact (hl_get hs0 v).2 (by rw [← he]; exact (j2 v).2 hst)
          · exact (g5 ht).2 i (by dsimp only at hi; omega) v hst
  | false =>
    have hfix := h4 rfl
    clear h4
    have hb : X = befores c.ins := befores_of (by omega) fun k s hks => ⟨h2 s (List.mem_of_getElem? hks), fun v => by
      rw [← hl_get hks]
      exact ⟨h3.live k v, fix_live hfix⟩⟩
    have hbl : n = (befores c.ins).length := by rw [befores_len]; exact hn0
    rw [hb]
    refine GX.wR ?_; intros
    refine frz (some ⟨g, 0, none⟩ : Option Addr) ?_
    rw [← hbl]
    exact rt1 (some ⟨g, 0, none⟩, n) rfl
end Go.Proofs.Ytnpbadghodkhlaa
