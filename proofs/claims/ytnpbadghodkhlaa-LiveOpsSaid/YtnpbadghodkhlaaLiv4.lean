/- The walk over Before of package live. -/
import Derived.Test.YtnpbadghodkhlaaLiv3
namespace Go.GX
open Go Go.RowKit Go.RR Go.RX
section
variable {P : Program} {n : Nat} {env : Env} {b : Base} {ps : List Pf} {hp : List Res} {K : Act → World → Prop}
theorem slPl {bl cap : Nat} (j off : Nat) {α : Type} {e : Ty α} {xs : List α} {x0 : α} [hf : FSl (some ⟨bl, 0, none⟩) ps e cap xs] (h : G n env b (Pt e bl off x0 :: ps) hp K) (hj : xs[j]? = some x0 := by with_reducible assumption) (ho : 0 + j * e.size = off := by (show 0 + _ * 1 = _; omega)) : G n env b ps hp K := by
  subst ho
  constructor
  rintro w ⟨F, s⟩
  obtain ⟨_, _, hs⟩ : (Sl e (some ⟨bl, 0, none⟩) cap xs).says F w := s.fs _ hf.mem
  obtain ⟨b1, o, cs, he, h3, h4, h5, h6⟩ := hs j x0 hj
  simp only [Option.some.injEq, Addr.mk.injEq, and_true] at he
  obtain ⟨rfl, rfl⟩ := he
  refine h.run w ⟨F, s.upd, s.lt, s.old, fun p hp => ?_, s.rs, s.apF, s.apart, s.on⟩
  rcases List.mem_cons.1 hp with rfl | hp
  · exact ⟨h3, h4, cs, h5, h6⟩
  · exact s.fs p hp
end
end Go.GX
namespace Go.Proofs.Ytnpbadghodkhlaa
open Go Go.RR Go.RX Go.GX Go.Api Go.FlowM Go.RiseM Go.LivM Go.SetM Go.NumM
attribute [local irreducible] wpList Code.wp wpPlan Exit.then Exit.inBlock bodyPost NoPanic Went GX.Post GX.Again GX.Meet GX.RowR GX.Own GX.Owns GX.Box GX.Sl GX.Pt GX.Ag GX.MapR GX.Kept GX.Pin wpT GoK AtEnd Both
theorem hs_set {X : List (List Int)} {m : Nat} (hm : m < X.length) (r : List Int) (i : Nat) (v : Int) : HS (X.set m r) i v ↔ if i = m then has r v else HS X i v := by
  unfold HS
  split
  · rename_i e; subst e
    rw [List.getElem?_set_self hm]
    exact ⟨fun ⟨s, h, hh⟩ => by cases h; exact hh, fun h => ⟨r, rfl, h⟩⟩
  · rename_i e
    rw [List.getElem?_set_ne (Ne.symm e)]
theorem hs_get {X : List (List Int)} {m : Nat} {s : List Int} (h : X[m]? = some s) (v : Int) : HS X m v ↔ has s v :=
  ⟨fun ⟨s2, h2, hh⟩ => by rw [h] at h2; cases h2; exact hh, fun hh => ⟨s, h, hh⟩⟩
theorem hs_none (n : Nat) (i : Nat) (v : Int) : ¬ HS (List.replicate n none63) i v := fun ⟨s, h, hh⟩ => by
  have := List.mem_of_getElem? h
  rw [List.eq_of_mem_replicate this] at hh
  exact has_none v hh
/-- What one turn of a set does. -/
theorem turn {ins : List Ins} {X : List (List Int)} (hX : X.length = ins.length) (hG : ∀ s ∈ X, GoodS s) (hI : Inv ins (HS X)) {m : Nat} (hm : m < ins.length) {s r : List Int} (hs : X[m]? = some s) (hr : GoodS r ∧ ∀ v, has r v ↔ Step ins (HS X) m v) (hne : r ≠ s) :
    (∀ s ∈ X.set m r, GoodS s) ∧ Inv ins (HS (X.set m r)) ∧ size ins.length (HS X) < size ins.length (HS (X.set m r)) := by
  have hml : m < X.length := by omega
  have h1 : ∀ v, HS (X.set m r) m v ↔ Step ins (HS X) m v := fun v => by rw [hs_set hml, if_pos rfl]; exact hr.2 v
  have h2 : ∀ i v, i ≠ m → (HS (X.set m r) i v ↔ HS X i v) := fun i v e => by rw [hs_set hml, if_neg e]
  obtain ⟨hI2, hup⟩ := inv_set hI h1 h2
  refine ⟨fun t ht => ?_, hI2, ?_⟩
  · rcases List.mem_or_eq_of_mem_set ht with ht | rfl
    · exact hG t ht
    · exact hr.1
  · have hsg := hG s (List.mem_of_getElem? hs)
    have hsub : ∀ v, has s v → has r v := fun v h => (hr.2 v).2 (hI.step m v ((hs_get hs v).2 h))
    obtain ⟨v, hv1, hv2⟩ : ∃ v, has r v ∧ ¬ has s v := Classical.byContradiction fun h => hne (goodS_ext hr.1 hsg fun v => ⟨fun h1 => Classical.byContradiction fun h2 => h ⟨v, h1, h2⟩, hsub v⟩)
    exact size_lt hup hm (hI.stepLive ((hr.2 v).1 hv1)).var (fun h => hv2 ((hs_get hs v).1 h)) ((h1 v).2 ((hr.2 v).1 hv1))
structure BeS where
  X : List (List Int)
  t : Bool
structure BiS where
  X : List (List Int)
  t : Bool
  k : Nat
def outL (X : List (List Int)) (i : Nat) : List (List Int) := (X.take i).map (fun s => lst s 4032) ++ List.replicate (X.length - i) []
theorem outL_len (X : List (List Int)) {i : Nat} (hi : i ≤ X.length) : (outL X i).length = X.length := by unfold outL; simp; omega
theorem outL_set {X : List (List Int)} {i : Nat} {s : List Int} (h : X[i]? = some s) : (outL X i).set i (lst s 4032) = outL X (i + 1) := by
  have hi := (List.getElem?_eq_some_iff.1 h).1
  unfold outL
  rw [List.take_add_one, h, List.map_append, List.set_append_right _ _ (by simp; omega), List.append_assoc]
  congr 1
  rw [show i - ((X.take i).map fun s => lst s 4032).length = 0 by simp; omega, show X.length - i = (X.length - (i + 1)) + 1 by omega, List.replicate_succ]
  rfl
set_option maxHeartbeats 4000000 in
theorem before_spec (cs : List Value) (c : Api.Code) (hA : ArgsOk c.ins) (hn : c.ins.length ≤ 100000) :
    Does Try.prog 9 [.agg cs.toArray] [Ag tyCode cs c] [] (fun s : Option Addr × Nat => .slice s.1 (befores c.ins).length s.2) (fun s => [Sl (Ty.slice Ty.int) s.1 s.2 (befores c.ins)]) (fun _ => []) := by
  refine enter Try.func9 rfl Try.ntmps9 rfl fun b => ?_
  obtain ⟨n, hn0⟩ : ∃ n, n = c.ins.length := ⟨_, rfl⟩
  refine GX.wa_RO ?_; intros
  refine GX.nmP 1 ?_; rintro b1 rfl
  refine GX.nmB 3 ?_; rintro g rfl
  rw [← hn0]
  refine GX.loop (σ := BeS) (fun q => [(1, .pointer (some ⟨b1, 0, none⟩)), (3, .slice (some ⟨g, 0, none⟩) n n), (4, .bool q.t)]) (fun _ => []) (fun q => [Own 50 tySet (some ⟨g, 0, none⟩) n q.X])
    (fun q => q.X.length = n ∧ (∀ s ∈ q.X, GoodS s) ∧ Inv c.ins (HS q.X) ∧ (q.t = false → ∀ i v, Step c.ins (HS q.X) i v → HS q.X i v)) (fun q => 2 * (n * 4000 - size n (HS q.X)) + (if q.t = true then 1 else 0)) ⟨List.replicate n none63, true⟩ ⟨rfl, rfl, rfl, trivial⟩ ⟨by simp, fun s hs => by rw [List.eq_of_mem_replicate hs]; exact good_none, inv_none (hs_none n), fun h => by simp at h⟩ (fun q hq => ?_)
  obtain ⟨X, t⟩ := q
  obtain ⟨h1, h2, h3, h4⟩ := hq
  dsimp only at *
  cases t with
  | true =>
    clear h4
    refine GX.wa_R ?_; intros
    rw [← hn0]
    refine GX.loop (σ := BiS) (fun q => [(1, .pointer (some ⟨b1, 0, none⟩)), (3, .slice (some ⟨g, 0, none⟩) n n), (4, .bool q.t), (5, .int .i64 ((q.k : Int) - 1))]) (fun _ => []) (fun q => [Own 50 tySet (some ⟨g, 0, none⟩) n q.X])
      (fun q => q.k ≤ n ∧ q.X.length = n ∧ (∀ s ∈ q.X, GoodS s) ∧ Inv c.ins (HS q.X) ∧ (q.t = true → size n (HS X) < size n (HS q.X)) ∧ (q.t = false → q.X = X ∧ ∀ i, q.k ≤ i → ∀ v, Step c.ins (HS q.X) i v → HS q.X i v)) (fun q => q.k) ⟨X, false, n⟩ ⟨rfl, rfl, rfl, rfl, trivial⟩ ⟨Nat.le_refl _, h1, h2, h3, fun h => by simp at h, fun _ => ⟨rfl, fun i hi v hs => absurd (h3.stepLive hs).lt (by dsimp only at hi; omega)⟩⟩ (fun q hq => ?_)
    obtain ⟨Y, t, k⟩ := q
    obtain ⟨g0, g1, g2, g3, g4, g5⟩ := hq
    dsimp only at *
    cases k with
    | zero =>
      refine GX.wa_R ?_; intros
      refine again ⟨Y, t⟩ ⟨rfl, rfl, rfl, trivial⟩ ⟨g1, g2, g3, fun ht i v => (g5 ht).2 i (Nat.zero_le _) v⟩ ?_
      dsimp only
      have hs1 := size_le n (HS Y)
      cases t with
      | true => have := g4 rfl; simp; omega
      | false => rw [(g5 rfl).1]; simp
    | succ m =>
      have hm : m < c.ins.length := by omega
      obtain ⟨s, hs⟩ := get_lt (show m < Y.length by omega)
      have em : ((m + 1 : Nat) : Int) - 1 = (m : Int) := by omega
      rw [em]
      refine GX.wa_R ?_; intros
      have ha := fun cs2 => aheadO_spec cs2 c hA (some ⟨g, 0, none⟩) n Y (by omega) g2 m hm
      rw [g1] at ha
      refine GX.o (cl (ha _) fun s2 => ?_)
      obtain ⟨cs2, r, hr⟩ := s2
      dsimp only
      refine GX.wa_R ?_; intros
      refine GX.nmP 6 ?_; rintro b6 rfl
      refine GX.drawn2 (Box 50 tySet b6 r) (Own 50 tySet (some ⟨g, 0, none⟩) n Y) (fun j => !(List.contains [] j)) [(0, true), (1, true), (2, true), (3, true), (4, true), (5, true)] rfl (by kernel_rfl) (by kernel_rfl) (by first | ((repeat (first | apply Go.GX.SelR.nil | apply Go.GX.SelR.cons | (with_reducible apply Go.GX.TakeR.head) | apply Go.GX.TakeR.tail)); done) | (repeat (first | apply Go.GX.SelR.nil | apply Go.GX.SelR.cons | apply Go.GX.TakeR.head | apply Go.GX.TakeR.tail))) ?_; intro wd F hW hR
      refine GX.wa_T ?_; intros
      refine GX.unpin (Own 50 tySet (some ⟨g, 0, none⟩) n _) ?_
      refine GX.unpin (Box 50 tySet b6 _) ?_
      by_cases hne : r ≠ s
      · obtain ⟨k1, k2, k3⟩ := turn (by omega) g2 g3 hm hs hr hne
        rw [← hn0] at k3
        refine GX.wa_R ?_; intros
        refine again ⟨Y.set m r, true, m⟩ ⟨rfl, rfl, rfl, rfl, trivial⟩ ⟨by dsimp only; omega, by dsimp only; rw [List.length_set]; exact g1, k1, k2, fun _ => ?_, fun h => by simp at h⟩ (by dsimp only; omega)
        dsimp only
        cases t with
        | true => have := g4 rfl; omega
        | false => rw [(g5 rfl).1] at k3; rw [(g5 rfl).1]; exact k3
      · have he : r = s := Classical.not_not.1 hne
        refine GX.wa_R ?_; intros
        refine again ⟨Y, t, m⟩ ⟨rfl, rfl, rfl, rfl, trivial⟩ ⟨by dsimp only; omega, g1, g2, g3, g4, fun ht => ⟨(g5 ht).1, fun i hi v hst => ?_⟩⟩ (by dsimp only; omega)
        by_cases e : i = m
        · subst e
          exact (hs_get hs v).2 (by rw [← he]; exact (hr.2 v).2 hst)
        · exact (g5 ht).2 i (by dsimp only at hi; omega) v hst
  | false =>
    have hfix := h4 rfl
    clear h4
    refine frz (some ⟨g, 0, none⟩ : Option Addr) ?_
    refine GX.wa_RO ?_; intros
    refine GX.nmB 7 ?_; rintro gl rfl
    rw [← hn0]
    refine GX.loop (σ := Nat) (fun i => [(3, .slice (some ⟨g, 0, none⟩) n n), (7, .slice (some ⟨gl, 0, none⟩) n n), (41, .int .i64 (n : Int)), (42, .int .i64 (i : Int))]) (fun _ => []) (fun i => [Own 33 (Ty.slice Ty.int) (some ⟨gl, 0, none⟩) n (outL X i)])
      (fun i => i ≤ n) (fun i => n - i) 0 ⟨rfl, rfl, rfl, rfl, trivial⟩ (Nat.zero_le _) (fun i hi => ?_) (h2 := by rw [show outL X 0 = List.replicate n [] by unfold outL; rw [List.take_zero, List.map_nil, List.nil_append, Nat.sub_zero, h1]]; first | ((repeat (first | apply Go.GX.SelR.nil | apply Go.GX.SelR.cons | (with_reducible apply Go.GX.TakeR.head) | apply Go.GX.TakeR.tail)); done) | (repeat (first | apply Go.GX.SelR.nil | apply Go.GX.SelR.cons | apply Go.GX.TakeR.head | apply Go.GX.TakeR.tail)))
    have hol := outL_len X (i := i) (by omega)
    by_cases hlt : i < n
    · obtain ⟨s, hs⟩ := get_lt (show i < X.length by omega)
      have hsg := h2 s (List.mem_of_getElem? hs)
      obtain ⟨y, hy⟩ := get_lt (show i < (outL X i).length by omega)
      have hset := outL_set hs
      refine GX.wa_R ?_; intros
      refine GX.slPl (bl := g) i (i * 63) ?_ (ho := by show 0 + i * 63 = i * 63; omega)
      refine GX.o (cl (list_spec _ _ s hsg) fun s2 => ?_)
      obtain ⟨aL, cL⟩ := s2
      dsimp only
      refine frz aL ?_
      refine GX.wa_R ?_; intros
      rw [hset]
      exact again (i + 1) ⟨rfl, rfl, rfl, rfl, trivial⟩ (by omega) (by omega)
    · have hin : i = X.length := by omega
      have hb : outL X i = befores c.ins := by
        rw [hin]
        unfold outL
        rw [List.take_length, Nat.sub_self, List.replicate_zero, List.append_nil]
        refine befores_of (by rw [List.length_map]; omega) fun k s hks => ?_
        rw [List.getElem?_map] at hks
        obtain ⟨z, hz, rfl⟩ := Option.map_eq_some_iff.1 hks
        refine ⟨lst_rise z 4032, fun v => ?_⟩
        rw [lst_mem, ← hs_get hz]
        exact ⟨h3.live k v, fix_live hfix⟩
      have hbl : n = (befores c.ins).length := by rw [befores_len]; exact hn0
      rw [hb]
      refine GX.wa_R ?_; intros
      refine frz (some ⟨gl, 0, none⟩ : Option Addr) ?_
      rw [← hbl]
      exact rt1 (some ⟨gl, 0, none⟩, n) rfl
end Go.Proofs.Ytnpbadghodkhlaa
