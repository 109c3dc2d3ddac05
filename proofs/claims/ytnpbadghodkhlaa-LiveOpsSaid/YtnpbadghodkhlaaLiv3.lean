/- The walk over ahead of package live. -/
import Derived.Test.YtnpbadghodkhlaaLiv1
import Derived.Test.YtnpbadghodkhlaaLiv2
import Derived.Test.YtnpbadghodkhlaaLend
namespace Go.GX
open Go Go.RowKit Go.RR Go.RX
/-- As lend, where the result is told by facts that ask nothing of memory. -/
theorem Does.lendP {P : Program} {f : FuncId} {args : List Value} {ps1 : List Pf} {t : TypeId} {α : Type} {e : Ty α} {ao : Option Addr} {cap : Nat} {xs : List α} {σ : Type} {val : σ → Value} {ps' : σ → List Pf} (hc : Does P f args (Sl e ao cap xs :: ps1) [] val ps' (fun _ => []))
    (hpure : ∀ s, ∀ p ∈ ps' s, ∀ (F : Nat → Prop) (w : World) (F' : Nat → Prop) (w' : World), p.says F w → p.says F' w') :
    Does P f args ps1 [Own t e ao cap xs] val ps' (fun _ => [Own t e ao cap xs]) := by
  constructor
  intro w F b s
  have hown : (Own t e ao cap xs).says F w := s.rs _ (by simp)
  have hlt : ∀ k, (F k ∨ (Own t e ao cap xs).on k) → k < w.heap.size := by
    rintro k (hk | hk)
    · exact s.lt k hk
    · exact (Own t e ao cap xs).inn hown hk
  have s' : St ⟨w, fun _ => False, fun k => F k ∨ (Own t e ao cap xs).on k⟩ (fun k => F k ∨ (Own t e ao cap xs).on k) (Sl e ao cap xs :: ps1) [] w := by
    refine ⟨Upd.refl _ _, hlt, fun k hk _ => .inl hk, ?_, no_r, by simp, by simp, by simp⟩
    intro p hp
    rcases List.mem_cons.1 hp with rfl | hp
    · exact frzAt hown
    · exact p.move (s.fs p hp) (fun _ _ h => .inl h) (Agree.refl _ _)
  refine (hc.run w _ _ s').mono ?_
  rintro e' w' ⟨i, rfl, F2, s2⟩
  refine ⟨i, rfl, ?_⟩
  have hu : Upd (feet []) w w' := s2.upd
  have hno : ∀ k, ¬ feet [] k := fun k => feet_nil
  obtain ⟨F3, s3⟩ := mkOk1 s (hu.mono fun k _ hk => absurd hk (hno k)) ((Own t e ao cap xs).move hown (fun _ _ h => h) (Agree.of_upd hu fun k _ _ => hno k) (Agree.of_upd hu fun k _ _ => hno k)) (fun k hk _ => hk)
  exact ⟨F3, s3.upd, s3.lt, s3.old, fun p hp => hpure i p hp _ _ _ _ (s2.fs p hp), s3.rs, s3.apF, s3.apart, s3.on⟩
theorem ag_arr {m : Nat} {k : IntKind} {cs : List Value} {y : List Int} {F F' : Nat → Prop} {w w' : World} (h : (Ag (Ty.arr m k) cs y).says F w) : (Ag (Ty.arr m k) cs y).says F' w' := h
end Go.GX
namespace Go.Proofs.Ytnpbadghodkhlaa
open Go Go.RR Go.RX Go.GX Go.Api Go.FlowM Go.RiseM Go.LivM Go.SetM Go.NumM
attribute [local irreducible] wpList Code.wp wpPlan Exit.then Exit.inBlock bodyPost NoPanic Went GX.Post GX.Again GX.Meet GX.RowR GX.Own GX.Owns GX.Box GX.Sl GX.Pt GX.Ag GX.MapR GX.Kept GX.Pin wpT GoK AtEnd Both
abbrev ArgsOk (ins : List Ins) : Prop := ∀ x ∈ ins, x.args.length ≤ 17592186043904
/-- What the sets say. -/
def HS (X : List (List Int)) (i : Nat) (v : Int) : Prop := ∃ s, X[i]? = some s ∧ has s v
structure AhdS (ins : List Ins) (X : List (List Int)) (i : Nat) where
  cs : List Value
  r : List Int
  h : GoodS r ∧ ∀ v, has r v ↔ Step ins (HS X) i v
set_option maxHeartbeats 1000000 in
theorem ahead_spec (cs : List Value) (c : Api.Code) (hA : ArgsOk c.ins) (aS : Option Addr) (capS : Nat) (X : List (List Int)) (hX : X.length = c.ins.length) (hG : ∀ s ∈ X, GoodS s) (i : Nat) (hi : i < c.ins.length) :
    Does Try.prog 20 [.agg cs.toArray, .slice aS X.length capS, .int .i64 (i : Int)] [Sl tySet aS capS X, Ag tyCode cs c] [] (fun s : AhdS c.ins X i => .agg s.cs.toArray) (fun s => [Ag tySet s.cs s.r]) (fun _ => []) := by
  refine enter Try.func20 rfl Try.ntmps20 rfl fun b => ?_
  obtain ⟨x, hx⟩ := get_lt hi
  have hxa := hA x (List.mem_of_getElem? hx)
  have hnl := next_len c.ins (i : Int)
  have hul := uses_len x
  refine GX.wa_R ?_; intros
  refine GX.nmP 3 ?_; rintro b3 rfl
  refine GX.nmP 6 ?_; rintro b6 rfl
  refine GX.nmP 7 ?_; rintro b7 rfl
  refine GX.o (cl (next_spec _ c (i : Int)) fun s => ?_)
  obtain ⟨aN, cN⟩ := s
  dsimp only
  refine GX.wa_R ?_; intros
  refine GX.loop (σ := Nat × List Int) (fun q => [(1, .slice aS X.length capS), (2, .int .i64 (i : Int)), (3, .pointer (some ⟨b3, 0, none⟩)), (6, .pointer (some ⟨b6, 0, none⟩)), (7, .pointer (some ⟨b7, 0, none⟩)), (15, .slice aN (next c.ins i).length cN), (16, .int .i64 ((next c.ins i).length : Int)), (17, .int .i64 (q.1 : Int))]) (fun _ => []) (fun q => [Box 50 tySet b6 none63, Box 50 tySet b7 q.2])
    (fun q => q.1 ≤ (next c.ins i).length ∧ GoodS q.2 ∧ ∀ v, has q.2 v ↔ ∃ j : Nat, (j : Int) ∈ (next c.ins i).take q.1 ∧ HS X j v) (fun q => (next c.ins i).length - q.1) (0, none63) ⟨rfl, rfl, rfl, rfl, rfl, rfl, rfl, rfl, trivial⟩ ⟨Nat.zero_le _, good_none, fun v => ⟨fun h => absurd h (has_none v), fun ⟨j, h, _⟩ => by simp at h⟩⟩ (fun q hq => ?_)
  obtain ⟨k, r⟩ := q
  obtain ⟨h1, h2, h3⟩ := hq
  dsimp only at *
  by_cases hlt : k < (next c.ins i).length
  · obtain ⟨y, hy⟩ := get_lt hlt
    have hyi := (next_in (List.mem_of_getElem? hy)).1
    obtain ⟨m, rfl⟩ := Int.eq_ofNat_of_zero_le hyi.1
    obtain ⟨s, hs⟩ := get_lt (show m < X.length by have := hyi.2; omega)
    have hsg := hG s (List.mem_of_getElem? hs)
    have ho := orS_spec h2 hsg
    refine GX.wa_R ?_; intros
    refine GX.o (cl (join_spec b7 _ _ r s h2 hsg) fun _ => ?_)
    refine GX.wa_R ?_; intros
    refine again (k + 1, orS r s) ⟨rfl, rfl, rfl, rfl, rfl, rfl, rfl, rfl, trivial⟩ ⟨by dsimp only; omega, ho.1, fun v => ?_⟩ (by dsimp only; omega)
    rw [ho.2, h3, List.take_add_one, hy]
    constructor
    · rintro (⟨j, hj, hh⟩ | hh)
      · exact ⟨j, List.mem_append_left _ hj, hh⟩
      · exact ⟨m, by simp, s, hs, hh⟩
    · rintro ⟨j, hj, hh⟩
      rcases List.mem_append.1 hj with hj | hj
      · exact .inl ⟨j, hj, hh⟩
      · have e : (j : Int) = (m : Int) := by simpa using hj
        obtain rfl : j = m := by omega
        obtain ⟨s2, hs2, hh⟩ := hh
        rw [hs] at hs2
        cases hs2
        exact .inr hh
  rw [List.take_of_length_le (by omega)] at h3
  refine GX.wa_R ?_; intros
  refine GX.o (cl (def_spec _ x) fun _ => ?_)
  refine GX.wa_R ?_; intros
  refine GX.cut (σ := List Int) (fun _ => [(2, .int .i64 (i : Int)), (3, .pointer (some ⟨b3, 0, none⟩)), (6, .pointer (some ⟨b6, 0, none⟩)), (7, .pointer (some ⟨b7, 0, none⟩))]) (fun _ => []) (fun r2 => [Box 50 tySet b6 none63, Box 50 tySet b7 r2])
    (fun r2 => GoodS r2 ∧ ∀ v, has r2 v ↔ def_ x ≠ v ∧ has r v) ?_ (fun r2 hr2 => ?_)
  · have hdr : def_ x = -1 ∨ In 4000 (def_ x) := by
      unfold def_
      split
      · rename_i h; exact .inr h.2
      · exact .inl rfl
    rcases hdr with hd | hd
    · rw [hd]
      refine GX.wa_R ?_; intros
      exact meet r ⟨rfl, rfl, rfl, rfl, trivial⟩ ⟨h2, fun v => ⟨fun h => ⟨fun e => by have := h.1; omega, h⟩, fun h => h.2⟩⟩
    · obtain ⟨hd1, hd2⟩ := hd
      obtain ⟨d, hde⟩ := Int.eq_ofNat_of_zero_le hd1
      rw [hde] at hd2 ⊢
      have hds := dropS_spec h2 (show d < 4032 by omega)
      refine GX.wa_R ?_; intros
      refine GX.o (cl (drop_spec b7 d r h2 (by omega)) fun _ => ?_)
      refine GX.wa_R ?_; intros
      exact meet (dropS r d) ⟨rfl, rfl, rfl, rfl, trivial⟩ ⟨hds.1, fun v => by rw [hds.2]; exact ⟨fun h => ⟨fun e => h.1 e.symm, h.2⟩, fun h => ⟨fun e => h.1 e.symm, h.2⟩⟩⟩
  obtain ⟨g1, g2⟩ := hr2
  refine GX.wa_R ?_; intros
  refine GX.o (cl (uses_spec _ x hxa) fun s => ?_)
  obtain ⟨aU, cU⟩ := s
  dsimp only
  refine GX.wa_R ?_; intros
  refine GX.loop (σ := Nat × List Int) (fun q => [(6, .pointer (some ⟨b6, 0, none⟩)), (7, .pointer (some ⟨b7, 0, none⟩)), (41, .slice aU (uses x).length cU), (42, .int .i64 ((uses x).length : Int)), (43, .int .i64 (q.1 : Int))]) (fun _ => []) (fun q => [Box 50 tySet b6 none63, Box 50 tySet b7 q.2])
    (fun q => q.1 ≤ (uses x).length ∧ GoodS q.2 ∧ ∀ v, has q.2 v ↔ v ∈ (uses x).take q.1 ∨ has r2 v) (fun q => (uses x).length - q.1) (0, r2) ⟨rfl, rfl, rfl, rfl, rfl, trivial⟩ ⟨Nat.zero_le _, g1, fun v => by simp⟩ (fun q hq => ?_)
  obtain ⟨k2, r3⟩ := q
  obtain ⟨j1, j2, j3⟩ := hq
  dsimp only at *
  by_cases hlt2 : k2 < (uses x).length
  · obtain ⟨y, hy⟩ := get_lt hlt2
    have hyi := (uses_in.1 (List.mem_of_getElem? hy)).2
    obtain ⟨m, rfl⟩ := Int.eq_ofNat_of_zero_le hyi.1
    have hm : m < 4000 := by have := hyi.2; omega
    have ha := addS_spec j2 (show m < 4032 by omega)
    refine GX.wa_R ?_; intros
    refine GX.o (cl (add_spec b7 m r3 j2 hm) fun _ => ?_)
    refine GX.wa_R ?_; intros
    refine again (k2 + 1, addS r3 m) ⟨rfl, rfl, rfl, rfl, rfl, trivial⟩ ⟨by dsimp only; omega, ha.1, fun v => ?_⟩ (by dsimp only; omega)
    rw [ha.2, j3, List.take_add_one, hy]
    simp only [Option.toList_some, List.mem_append, List.mem_singleton]
    constructor
    · rintro (h | h | h)
      · exact .inl (.inr h)
      · exact .inl (.inl h)
      · exact .inr h
    · rintro ((h | h) | h)
      · exact .inr (.inl h)
      · exact .inl h
      · exact .inr (.inr h)
  rw [List.take_of_length_le (by omega)] at j3
  refine GX.wa_R ?_; intros
  refine rt1B (fun cs => (⟨cs, r3, j2, fun v => ?_⟩ : AhdS c.ins X i)) (fun _ => rfl)
  rw [j3, g2, h3]
  constructor
  · rintro (h | ⟨h, j, hj, hh⟩)
    · exact ⟨x, hx, .inl h⟩
    · exact ⟨x, hx, .inr ⟨h, j, hj, hh⟩⟩
  · rintro ⟨x2, hx2, h⟩
    rw [hx] at hx2
    cases hx2
    rcases h with h | ⟨h, j, hj, hh⟩
    · exact .inl h
    · exact .inr ⟨h, j, hj, hh⟩
theorem aheadO_spec (cs : List Value) (c : Api.Code) (hA : ArgsOk c.ins) (aS : Option Addr) (capS : Nat) (X : List (List Int)) (hX : X.length = c.ins.length) (hG : ∀ s ∈ X, GoodS s) (i : Nat) (hi : i < c.ins.length) :
    Does Try.prog 20 [.agg cs.toArray, .slice aS X.length capS, .int .i64 (i : Int)] [Ag tyCode cs c] [Own 50 tySet aS capS X] (fun s : AhdS c.ins X i => .agg s.cs.toArray) (fun s => [Ag tySet s.cs s.r]) (fun _ => [Own 50 tySet aS capS X]) :=
  (ahead_spec cs c hA aS capS X hX hG i hi).lendP fun s p hp F w F' w' h => by
    obtain rfl : p = Ag tySet s.cs s.r := by simpa using hp
    exact ag_arr h
end Go.Proofs.Ytnpbadghodkhlaa
