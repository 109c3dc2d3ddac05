/- RtOps: for all numbers the law returns true. No condition. -/
import Derived.Test.YtfhbainbmipddaaRt8
import Derived.Test.YtfhbainbmipddaaRtOp
import Derived.Test.YtfhbainbmipddaaKnown26
import Derived.Test.YtfhbainbmipddaaApiC
namespace Go.Proofs.Ytfhbainbmipddaa
open Go Go.RR Go.RX Go.GX Go.Api Go.RiseM Go.ReachM Go.RtM Go.ChangeShapes Go.WideShapes Go.ChangeAt Go.RowKit
section
variable {P : Program} {n : Nat} {env : Env} {b : Base} {ps : List Pf} {hp : List Res} {K : Act → World → Prop}
/-- An element of a slice that stays, as a place. -/
theorem slPt {bl cap : Nat} (j off : Nat) {α : Type} {e : Ty α} {xs : List α} {x0 : α} [hf : FSl (some ⟨bl, 0, none⟩) ps e cap xs] (h : G n env b (Pt e bl off x0 :: ps) hp K) (hj : xs[j]? = some x0 := by with_reducible assumption) (ho : 0 + j * e.size = off := by (show 0 + _ * 1 = _; omega)) : G n env b ps hp K := by
  subst ho
  constructor
  rintro w ⟨F, s⟩
  obtain ⟨_, _, hs⟩ : (Sl e (some ⟨bl, 0, none⟩) cap xs).says F w := s.fs _ hf.mem
  obtain ⟨b1, o, cs, he, h3, h4, h5, h6⟩ := hs j x0 hj
  simp only [Option.some.injEq, Addr.mk.injEq, and_true] at he
  obtain ⟨rfl, rfl⟩ := he
  refine h.run w ⟨F, s.upd, s.lt, s.old, fun p hp => ?_, s.rs, s.apF, s.apart, s.on⟩
  rcases List.mem_cons.1 hp with rfl | hp
  · exact ⟨h3, h4, cs, h5, h6⟩
  · exact s.fs p hp
end
attribute [local irreducible] wpList Code.wp wpPlan Exit.then Exit.inBlock bodyPost NoPanic Went GX.Post GX.Again GX.Meet GX.RowR GX.Own GX.Owns GX.Box GX.Sl GX.Pt GX.Ag GX.MapR GX.Kept GX.Pin wpT GoK AtEnd Both

theorem goes26_spec (x y : Int) : Does Try.prog 25 [.int .i64 x, .int .i64 y] [] [] (fun _ : Unit => .bool (decide (GoesTo x y))) (fun _ => []) (fun _ => []) := by
  refine enter Try.func25 rfl Try.ntmps25 rfl fun b => ?_
  by_cases h1 : x = -2
  · refine GX.wR ?_; intros
    exact rt1 () (vI (by unfold GoesTo; rw [if_pos (.inl h1)]))
  by_cases h2 : y = -2
  · refine GX.wR ?_; intros
    exact rt1 () (vI (by unfold GoesTo; rw [if_pos (.inr h2)]))
  have e : GoesTo x y ↔ x = y ∨ y = -1 := by unfold GoesTo; rw [if_neg (by omega)]
  by_cases h3 : x = y
  · refine GX.wR ?_; intros
    exact rt1 () (vY (e.2 (.inl h3)))
  · refine GX.wR ?_; intros
    exact rt1 () (vI (e.trans ⟨fun h => h.elim (fun h => absurd h h3) id, .inr⟩))
theorem eqd {P Q : Prop} [Decidable P] [Decidable Q] (h : P ↔ Q) : decide P = decide Q := decide_eq_decide.2 h
theorem eqt {P : Prop} [Decidable P] (h : P) : true = decide P := (decide_eq_true h).symm
theorem eqf {P : Prop} [Decidable P] (h : ¬ P) : false = decide P := (decide_eq_false h).symm
structure OpS where
  b : Int
  c : Int
  n : Int
  w : Bool
set_option maxHeartbeats 4000000 in
theorem rtOps_does (op : Int) (_ : -9223372036854775808 ≤ op ∧ op ≤ 9223372036854775807) (a : Int) (_ : -9223372036854775808 ≤ a ∧ a ≤ 9223372036854775807) (b : Int) (_ : -9223372036854775808 ≤ b ∧ b ≤ 9223372036854775807) (c : Int) (_ : -9223372036854775808 ≤ c ∧ c ≤ 9223372036854775807) (n : Int) (_ : -9223372036854775808 ≤ n ∧ n ≤ 9223372036854775807) :
    Does Try.prog 7 [.int .i64 op, .int .i64 a, .int .i64 b, .int .i64 c, .int .i64 n] [] [] (fun _ : Unit => .bool true) (fun _ => []) (fun _ => []) := by
  refine enter Try.func7 rfl Try.ntmps7 rfl fun bs => ?_
  by_cases h1 : op < 1
  · refine GX.wR ?_; intros
    exact rt1 () rfl
  by_cases h2 : 12 < op
  · refine GX.wR ?_; intros
    exact rt1 () rfl
  by_cases h3 : a < 0
  · refine GX.wR ?_; intros
    exact rt1 () rfl
  by_cases h4 : 4 < a
  · refine GX.wR ?_; intros
    exact rt1 () rfl
  by_cases h5 : b < 0
  · refine GX.wR ?_; intros
    exact rt1 () rfl
  by_cases h6 : 4 < b
  · refine GX.wR ?_; intros
    exact rt1 () rfl
  by_cases h7 : c < 0
  · refine GX.wR ?_; intros
    exact rt1 () rfl
  by_cases h8 : 4 < c
  · refine GX.wR ?_; intros
    exact rt1 () rfl
  by_cases h9 : n < 0
  · refine GX.wR ?_; intros
    exact rt1 () rfl
  by_cases h10 : 30 < n
  · refine GX.wR ?_; intros
    exact rt1 () rfl
  obtain ⟨a, rfl⟩ := Int.eq_ofNat_of_zero_le (show 0 ≤ a by omega)
  obtain ⟨b, rfl⟩ := Int.eq_ofNat_of_zero_le (show 0 ≤ b by omega)
  obtain ⟨c, rfl⟩ := Int.eq_ofNat_of_zero_le (show 0 ≤ c by omega)
  obtain ⟨n, rfl⟩ := Int.eq_ofNat_of_zero_le (show 0 ≤ n by omega)
  have ha : a < 5 := by omega
  have hb : b < 5 := by omega
  have hc : c < 5 := by omega
  have hn : n < 31 := by omega
  have hxa := v5 ha
  have hxb := v5 hb
  have hxc := v5 hc
  refine GX.wRA ?_; intros
  refine GX.nmB 58 ?_; rintro b58 rfl
  refine GX.nmB 59 ?_; rintro b59 rfl
  refine GX.nmB 66 ?_; rintro b66 rfl
  refine GX.nmP 13 ?_; rintro b13 rfl
  refine GX.nmP 14 ?_; rintro b14 rfl
  refine slPt (bl := b58) a a ?_
  refine slPt (bl := b58) b b ?_
  refine slPt (bl := b58) c c ?_
  refine GX.drawn0  (fun j => !(List.contains [] j)) [(0, true), (1, true), (2, true), (3, true), (4, true), (5, true), (6, true), (7, true), (8, true), (9, true), (10, true), (11, true), (12, true), (13, true), (14, true)] rfl (by kernel_rfl) (by kernel_rfl) (by first | ((repeat (first | apply Go.GX.SelR.nil | apply Go.GX.SelR.cons | (with_reducible apply Go.GX.TakeR.head) | apply Go.GX.TakeR.tail)); done) | (repeat (first | apply Go.GX.SelR.nil | apply Go.GX.SelR.cons | apply Go.GX.TakeR.head | apply Go.GX.TakeR.tail))) ?_; intro wd F hW hR
  refine GX.wTA ?_; intros
  refine GX.wRB ?_; intros
  refine GX.cut (σ := OpS) (fun s => [(11, .slice (some ⟨b58, 0, none⟩) 5 5), (13, .pointer (some ⟨b13, 0, none⟩)), (14, .pointer (some ⟨b14, 0, none⟩)), (15, .bool s.w)]) (fun _ => [])
    (fun s => [RowR b14 46 [.int .i64 op, .int .i64 (a : Int), .int .i64 s.b, .int .i64 s.c, .int .i64 s.n, .slice none 0 0], RowR b13 26 [.slice (some ⟨b66, 0, none⟩) 3 3, .slice none 0 0, .slice none 0 0, .int .i64 0]])
    (fun s => s.w = decide (RtM.Good ⟨op, (a : Int), s.b, s.c, s.n, []⟩)) ?_ (fun s hs => ?_)
  · have ho : op = 1 ∨ op = 2 ∨ op = 3 ∨ op = 4 ∨ op = 5 ∨ op = 6 ∨ op = 7 ∨ op = 8 ∨ op = 9 ∨ op = 10 ∨ op = 11 ∨ op = 12 := by omega
    rcases ho with rfl | rfl | rfl | rfl | rfl | rfl | rfl | rfl | rfl | rfl | rfl | rfl
    · refine GX.wRA ?_; intros
      exact meet ⟨_, _, _, _⟩ ⟨rfl, rfl, rfl, rfl, trivial⟩ (eqd (ok1 a ha n hn).symm)
    · refine GX.wRA ?_; intros
      exact meet ⟨_, _, _, _⟩ ⟨rfl, rfl, rfl, rfl, trivial⟩ (eqd (ok2 a ha).symm)
    · refine GX.wRA ?_; intros
      refine GX.o (cl (goes26_spec (V5 a) (V5 b)) fun _ => ?_)
      refine GX.wRA ?_; intros
      exact meet ⟨_, _, _, _⟩ ⟨rfl, rfl, rfl, rfl, trivial⟩ (eqd (ok3 a ha b hb).symm)
    · have hG := ok4 a ha b hb c hc n hn
      by_cases g1 : a = 0
      · by_cases g2 : 14 ≤ n
        · by_cases g3 : n ≤ 24
          · by_cases g4 : n = 21
            · subst g4
              by_cases q1 : b = 0
              · by_cases q2 : c = 0
                · have hq : (decide ((b : Int) = 0) == decide ((c : Int) = 0)) = true := by simp [q1, q2]
                  refine GX.wRA ?_; intros
                  exact meet ⟨_, _, _, _⟩ ⟨rfl, rfl, rfl, rfl, trivial⟩ (by rw [decide_eq_decide.2 hG]; first | exact (decide_eq_true (by unfold W4; omega)).symm | exact (decide_eq_false (by unfold W4; omega)).symm | exact decide_eq_decide.2 (by unfold W4; omega))
                · have hq : (decide ((b : Int) = 0) == decide ((c : Int) = 0)) = false := by simp [q1, q2]
                  refine GX.wRA ?_; intros
                  exact meet ⟨_, _, _, decide ((b : Int) + (c : Int) = 0)⟩ ⟨rfl, rfl, rfl, rfl, trivial⟩ (eqd (Iff.trans (by unfold W4; omega) hG.symm))
              · by_cases q2 : c = 0
                · have hq : (decide ((b : Int) = 0) == decide ((c : Int) = 0)) = false := by simp [q1, q2]
                  refine GX.wRA ?_; intros
                  exact meet ⟨_, _, _, decide ((b : Int) + (c : Int) = 0)⟩ ⟨rfl, rfl, rfl, rfl, trivial⟩ (eqd (Iff.trans (by unfold W4; omega) hG.symm))
                · have hq : (decide ((b : Int) = 0) == decide ((c : Int) = 0)) = true := by simp [q1, q2]
                  refine GX.wRA ?_; intros
                  exact meet ⟨_, _, _, _⟩ ⟨rfl, rfl, rfl, rfl, trivial⟩ (by rw [decide_eq_decide.2 hG]; first | exact (decide_eq_true (by unfold W4; omega)).symm | exact (decide_eq_false (by unfold W4; omega)).symm | exact decide_eq_decide.2 (by unfold W4; omega))
            · by_cases g5 : n = 22
              · subst g5
                by_cases q1 : b = 0
                · by_cases q2 : c = 0
                  · have hq : (decide ((b : Int) = 0) == decide ((c : Int) = 0)) = true := by simp [q1, q2]
                    refine GX.wRA ?_; intros
                    exact meet ⟨_, _, _, _⟩ ⟨rfl, rfl, rfl, rfl, trivial⟩ (by rw [decide_eq_decide.2 hG]; first | exact (decide_eq_true (by unfold W4; omega)).symm | exact (decide_eq_false (by unfold W4; omega)).symm | exact decide_eq_decide.2 (by unfold W4; omega))
                  · have hq : (decide ((b : Int) = 0) == decide ((c : Int) = 0)) = false := by simp [q1, q2]
                    refine GX.wRA ?_; intros
                    exact meet ⟨_, _, _, decide ((b : Int) + (c : Int) = 0)⟩ ⟨rfl, rfl, rfl, rfl, trivial⟩ (eqd (Iff.trans (by unfold W4; omega) hG.symm))
                · by_cases q2 : c = 0
                  · have hq : (decide ((b : Int) = 0) == decide ((c : Int) = 0)) = false := by simp [q1, q2]
                    refine GX.wRA ?_; intros
                    exact meet ⟨_, _, _, decide ((b : Int) + (c : Int) = 0)⟩ ⟨rfl, rfl, rfl, rfl, trivial⟩ (eqd (Iff.trans (by unfold W4; omega) hG.symm))
                  · have hq : (decide ((b : Int) = 0) == decide ((c : Int) = 0)) = true := by simp [q1, q2]
                    refine GX.wRA ?_; intros
                    exact meet ⟨_, _, _, _⟩ ⟨rfl, rfl, rfl, rfl, trivial⟩ (by rw [decide_eq_decide.2 hG]; first | exact (decide_eq_true (by unfold W4; omega)).symm | exact (decide_eq_false (by unfold W4; omega)).symm | exact decide_eq_decide.2 (by unfold W4; omega))
              · refine GX.wRA ?_; intros
                exact meet ⟨_, _, _, decide ((b : Int) + (c : Int) = 0)⟩ ⟨rfl, rfl, rfl, rfl, trivial⟩ (eqd (Iff.trans (by unfold W4; omega) hG.symm))
          · refine GX.wRA ?_; intros
            exact meet ⟨_, _, _, _⟩ ⟨rfl, rfl, rfl, rfl, trivial⟩ (by rw [decide_eq_decide.2 hG]; first | exact (decide_eq_true (by unfold W4; omega)).symm | exact (decide_eq_false (by unfold W4; omega)).symm | exact decide_eq_decide.2 (by unfold W4; omega))
        · refine GX.wRA ?_; intros
          exact meet ⟨_, _, _, _⟩ ⟨rfl, rfl, rfl, rfl, trivial⟩ (by rw [decide_eq_decide.2 hG]; first | exact (decide_eq_true (by unfold W4; omega)).symm | exact (decide_eq_false (by unfold W4; omega)).symm | exact decide_eq_decide.2 (by unfold W4; omega))
      · by_cases g4 : n = 21
        · refine GX.wRA ?_; intros
          exact meet ⟨_, _, _, _⟩ ⟨rfl, rfl, rfl, rfl, trivial⟩ (by rw [decide_eq_decide.2 hG]; first | exact (decide_eq_true (by unfold W4; omega)).symm | exact (decide_eq_false (by unfold W4; omega)).symm | exact decide_eq_decide.2 (by unfold W4; omega))
        · refine GX.wRA ?_; intros
          exact meet ⟨_, _, _, _⟩ ⟨rfl, rfl, rfl, rfl, trivial⟩ (by rw [decide_eq_decide.2 hG]; first | exact (decide_eq_true (by unfold W4; omega)).symm | exact (decide_eq_false (by unfold W4; omega)).symm | exact decide_eq_decide.2 (by unfold W4; omega))
    · have hG := ok5 a ha b hb n hn
      by_cases g1 : a = 0
      · by_cases g2 : b = 0
        · by_cases g3 : n = 12
          · refine GX.wRA ?_; intros
            exact meet ⟨_, _, _, _⟩ ⟨rfl, rfl, rfl, rfl, trivial⟩ (by rw [decide_eq_decide.2 hG]; first | exact (decide_eq_true (by unfold W5; omega)).symm | exact (decide_eq_false (by unfold W5; omega)).symm | exact decide_eq_decide.2 (by unfold W5; omega))
          · refine GX.wRA ?_; intros
            exact meet ⟨_, _, _, decide ((n : Int) = 13)⟩ ⟨rfl, rfl, rfl, rfl, trivial⟩ (eqd (Iff.trans (by unfold W5; omega) hG.symm))
        · refine GX.wRA ?_; intros
          exact meet ⟨_, _, _, _⟩ ⟨rfl, rfl, rfl, rfl, trivial⟩ (by rw [decide_eq_decide.2 hG]; first | exact (decide_eq_true (by unfold W5; omega)).symm | exact (decide_eq_false (by unfold W5; omega)).symm | exact decide_eq_decide.2 (by unfold W5; omega))
      · by_cases g2 : (a : Int) + (b : Int) = 0
        · omega
        · refine GX.wRA ?_; intros
          exact meet ⟨_, _, _, _⟩ ⟨rfl, rfl, rfl, rfl, trivial⟩ (by rw [decide_eq_decide.2 hG]; first | exact (decide_eq_true (by unfold W5; omega)).symm | exact (decide_eq_false (by unfold W5; omega)).symm | exact decide_eq_decide.2 (by unfold W5; omega))
    · have hG := ok6 a ha b hb c hc
      by_cases g1 : b = 1
      · refine GX.wRA ?_; intros
        exact meet ⟨_, _, _, _⟩ ⟨rfl, rfl, rfl, rfl, trivial⟩ (by rw [decide_eq_decide.2 hG]; first | exact (decide_eq_true (by unfold W6; omega)).symm | exact (decide_eq_false (by unfold W6; omega)).symm | exact decide_eq_decide.2 (by unfold W6; omega))
      by_cases g2 : b = 2
      · by_cases g3 : c < 3
        · refine slPt (bl := b59) c c ?_ (r3 g3)
          refine GX.wRA ?_; intros
          rw [show min (c : Int) 2 = (c : Int) by omega]
          refine GX.wRA ?_; intros
          refine GX.o (cl (goes26_spec (V5 a) (R3 c)) fun _ => ?_)
          refine GX.wRA ?_; intros
          exact meet ⟨_, _, _, _⟩ ⟨rfl, rfl, rfl, rfl, trivial⟩ (eqd (Iff.trans ⟨fun h => .inr ⟨g2, g3, h⟩, fun h => h.elim (fun h => absurd h g1) fun h => h.2.2⟩ hG.symm))
        · refine GX.wRA ?_; intros
          exact meet ⟨_, _, _, _⟩ ⟨rfl, rfl, rfl, rfl, trivial⟩ (eqf fun h => (hG.1 h).elim g1 fun h => g3 h.2.1)
      · refine GX.wRA ?_; intros
        exact meet ⟨_, _, _, _⟩ ⟨rfl, rfl, rfl, rfl, trivial⟩ (eqf fun h => (hG.1 h).elim g1 fun h => g2 h.1)
    · have hG := ok7 a ha b hb c hc
      by_cases g1 : a = 1
      · refine GX.wRA ?_; intros
        exact meet ⟨_, _, _, _⟩ ⟨rfl, rfl, rfl, rfl, trivial⟩ (by rw [decide_eq_decide.2 hG]; first | exact (decide_eq_true (by unfold W7; omega)).symm | exact (decide_eq_false (by unfold W7; omega)).symm | exact decide_eq_decide.2 (by unfold W7; omega))
      by_cases g2 : a = 2
      · by_cases g3 : c < 3
        · refine slPt (bl := b59) c c ?_ (r3 g3)
          refine GX.wRA ?_; intros
          rw [show min (c : Int) 2 = (c : Int) by omega]
          refine GX.wRA ?_; intros
          refine GX.o (cl (goes26_spec (R3 c) (V5 b)) fun _ => ?_)
          refine GX.wRA ?_; intros
          exact meet ⟨_, _, _, _⟩ ⟨rfl, rfl, rfl, rfl, trivial⟩ (eqd (Iff.trans ⟨fun h => .inr ⟨g2, g3, h⟩, fun h => h.elim (fun h => absurd h g1) fun h => h.2.2⟩ hG.symm))
        · refine GX.wRA ?_; intros
          exact meet ⟨_, _, _, _⟩ ⟨rfl, rfl, rfl, rfl, trivial⟩ (eqf fun h => (hG.1 h).elim g1 fun h => g3 h.2.1)
      · refine GX.wRA ?_; intros
        exact meet ⟨_, _, _, _⟩ ⟨rfl, rfl, rfl, rfl, trivial⟩ (eqf fun h => (hG.1 h).elim g1 fun h => g2 h.1)
    · have hG := ok8 a ha b hb c hc
      by_cases g0 : c = 0
      · by_cases g1 : b = 1
        · refine GX.wRA ?_; intros
          exact meet ⟨_, _, _, _⟩ ⟨rfl, rfl, rfl, rfl, trivial⟩ (eqt (hG.2 ⟨g0, .inl g1⟩))
        by_cases g2 : b = 3
        · refine GX.wRA ?_; intros
          refine GX.o (cl (goes26_spec (V5 a) 0) fun _ => ?_)
          by_cases g3 : GoesTo (V5 a) 0
          · refine GX.wRA ?_; intros
            exact meet ⟨_, _, _, _⟩ ⟨rfl, rfl, rfl, rfl, trivial⟩ (eqt (hG.2 ⟨g0, .inr (.inl ⟨g2, g3⟩)⟩))
          · refine GX.wRA ?_; intros
            exact meet ⟨_, _, _, _⟩ ⟨rfl, rfl, rfl, rfl, trivial⟩ (eqf fun h => (hG.1 h).2.elim g1 fun h => h.elim (fun h => g3 h.2) fun h => by omega)
        · by_cases g3 : b = 4
          · refine GX.wRA ?_; intros
            exact meet ⟨_, _, _, _⟩ ⟨rfl, rfl, rfl, rfl, trivial⟩ (eqd (Iff.trans ⟨fun h => ⟨g0, .inr (.inr ⟨g3, by omega⟩)⟩, fun h => h.2.elim (fun h => absurd h g1) fun h => h.elim (fun h => absurd h.1 g2) fun h => by omega⟩ hG.symm))
          · refine GX.wRA ?_; intros
            exact meet ⟨_, _, _, _⟩ ⟨rfl, rfl, rfl, rfl, trivial⟩ (eqf fun h => (hG.1 h).2.elim g1 fun h => h.elim (fun h => g2 h.1) fun h => g3 h.1)
      · refine GX.wRA ?_; intros
        exact meet ⟨_, _, _, _⟩ ⟨rfl, rfl, rfl, rfl, trivial⟩ (eqf fun h => g0 (hG.1 h).1)
    · have hG := ok9 a ha b hb c hc
      by_cases g0 : b = 0
      · by_cases g1 : a = 1
        · refine GX.wRA ?_; intros
          exact meet ⟨_, _, _, _⟩ ⟨rfl, rfl, rfl, rfl, trivial⟩ (eqt (hG.2 ⟨g0, .inl g1⟩))
        by_cases g2 : a = 3
        · refine GX.wRA ?_; intros
          refine GX.o (cl (goes26_spec 0 (V5 c)) fun _ => ?_)
          by_cases g3 : GoesTo 0 (V5 c)
          · refine GX.wRA ?_; intros
            exact meet ⟨_, _, _, _⟩ ⟨rfl, rfl, rfl, rfl, trivial⟩ (eqt (hG.2 ⟨g0, .inr (.inl ⟨g2, g3⟩)⟩))
          · refine GX.wRA ?_; intros
            exact meet ⟨_, _, _, _⟩ ⟨rfl, rfl, rfl, rfl, trivial⟩ (eqf fun h => (hG.1 h).2.elim g1 fun h => h.elim (fun h => g3 h.2) fun h => by omega)
        · by_cases g3 : a = 4
          · refine GX.wRA ?_; intros
            exact meet ⟨_, _, _, _⟩ ⟨rfl, rfl, rfl, rfl, trivial⟩ (eqd (Iff.trans ⟨fun h => ⟨g0, .inr (.inr ⟨g3, by omega⟩)⟩, fun h => h.2.elim (fun h => absurd h g1) fun h => h.elim (fun h => absurd h.1 g2) fun h => by omega⟩ hG.symm))
          · refine GX.wRA ?_; intros
            exact meet ⟨_, _, _, _⟩ ⟨rfl, rfl, rfl, rfl, trivial⟩ (eqf fun h => (hG.1 h).2.elim g1 fun h => h.elim (fun h => g2 h.1) fun h => g3 h.1)
      · refine GX.wRA ?_; intros
        exact meet ⟨_, _, _, _⟩ ⟨rfl, rfl, rfl, rfl, trivial⟩ (eqf fun h => g0 (hG.1 h).1)
    · have hG := ok10 a ha b hb
      by_cases g1 : a = 0
      · by_cases g2 : b = 1
        · refine GX.wRA ?_; intros
          exact meet ⟨_, _, _, _⟩ ⟨rfl, rfl, rfl, rfl, trivial⟩ (eqt (hG.2 ⟨g1, .inl g2⟩))
        · refine GX.wRA ?_; intros
          exact meet ⟨_, _, _, _⟩ ⟨rfl, rfl, rfl, rfl, trivial⟩ (eqd (Iff.trans (by omega) hG.symm))
      · refine GX.wRA ?_; intros
        exact meet ⟨_, _, _, _⟩ ⟨rfl, rfl, rfl, rfl, trivial⟩ (eqf fun h => g1 (hG.1 h).1)
    · have hG := ok11 a ha n hn
      by_cases g1 : a = 2
      · refine GX.wRA ?_; intros
        exact meet ⟨_, _, _, _⟩ ⟨rfl, rfl, rfl, rfl, trivial⟩ (eqd (Iff.trans (by omega) hG.symm))
      · refine GX.wRA ?_; intros
        exact meet ⟨_, _, _, _⟩ ⟨rfl, rfl, rfl, rfl, trivial⟩ (eqf fun h => g1 (hG.1 h).1)
    · have hG := ok12 a ha b hb n hn
      by_cases g0 : b = 0
      · by_cases g1 : a = 3
        · by_cases g2 : n = 1
          · refine GX.wRA ?_; intros
            exact meet ⟨_, _, _, _⟩ ⟨rfl, rfl, rfl, rfl, trivial⟩ (by rw [decide_eq_decide.2 hG]; first | exact (decide_eq_true (by unfold W12; omega)).symm | exact (decide_eq_false (by unfold W12; omega)).symm | exact decide_eq_decide.2 (by unfold W12; omega))
          · refine GX.wRA ?_; intros
            exact meet ⟨_, _, _, _⟩ ⟨rfl, rfl, rfl, rfl, trivial⟩ (by rw [decide_eq_decide.2 hG]; first | exact (decide_eq_true (by unfold W12; omega)).symm | exact (decide_eq_false (by unfold W12; omega)).symm | exact decide_eq_decide.2 (by unfold W12; omega))
        · by_cases g2 : a = 4
          · refine GX.wRA ?_; intros
            exact meet ⟨_, _, _, decide ((n : Int) = 2)⟩ ⟨rfl, rfl, rfl, rfl, trivial⟩ (eqd (Iff.trans (by unfold W12; omega) hG.symm))
          · refine GX.wRA ?_; intros
            exact meet ⟨_, _, _, _⟩ ⟨rfl, rfl, rfl, rfl, trivial⟩ (by rw [decide_eq_decide.2 hG]; first | exact (decide_eq_true (by unfold W12; omega)).symm | exact (decide_eq_false (by unfold W12; omega)).symm | exact decide_eq_decide.2 (by unfold W12; omega))
      · refine GX.wRA ?_; intros
        exact meet ⟨_, _, _, _⟩ ⟨rfl, rfl, rfl, rfl, trivial⟩ (by rw [decide_eq_decide.2 hG]; first | exact (decide_eq_true (by unfold W12; omega)).symm | exact (decide_eq_false (by unfold W12; omega)).symm | exact decide_eq_decide.2 (by unfold W12; omega))
  obtain ⟨ib, ic, iN, iw⟩ := s
  dsimp only at *
  refine GX.wRA ?_; intros
  refine GX.nmB 318 ?_; rintro b318 rfl
  refine GX.agI (e := tyRTg) (cs := [.slice (some ⟨b66, 0, none⟩) 3 3, .slice none 0 0, .slice (some ⟨b318, 0, none⟩) 1 1, .int .i64 0]) (y := opsT ⟨op, (a : Int), ib, ic, iN, []⟩) ?_ (show Reads _ _ tyRTg (⟨[⟨false, [-2, 0, -1]⟩, ⟨true, [0]⟩, ⟨true, [-2]⟩], [], [⟨0, [-2, -1, 0, 1, 2], -3, [], [], [⟨op, (a : Int), ib, ic, iN, []⟩, ⟨18, -1, 0, 0, 0, []⟩]⟩], 0⟩ : RTg) from Go.GX.Rds.r)
  refine GX.o (cl (right_spec _ (opsT ⟨op, (a : Int), ib, ic, iN, []⟩) (opsT_small _)) fun _ => ?_)
  rw [decide_eq_decide.2 (opsT_right _), ← hs]
  refine GX.wRA ?_; intros
  refine GX.o (cl (known26_spec) fun _ => ?_)
  refine GX.wRA ?_; intros
  exact rt1 () rfl
theorem rtOps_own : ownKnob Try.prog.godebug = none := by kernel_rfl
theorem rtOps_laidOut : laidOutB Try.prog = true := by kernel_rfl
set_option maxRecDepth 100000 in
theorem rtOps_lifted (os : Os) (started : os.Started) (H : Type) (enc : TypeId × Value → H) :
    ReturnsInHanded {} Try.checked os 7 .any (Rows.rtOpsSpec.pre6 enc Try.prog Try.f7 Rows.rtOpsRow.domain false) (Rows.rtOpsSpec.post enc Try.prog Try.f7 false true false false) := by
  refine returnsInHanded_of_change (C := Try.checked) rtOps_own started (by kernel_rfl) Try.func7
    (ChangeSpec.witness6 (enc := enc) (C := Try.checked) false ⟨#[], #[.int .i64 0, .int .i64 0, .int .i64 0, .int .i64 0, .int .i64 0], []⟩ 8 (by kernel_rfl) (by kernel_rfl) (by kernel_rfl) (by kernel_rfl)) ?_
  intro W base args ds gs before hval0 hW hcnd _
  have hval : ∀ (j : Nat) t v, Try.f7.params[j]? = some t → args[j]? = some v → Value.okWide Try.prog W .any base t v := hval0
  have hW' := hW
  obtain ⟨p, q, hA0, hV, rfl, hfz, hnd⟩ := hW
  have hA : DataW.TrodAll enc Try.prog W 0 (fun _ => true) true Try.f7.params.toList args.toList ds p := hA0
  rw [Try.params7] at hA hval
  obtain ⟨v0, vs0, d0, ds0, p0, q0, hargs, rfl, rfl, h0, r0⟩ := trodAll_cons hA
  obtain ⟨v1, vs1, d1, ds1, p1, q1, rfl, rfl, rfl, h1, r1⟩ := trodAll_cons r0
  obtain ⟨v2, vs2, d2, ds2, p2, q2, rfl, rfl, rfl, h2, r2⟩ := trodAll_cons r1
  obtain ⟨v3, vs3, d3, ds3, p3, q3, rfl, rfl, rfl, h3, r3⟩ := trodAll_cons r2
  obtain ⟨v4, vs4, d4, ds4, p4, q4, rfl, rfl, rfl, h4, r4⟩ := trodAll_cons r3
  obtain ⟨rfl, rfl, rfl⟩ := trodAll_nil r4
  obtain rfl : args = #[v0, v1, v2, v3, v4] := by cases args; simp_all
  obtain ⟨rfl, rfl⟩ := trodVars_none hV
  have hlt := hW'.lt
  have hl0 : ∀ x ∈ p0, x.block < W.heap.size := fun x hx => hlt x (by simp [hx])
  obtain ⟨a0, rfl, e0, g0, w0⟩ := open_int Try.underlying3 (hval 0 3 v0 rfl rfl) h0
  have b0 : -9223372036854775808 ≤ a0 ∧ a0 ≤ 9223372036854775807 := wf_i64 w0
  have hl1 : ∀ x ∈ p1, x.block < W.heap.size := fun x hx => hlt x (by simp [hx])
  obtain ⟨a1, rfl, e1, g1, w1⟩ := open_int Try.underlying3 (hval 1 3 v1 rfl rfl) h1
  have b1 : -9223372036854775808 ≤ a1 ∧ a1 ≤ 9223372036854775807 := wf_i64 w1
  have hl2 : ∀ x ∈ p2, x.block < W.heap.size := fun x hx => hlt x (by simp [hx])
  obtain ⟨a2, rfl, e2, g2, w2⟩ := open_int Try.underlying3 (hval 2 3 v2 rfl rfl) h2
  have b2 : -9223372036854775808 ≤ a2 ∧ a2 ≤ 9223372036854775807 := wf_i64 w2
  have hl3 : ∀ x ∈ p3, x.block < W.heap.size := fun x hx => hlt x (by simp [hx])
  obtain ⟨a3, rfl, e3, g3, w3⟩ := open_int Try.underlying3 (hval 3 3 v3 rfl rfl) h3
  have b3 : -9223372036854775808 ≤ a3 ∧ a3 ≤ 9223372036854775807 := wf_i64 w3
  have hl4 : ∀ x ∈ p4, x.block < W.heap.size := fun x hx => hlt x (by simp [hx])
  obtain ⟨a4, rfl, e4, g4, w4⟩ := open_int Try.underlying3 (hval 4 3 v4 rfl rfl) h4
  have b4 : -9223372036854775808 ≤ a4 ∧ a4 ≤ 9223372036854775807 := wf_i64 w4
  refine ((rtOps_does a0 b0 a1 b1 a2 b2 a3 b3 a4 b4).calls W all_nil).mono fun e W' ⟨he, hu⟩ => ?_
  subst he
  have hb := hu.below
  exact ⟨_, rfl, _, _, _, [], _, [], hW', trodAll_cons_mk (shut_bool Try.underlying4 _) trodAll_mk0, (trodAll_cons_mk (hb.trod rtOps_laidOut (by kernel_rfl) (of_decide_eq_true (by kernel_rfl)) h0 hl0) (trodAll_cons_mk (hb.trod rtOps_laidOut (by kernel_rfl) (of_decide_eq_true (by kernel_rfl)) h1 hl1) (trodAll_cons_mk (hb.trod rtOps_laidOut (by kernel_rfl) (of_decide_eq_true (by kernel_rfl)) h2 hl2) (trodAll_cons_mk (hb.trod rtOps_laidOut (by kernel_rfl) (of_decide_eq_true (by kernel_rfl)) h3 hl3) (trodAll_cons_mk (hb.trod rtOps_laidOut (by kernel_rfl) (of_decide_eq_true (by kernel_rfl)) h4 hl4) trodAll_mk0))))), rfl, hb.frame _, fun h => by cases h⟩
theorem rtOps_holds : Rows.RtOpsSaid :=
  OpenClaim.holds_of_wide 7 Try.f7 rfl rfl rfl rfl rfl rfl rfl ⟨rfl, rfl, rfl, rfl, rfl⟩ rfl rfl rfl rfl rfl (by kernel_rfl) Try.func7 (by kernel_rfl)
    (of_decide_eq_true (by kernel_rfl)) (by unfold Func.isWrapper; first | (rw [if_pos (by decide +kernel)]; kernel_rfl) | (rw [if_neg (by decide +kernel)]; exact ⟨rfl, rfl⟩))
    (fun os started H enc _ => rtOps_lifted os started H enc)
end Go.Proofs.Ytfhbainbmipddaa
