/- The walks over the methods of live.set. -/
import Derived.Test.YtnpbadghodkhlaaGWalkA
import Derived.Test.YtnpbadghodkhlaaApiT
import Derived.Test.YtnpbadghodkhlaaLivMath
import Derived.Test.YtnpbadghodkhlaaSetM
namespace Go.Proofs.Ytnpbadghodkhlaa
open Go Go.RR Go.RX Go.GX Go.Api Go.FlowM Go.RiseM Go.LivM Go.SetM Go.NumM
attribute [local irreducible] wpList Code.wp wpPlan Exit.then Exit.inBlock bodyPost NoPanic Went GX.Post GX.Again GX.Meet GX.RowR GX.Own GX.Owns GX.Box GX.Sl GX.Pt GX.Ag GX.MapR GX.Kept GX.Pin wpT GoK AtEnd Both
abbrev tySet : Ty (List Int) := Ty.arr 63 .u64
instance : UArr Try.prog 50 63 48 := ⟨Try.underlying50⟩
instance : UInf Try.prog 48 := ⟨by kernel_rfl, by kernel_rfl⟩
instance : UPlain Try.prog 50 := ⟨by kernel_rfl⟩
instance : UTy Try.prog 50 tySet none63 (.agg #[.int .u64 0, .int .u64 0, .int .u64 0, .int .u64 0, .int .u64 0, .int .u64 0, .int .u64 0, .int .u64 0, .int .u64 0, .int .u64 0, .int .u64 0, .int .u64 0, .int .u64 0, .int .u64 0, .int .u64 0, .int .u64 0, .int .u64 0, .int .u64 0, .int .u64 0, .int .u64 0, .int .u64 0, .int .u64 0, .int .u64 0, .int .u64 0, .int .u64 0, .int .u64 0, .int .u64 0, .int .u64 0, .int .u64 0, .int .u64 0, .int .u64 0, .int .u64 0, .int .u64 0, .int .u64 0, .int .u64 0, .int .u64 0, .int .u64 0, .int .u64 0, .int .u64 0, .int .u64 0, .int .u64 0, .int .u64 0, .int .u64 0, .int .u64 0, .int .u64 0, .int .u64 0, .int .u64 0, .int .u64 0, .int .u64 0, .int .u64 0, .int .u64 0, .int .u64 0, .int .u64 0, .int .u64 0, .int .u64 0, .int .u64 0, .int .u64 0, .int .u64 0, .int .u64 0, .int .u64 0, .int .u64 0, .int .u64 0, .int .u64 0]) := ⟨Try.zeroValue50, fun _ _ => ⟨rfl, rfl⟩⟩
theorem join_spec (p g o : Nat) (x y : List Int) (hx : GoodS x) (hy : GoodS y) : Does Try.prog 31 [.pointer (some ⟨p, 0, none⟩), .pointer (some ⟨g, o, none⟩)] [Pt tySet g o y] [Box 50 tySet p x] (fun _ : Unit => .tuple #[]) (fun _ => []) (fun _ => [Box 50 tySet p (orS x y)]) := by
  refine enter Try.func31 rfl Try.ntmps31 rfl fun b => ?_
  refine GX.wa_R ?_; intros
  refine GX.loop (σ := Nat) (fun i => [(0, .pointer (some ⟨p, 0, none⟩)), (6, .pointer (some ⟨g, o, none⟩)), (7, .int .i64 (i : Int))]) (fun _ => []) (fun i => [Box 50 tySet p (mix x y i)])
    (fun i => i ≤ 63) (fun i => 63 - i) 0 ⟨rfl, rfl, rfl, trivial⟩ (by omega) (fun i hi => ?_) (h2 := by rw [mix_zero hx]; first | ((repeat (first | apply Go.GX.SelR.nil | apply Go.GX.SelR.cons | (with_reducible apply Go.GX.TakeR.head) | apply Go.GX.TakeR.tail)); done) | (repeat (first | apply Go.GX.SelR.nil | apply Go.GX.SelR.cons | apply Go.GX.TakeR.head | apply Go.GX.TakeR.tail)))
  by_cases hlt : i < 63
  · have h1 := (hy.get hlt).1
    have h2 := mix_get x y (i := i) hlt
    rw [if_neg (Nat.lt_irrefl i)] at h2
    have h3 := mix_succ hx hy hlt
    refine GX.wa_R ?_; intros
    refine GX.drawn0  (fun j => !(List.contains [] j)) [(0, true), (1, true), (2, true), (3, true), (4, true), (5, true)] rfl (by kernel_rfl) (by kernel_rfl) (by first | ((repeat (first | apply Go.GX.SelR.nil | apply Go.GX.SelR.cons | (with_reducible apply Go.GX.TakeR.head) | apply Go.GX.TakeR.tail)); done) | (repeat (first | apply Go.GX.SelR.nil | apply Go.GX.SelR.cons | apply Go.GX.TakeR.head | apply Go.GX.TakeR.tail))) ?_; intro wd F hW hR
    refine GX.wa_T ?_; intros
    refine GX.wa_R ?_; intros
    refine GX.drawn1 (Box 50 tySet p (mix x y i)) (fun j => !(List.contains [9] j)) [(0, true), (1, true), (2, true), (3, true), (4, true), (5, true), (6, true), (7, true), (8, true), (9, false)] rfl (by kernel_rfl) (by kernel_rfl) (by first | ((repeat (first | apply Go.GX.SelR.nil | apply Go.GX.SelR.cons | (with_reducible apply Go.GX.TakeR.head) | apply Go.GX.TakeR.tail)); done) | (repeat (first | apply Go.GX.SelR.nil | apply Go.GX.SelR.cons | apply Go.GX.TakeR.head | apply Go.GX.TakeR.tail))) ?_; intro wd F hW hR
    refine GX.wa_T ?_; intros
    refine GX.unpin (Box 50 tySet p _) ?_
    refine GX.gow ?_
    refine GX.stB (hsub := arr_sub (k := .u64) hlt) ?_
    rw [h3]
    refine GX.wa_T ?_; intros
    refine GX.wa_R ?_; intros
    exact again (i + 1) ⟨rfl, rfl, rfl, trivial⟩ (by omega) (by omega)
  · have hi2 : i = 63 := by omega
    subst hi2
    refine GX.wa_R ?_; intros
    exact en0 ()
theorem add_spec (p k : Nat) (x : List Int) (hx : GoodS x) (hk : k < 4000) : Does Try.prog 33 [.pointer (some ⟨p, 0, none⟩), .int .i64 (k : Int)] [] [Box 50 tySet p x] (fun _ : Unit => .tuple #[]) (fun _ => []) (fun _ => [Box 50 tySet p (addS x k)]) := by
  refine enter Try.func33 rfl Try.ntmps33 rfl fun b => ?_
  have hj : k / 64 < 63 := by omega
  have h1 := (hx.get hj).1
  refine GX.drawn1 (Box 50 tySet p x) (fun j => !(List.contains [12] j)) [(0, true), (1, true), (2, true), (3, true), (4, true), (5, true), (6, true), (7, true), (8, true), (9, true), (10, true), (11, true), (12, false)] rfl (by kernel_rfl) (by kernel_rfl) (by first | ((repeat (first | apply Go.GX.SelR.nil | apply Go.GX.SelR.cons | (with_reducible apply Go.GX.TakeR.head) | apply Go.GX.TakeR.tail)); done) | (repeat (first | apply Go.GX.SelR.nil | apply Go.GX.SelR.cons | apply Go.GX.TakeR.head | apply Go.GX.TakeR.tail))) ?_; intro wd F hW hR
  refine GX.wa_T ?_; intros
  refine GX.unpin (Box 50 tySet p _) ?_
  refine GX.gow ?_
  refine GX.stB (hsub := arr_sub (k := .u64) hj) ?_
  refine GX.wa_T ?_; intros
  refine GX.wa_R ?_; intros
  exact en0 ()
theorem drop_spec (p k : Nat) (x : List Int) (hx : GoodS x) (hk : k < 4000) : Does Try.prog 32 [.pointer (some ⟨p, 0, none⟩), .int .i64 (k : Int)] [] [Box 50 tySet p x] (fun _ : Unit => .tuple #[]) (fun _ => []) (fun _ => [Box 50 tySet p (dropS x k)]) := by
  refine enter Try.func32 rfl Try.ntmps32 rfl fun b => ?_
  have hj : k / 64 < 63 := by omega
  have h1 := (hx.get hj).1
  refine GX.drawn1 (Box 50 tySet p x) (fun j => !(List.contains [12] j)) [(0, true), (1, true), (2, true), (3, true), (4, true), (5, true), (6, true), (7, true), (8, true), (9, true), (10, true), (11, true), (12, false)] rfl (by kernel_rfl) (by kernel_rfl) (by first | ((repeat (first | apply Go.GX.SelR.nil | apply Go.GX.SelR.cons | (with_reducible apply Go.GX.TakeR.head) | apply Go.GX.TakeR.tail)); done) | (repeat (first | apply Go.GX.SelR.nil | apply Go.GX.SelR.cons | apply Go.GX.TakeR.head | apply Go.GX.TakeR.tail))) ?_; intro wd F hW hR
  refine GX.wa_T ?_; intros
  refine GX.unpin (Box 50 tySet p _) ?_
  refine GX.gow ?_
  refine GX.stB (hsub := arr_sub (k := .u64) hj) ?_
  refine GX.wa_T ?_; intros
  refine GX.wa_R ?_; intros
  exact en0 ()
theorem list_spec (g o : Nat) (x : List Int) (hx : GoodS x) : Does Try.prog 21 [.pointer (some ⟨g, o, none⟩)] [Pt tySet g o x] [] (fun s : Option Addr × Nat => .slice s.1 (lst x 4032).length s.2) (fun _ => []) (fun s => [Own 3 Ty.int s.1 s.2 (lst x 4032)]) := by
  refine enter Try.func21 rfl Try.ntmps21 rfl fun b => ?_
  refine GX.wa_R ?_; intros
  refine ownNil 3 Ty.int ?_
  refine GX.loop (σ := Nat × (Option Addr × Nat)) (fun q => [(3, .slice q.2.1 (lst x (64 * q.1)).length q.2.2), (7, .pointer (some ⟨g, o, none⟩)), (8, .int .i64 (q.1 : Int))]) (fun _ => []) (fun q => [Own 3 Ty.int q.2.1 q.2.2 (lst x (64 * q.1))])
    (fun q => q.1 ≤ 63) (fun q => 63 - q.1) (0, (none, 0)) ⟨rfl, rfl, rfl, trivial⟩ (Nat.zero_le _) (fun q hq => ?_)
  obtain ⟨i, a, c⟩ := q
  dsimp only at *
  by_cases hlt : i < 63
  · have h1 := (hx.get hlt).1
    have hw := (hx.get hlt).2
    refine GX.wa_R ?_; intros
    refine GX.drawn0  (fun j => !(List.contains [] j)) [(0, true), (1, true), (2, true), (3, true), (4, true), (5, true)] rfl (by kernel_rfl) (by kernel_rfl) (by first | ((repeat (first | apply Go.GX.SelR.nil | apply Go.GX.SelR.cons | (with_reducible apply Go.GX.TakeR.head) | apply Go.GX.TakeR.tail)); done) | (repeat (first | apply Go.GX.SelR.nil | apply Go.GX.SelR.cons | apply Go.GX.TakeR.head | apply Go.GX.TakeR.tail))) ?_; intro wd F hW hR
    refine GX.wa_T ?_; intros
    refine GX.wa_R ?_; intros
    refine GX.loop (σ := Nat × (Option Addr × Nat)) (fun q => [(3, .slice q.2.1 (lst x (64 * i + q.1)).length q.2.2), (5, .int .u64 ((SetM.wd x i / 2 ^ q.1 : Nat) : Int)), (6, .int .i64 ((64 * i + q.1 : Nat) : Int)), (7, .pointer (some ⟨g, o, none⟩)), (8, .int .i64 (i : Int))]) (fun _ => []) (fun q => [Own 3 Ty.int q.2.1 q.2.2 (lst x (64 * i + q.1))])
      (fun q => q.1 ≤ 64) (fun q => 64 - q.1) (0, (a, c)) ⟨rfl, by dsimp only; rw [Nat.pow_zero, Nat.div_one]; rfl, rfl, rfl, rfl, trivial⟩ (Nat.zero_le _) (fun q hq => ?_)
    obtain ⟨m, a2, c2⟩ := q
    dsimp only at *
    by_cases hz : SetM.wd x i / 2 ^ m = 0
    · have hr := lst_rest hz (64 - m) (by omega)
      rw [show 64 * i + m + (64 - m) = 64 * (i + 1) by omega] at hr
      have hz2 : ¬ ((SetM.wd x i / 2 ^ m : Nat) : Int) ≠ 0 := by omega
      refine GX.wa_R ?_; intros
      exact again (i + 1, (a2, c2)) ⟨by dsimp only; rw [hr]; rfl, rfl, rfl, trivial⟩ (by dsimp only; omega) (by dsimp only; omega) (h2 := by dsimp only; rw [hr]; first | ((repeat (first | apply Go.GX.SelR.nil | apply Go.GX.SelR.cons | (with_reducible apply Go.GX.TakeR.head) | apply Go.GX.TakeR.tail)); done) | (repeat (first | apply Go.GX.SelR.nil | apply Go.GX.SelR.cons | apply Go.GX.TakeR.head | apply Go.GX.TakeR.tail)))
    · have hm := word_zero hx hlt hz
      have hz2 : ((SetM.wd x i / 2 ^ m : Nat) : Int) ≠ 0 := by omega
      have hlw : SetM.wd x i / 2 ^ m < 18446744073709551616 := Nat.lt_of_le_of_lt (Nat.div_le_self _ _) hw
      have ha := and1W hlw
      have hs := lst_succ x (64 * i + m)
      have hll := lst_len x (64 * i + m)
      have hsh := shr1 (z := SetM.wd x i / 2 ^ m)
      rw [SetM.half] at hsh
      by_cases hb : (SetM.wd x i).testBit m = true
      · rw [if_pos (by rw [bit_at hm]; exact hb)] at hs
        have hb2 : bAnd .u64 ((SetM.wd x i / 2 ^ m : Nat) : Int) 1 = 1 := by rw [ha, low_bit _ _ |>.2 hb]; rfl
        refine GX.wa_R ?_; intros
        refine GX.nmS 3 ?_; rintro a9 c9 rfl rfl
        exact again (m + 1, (a9, c9)) ⟨by dsimp only; rw [← Nat.add_assoc, hs]; rfl, by dsimp only; rw [← hsh]; rfl, rfl, rfl, rfl, trivial⟩ (by dsimp only; omega) (by dsimp only; omega) (h2 := by dsimp only; rw [← Nat.add_assoc, hs]; first | ((repeat (first | apply Go.GX.SelR.nil | apply Go.GX.SelR.cons | (with_reducible apply Go.GX.TakeR.head) | apply Go.GX.TakeR.tail)); done) | (repeat (first | apply Go.GX.SelR.nil | apply Go.GX.SelR.cons | apply Go.GX.TakeR.head | apply Go.GX.TakeR.tail)))
      · rw [if_neg (by rw [bit_at hm]; exact hb)] at hs
        have hb2 : ¬ bAnd .u64 ((SetM.wd x i / 2 ^ m : Nat) : Int) 1 = 1 := fun h => hb (low_bit _ _ |>.1 (by rw [ha] at h; omega))
        refine GX.wa_R ?_; intros
        exact again (m + 1, (a2, c2)) ⟨by dsimp only; rw [← Nat.add_assoc, hs]; rfl, by dsimp only; rw [← hsh]; rfl, rfl, rfl, rfl, trivial⟩ (by dsimp only; omega) (by dsimp only; omega) (h2 := by dsimp only; rw [← Nat.add_assoc, hs]; first | ((repeat (first | apply Go.GX.SelR.nil | apply Go.GX.SelR.cons | (with_reducible apply Go.GX.TakeR.head) | apply Go.GX.TakeR.tail)); done) | (repeat (first | apply Go.GX.SelR.nil | apply Go.GX.SelR.cons | apply Go.GX.TakeR.head | apply Go.GX.TakeR.tail)))
  · have hi2 : i = 63 := by omega
    subst hi2
    refine GX.wa_R ?_; intros
    exact rt1 (_, _) rfl
end Go.Proofs.Ytnpbadghodkhlaa
