import Derived.Test.YtdkhfjcbhpfkoaaM1
import Derived.Test.YtdkhfjcbhpfkoaaM2
import Derived.Test.YtdkhfjcbhpfkoaaM3
import Derived.Test.YtdkhfjcbhpfkoaaM4
import Derived.Test.YtdkhfjcbhpfkoaaM5
import Derived.Test.YtdkhfjcbhpfkoaaM6
import Derived.Test.YtdkhfjcbhpfkoaaM7
import Derived.Test.YtdkhfjcbhpfkoaaM8
import Derived.Test.YtdkhfjcbhpfkoaaM9
import Derived.Test.YtdkhfjcbhpfkoaaM10
import Derived.Test.YtdkhfjcbhpfkoaaM11
import Derived.Test.YtdkhfjcbhpfkoaaM12
import Derived.Test.YtdkhfjcbhpfkoaaM13
import Derived.Test.YtdkhfjcbhpfkoaaM14
import Derived.Test.YtdkhfjcbhpfkoaaM15
import Derived.Test.YtdkhfjcbhpfkoaaM16
import Derived.Test.YtdkhfjcbhpfkoaaM17
import Derived.Test.YtdkhfjcbhpfkoaaM18
import Derived.Test.YtdkhfjcbhpfkoaaM19
import Derived.Test.YtdkhfjcbhpfkoaaM20
import Derived.Test.YtdkhfjcbhpfkoaaM21
import Derived.Test.YtdkhfjcbhpfkoaaM22
import Derived.Test.YtdkhfjcbhpfkoaaM23
import Derived.Test.YtdkhfjcbhpfkoaaM24
import Derived.Test.YtdkhfjcbhpfkoaaM25
import Derived.Test.YtdkhfjcbhpfkoaaM26
import Derived.Test.YtdkhfjcbhpfkoaaM27
import Derived.Test.YtdkhfjcbhpfkoaaM28
/- CodeLong: for all numbers n the law returns true. No condition. -/
namespace Go.Proofs.Ytdkhfjcbhpfkoaa
open Go Go.RR Go.RX Go.GX Go.Api Go.RtM Go.NumM Go.ChangeShapes Go.WideShapes Go.ChangeAt Go.RowKit
attribute [local irreducible] wpList Code.wp wpPlan Exit.then Exit.inBlock bodyPost NoPanic Went GX.Post GX.Again GX.Meet GX.RowR GX.Own GX.Owns GX.Box GX.Sl GX.Pt GX.Ag GX.MapR GX.Kept GX.Pin wpT GoK AtEnd Both

theorem get_noneL {B : List Int} {t : RTg} {e : Int} (h : (e = 0 ∧ Is B t ∧ ∀ t2, Is B t2 → t = t2) ∨ (t = ⟨[], [], [], 0⟩ ∧ (∀ t2, B.length ≤ 4194304 → ¬ Is B t2) ∧ e = if 4194304 < B.length then 4 else 6)) (h2 : ∀ t2, ¬ Is B t2) (hB : B.length ≤ 4194304) : t = ⟨[], [], [], 0⟩ ∧ e = 6 := by
  rcases h with ⟨_, h, _⟩ | ⟨h, _, h3⟩
  · exact absurd h (h2 _)
  · rw [if_neg (by omega)] at h3
    exact ⟨h, h3⟩
/-- The bytes ahead of the number in the small program. -/
def pre14 : List Int := [0, 0, 2, 0, 2, 3, 5, 0, 0, 6, 2, 0, 0, 0]
def behind : List Int := encL [] ++ (([⟨15, 0, 0, 0, 0, []⟩, ⟨18, -1, 0, 0, 0, []⟩] : List Ins).flatMap encI ++ num 0)
theorem num_s {x : Int} (h : zig x < 128) : num x = [(zig x : Int)] := enc_small h
theorem n0 : num 0 = [0] := num_s (by decide)
theorem n1 : num 1 = [2] := num_s (by decide)
theorem n3 : num 3 = [6] := num_s (by decide)
theorem nm2 : num (-2) = [3] := num_s (by decide)
theorem nm3 : num (-3) = [5] := num_s (by decide)
theorem pre_eq (X : List Int) : pre14 ++ X = num 0 ++ (num 0 ++ (num 1 ++ (num 0 ++ (num 1 ++ (num (-2) ++ (num (-3) ++ (num 0 ++ (num 0 ++ (num 3 ++ (num 1 ++ (num 0 ++ (num 0 ++ (num 0 ++ X))))))))))))) := by
  rw [n0, n1, n3, nm2, nm3]; rfl
theorem encI_eq (i : Ins) : encI i = num i.op ++ (num i.a ++ (num i.b ++ (num i.c ++ (num i.n ++ encL i.args)))) := by unfold encI encs; simp
theorem enc_smallT (n : Int) : encT (smallT n) = pre14 ++ (num n ++ behind) := by
  rw [pre_eq]
  unfold encT smallT behind encU smallU
  simp only [List.flatMap_cons, List.flatMap_nil, List.length_cons, List.length_nil, List.append_assoc, List.nil_append, List.append_nil, encI_eq, encL, encs]
  rfl
theorem one_of {α : Type} {l : List α} (h : (l.length : Int) = 1) : ∃ x, l = [x] := by
  match l, h with
  | [x], _ => exact ⟨x, rfl⟩
  | [], h => simp at h
  | x :: y :: l, h => simp at h; omega
theorem not_long {L R : List Int} (hL : ∀ x ∈ L, 128 ≤ x) (hn : L ≠ []) (t : RTg) : encT t ≠ pre14 ++ (L ++ 0 :: R) := by
  intro h
  rw [pre_eq] at h
  unfold encT at h
  obtain ⟨k1, h⟩ := pf_num _ _ _ _ h
  rw [List.length_eq_zero_iff.1 (show t.classes.length = 0 by omega), List.flatMap_nil, List.nil_append] at h
  unfold encL at h
  rw [List.append_assoc] at h
  obtain ⟨k2, h⟩ := pf_num _ _ _ _ h
  rw [List.length_eq_zero_iff.1 (show t.globals.length = 0 by omega)] at h
  unfold encs at h
  rw [List.flatMap_nil, List.nil_append] at h
  obtain ⟨k3, h⟩ := pf_num _ _ _ _ h
  obtain ⟨u, hu⟩ := one_of k3
  rw [hu, List.flatMap_cons, List.flatMap_nil, List.append_nil] at h
  unfold encU encL at h
  simp only [List.append_assoc] at h
  obtain ⟨k4, h⟩ := pf_num _ _ _ _ h
  obtain ⟨k5, h⟩ := pf_num _ _ _ _ h
  obtain ⟨v, hv⟩ := one_of k5
  rw [hv] at h
  unfold encs at h
  simp only [List.flatMap_cons, List.flatMap_nil, List.append_nil] at h
  obtain ⟨k6, h⟩ := pf_num _ _ _ _ h
  obtain ⟨k7, h⟩ := pf_num _ _ _ _ h
  obtain ⟨k8, h⟩ := pf_num _ _ _ _ h
  rw [List.length_eq_zero_iff.1 (show u.takes.length = 0 by omega), List.flatMap_nil, List.nil_append] at h
  obtain ⟨k9, h⟩ := pf_num _ _ _ _ h
  rw [List.length_eq_zero_iff.1 (show u.owns.length = 0 by omega), List.flatMap_nil, List.nil_append] at h
  obtain ⟨k10, h⟩ := pf_num _ _ _ _ h
  obtain ⟨i, is, hi⟩ : ∃ i is, u.ins = i :: is := by
    match u.ins, k10 with
    | i :: is, _ => exact ⟨i, is, rfl⟩
    | [], k => simp at k
  rw [hi, List.flatMap_cons, encI_eq] at h
  simp only [List.append_assoc] at h
  obtain ⟨k11, h⟩ := pf_num _ _ _ _ h
  obtain ⟨k12, h⟩ := pf_num _ _ _ _ h
  obtain ⟨k13, h⟩ := pf_num _ _ _ _ h
  obtain ⟨k14, h⟩ := pf_num _ _ _ _ h
  exact enc_long L (zig i.n) _ R hL hn h
theorem enc_len9 : ∀ (k z : Nat), z < 128 ^ (k + 1) → (enc z).length ≤ k + 1 := by
  intro k
  induction k with
  | zero =>
    intro z h
    rw [enc_small (by omega)]; simp
  | succ k ih =>
    intro z h
    by_cases hz : z < 128
    · rw [enc_small hz]; simp
    · rw [enc_big hz, List.length_cons]
      have := ih (z / 128) (by rw [Nat.pow_succ] at h; exact Nat.div_lt_of_lt_mul (by rw [Nat.mul_comm]; exact h))
      omega
theorem num9 {n : Int} (h0 : 0 ≤ n) (h1 : n ≤ 1152921504606846976) : (num n).length ≤ 9 := enc_len9 8 (zig n) (by unfold zig; rw [if_pos h0]; omega)
/-- The last byte marked as if more came. -/
theorem long_all {n x : Int} {q : Nat} (hq : (num n).length = q + 1) (hx : (num n)[q]? = some x) : ∀ y ∈ (num n).set q (bOr .u8 x 128), 128 ≤ y := by
  intro y hy
  obtain ⟨i, hi⟩ := List.mem_iff_getElem?.1 hy
  by_cases hiq : i = q
  · subst hiq
    rw [List.getElem?_set_self (by omega)] at hi
    have hb := num_byt n x (List.mem_of_getElem? hx)
    obtain ⟨m, rfl⟩ := Int.eq_ofNat_of_zero_le hb.1
    have := or_fin ⟨m, by omega⟩
    simp only at this
    rw [this] at hi
    simp at hi; omega
  · rw [List.getElem?_set_ne (Ne.symm hiq)] at hi
    have hi2 : i < (num n).length := (List.getElem?_eq_some_iff.1 hi).1
    have := enc_last (zig n) i y hi
    have : ¬ y < 128 := fun h => by have := this.1 h; unfold num at hq; omega
    omega
set_option maxHeartbeats 2000000 in
theorem codeLong_does (n : Int) (hn : -9223372036854775808 ≤ n ∧ n ≤ 9223372036854775807) : Does Try.prog 9 [.int .i64 n] [] [] (fun _ : Unit => .bool true) (fun _ => []) (fun _ => []) := by
  refine enter Try.func9 rfl Try.ntmps9 rfl fun b => ?_
  by_cases h1 : n < 0
  · refine GX.wbR ?_; intros
    exact rt1 () rfl
  by_cases h2 : 1152921504606846976 < n
  · refine GX.wbR ?_; intros
    exact rt1 () rfl
  have l1 := num_pos n
  have l2 := num9 (show 0 ≤ n by omega) (show n ≤ 1152921504606846976 by omega)
  have hr := small_right n
  have hl := small_len hn
  have he := enc_smallT n
  have hl2 := right_le (small_ok hn) hr (small_tiny n)
  have hel : (encT (smallT n)).length = 14 + ((num n).length + behind.length) := by rw [he, List.length_append, List.length_append]; rfl
  refine GX.wbR ?_; intros
  refine GX.o (cl (small_spec n) fun s => ?_)
  refine GX.wbR ?_; intros
  refine GX.o (cl (put27_spec _ (smallT n) (small_ok hn) (small_of (by omega)) (by omega)) fun s => ?_)
  obtain ⟨a1, c1⟩ := s
  rw [putT_right hr, putE_right hr]
  dsimp only
  refine GX.wbR ?_; intros
  refine GX.o (cl (num_spec n hn) fun s => ?_)
  obtain ⟨a2, c2⟩ := s
  dsimp only
  refine frz a2 ?_
  refine GX.wbR ?_; intros
  have hq8 : strNe (strOfNums (((encT (smallT n)).drop (14 : Int).toNat).take ((14 + ((num n).length : Int)).toNat - (14 : Int).toNat))) (strOfNums (num n)) = false := by
    rw [show (14 : Int).toNat = 14 from rfl, show (14 + ((num n).length : Int)).toNat - 14 = (num n).length by omega, he, List.drop_left' (show pre14.length = 14 from rfl), List.take_left]
    exact strNe_self _
  refine GX.drawn0  (fun j => !(List.contains [] j)) [(0, true), (1, true), (2, true), (3, true), (4, true), (5, true), (6, true), (7, true), (8, true), (9, true), (10, true)] rfl (by kernel_rfl) (by kernel_rfl) (by first | ((repeat (first | apply Go.GX.SelR.nil | apply Go.GX.SelR.cons | (with_reducible apply Go.GX.TakeR.head) | apply Go.GX.TakeR.tail)); done) | (repeat (first | apply Go.GX.SelR.nil | apply Go.GX.SelR.cons | apply Go.GX.TakeR.head | apply Go.GX.TakeR.tail))) ?_; intro wd F hW hR
  refine GX.wbT ?_; intros
  refine GX.wbR ?_; intros
  refine GX.nmS 59 ?_; rintro a7 c7 rfl rfl
  obtain ⟨q, hq⟩ : ∃ q, (num n).length = q + 1 := ⟨(num n).length - 1, by omega⟩
  obtain ⟨x, hx⟩ := get_lt (show q < (num n).length by omega)
  refine opn a7 fun _ _ ha => ?_
  obtain ⟨h0, _⟩ | ⟨g, rfl⟩ := ha
  · rw [h0] at l1; simp at l1
  refine GX.wbR ?_; intros
  obtain ⟨C, hC⟩ : ∃ C : List Int, C = ((encT (smallT n)).take (14 : Int).toNat ++ ((num n).set q (bOr .u8 x 128) ++ [0])) ++ (encT (smallT n)).drop (14 + ((num n).length : Int)).toNat := ⟨_, rfl⟩
  have hC2 : C = pre14 ++ ((num n).set q (bOr .u8 x 128) ++ 0 :: behind) := by
    rw [hC, show (14 : Int).toNat = 14 from rfl, show (14 + ((num n).length : Int)).toNat = 14 + (num n).length by omega, ← List.drop_drop, he, List.take_left' (show pre14.length = 14 from rfl), List.drop_left' (show pre14.length = 14 from rfl), List.drop_left]
    simp
  have hCl : C.length ≤ 4194304 := by
    have e : C.length = 14 + ((num n).length + (behind.length + 1)) := by
      rw [hC2, List.length_append, List.length_append, List.length_set, List.length_cons]; rfl
    omega
  refine GX.cut (σ := AC) (fun s => [(0, .int .i64 n), (2, .bool false), (3, .slice a1 (encT (smallT n)).length c1), (8, .slice s.1 C.length s.2)]) (fun _ => []) (fun s => [Own 5 Ty.byte s.1 s.2 C]) (fun _ => True) ?_ (fun s _ => ?_)
  · rw [hC]
    have hA : ((encT (smallT n)).take (14 : Int).toNat).length ≤ 2000000 := Nat.le_trans (by rw [List.length_take]; exact Nat.min_le_right _ _) hl2
    have hB : ((encT (smallT n)).drop (14 + ((num n).length : Int)).toNat).length ≤ 2000000 := Nat.le_trans (by rw [List.length_drop]; exact Nat.sub_le _ _) hl2
    have hS : ((num n).set q (bOr .u8 x 128)).length ≤ 9 := by rw [List.length_set]; exact l2
    have hS2 : (num n).length = ((num n).set q (bOr .u8 x 128)).length := by rw [List.length_set]
    refine GX.drawnF (fun j => !(List.contains [] j)) [(0, true), (1, true), (2, true), (4, true), (8, true), (9, true), (10, true), (11, true), (12, true), (13, true)] [(3, false), (5, false), (6, false), (7, false), (14, false), (15, true)] [(5, false), (3, false), (6, false), (7, false), (14, false), (15, true)] rfl (by kernel_rfl) (by kernel_rfl) ?_; intro wd F hW hR
    refine GX.wbT ?_; intros
    refine GX.fork ?_ ?_
    · refine GX.wbT ?_; intros
      refine GX.nmS 78 ?_; rintro a9 c9 rfl rfl
      refine frz a9 ?_
      refine GX.wbT ?_; intros
      refine GX.wbR ?_; intros
      exact meet (_, _) ⟨rfl, rfl, rfl, rfl, trivial⟩ trivial
    · refine GX.wbT ?_; intros
      refine GX.nmS 78 ?_; rintro a9 c9 rfl rfl
      refine frz a9 ?_
      refine GX.wbT ?_; intros
      refine GX.wbR ?_; intros
      exact meet (_, _) ⟨rfl, rfl, rfl, rfl, trivial⟩ trivial
  obtain ⟨a8, c8⟩ := s
  dsimp only
  refine frz a8 ?_
  have hno : ∀ t2, ¬ Is C t2 := fun t2 h => not_long (long_all hq hx) (fun h => by have := congrArg List.length h; rw [List.length_set, List.length_nil] at this; omega) t2 (h.2.2.trans hC2)
  clear hC hC2
  refine GX.wbR ?_; intros
  refine GX.o (cl (get27_spec a1 c1 (encT (smallT n))) fun s => ?_)
  obtain ⟨cs2, t2, e2, h2⟩ := s
  obtain ⟨h3, h4⟩ := get_of h2 (show Is _ (smallT n) from ⟨small_ok hn, hr, rfl⟩) hl
  dsimp only
  clear h2
  subst h3 h4
  refine GX.wbR ?_; intros
  refine GX.o (cl (get27_spec a8 c8 C) fun s => ?_)
  obtain ⟨cs3, t3, e3, h2⟩ := s
  obtain ⟨h3, h4⟩ := get_noneL h2 hno hCl
  dsimp only
  clear h2
  subst h3 h4
  refine GX.wbR ?_; intros
  have hss : decide (smallT n = smallT n) = true := decide_eq_true rfl
  refine GX.nmP 9 ?_; rintro b9 rfl
  refine frzB b9 ?_
  refine GX.drawn0  (fun j => !(List.contains [6, 7, 8, 9, 10, 11, 12, 13, 14, 15] j)) [(0, true), (1, true), (2, true), (3, true), (4, true), (5, false), (6, false), (7, false), (8, false), (9, false), (10, false), (11, false), (12, false), (13, false), (14, false), (15, false)] rfl (by kernel_rfl) (by kernel_rfl) (by first | ((repeat (first | apply Go.GX.SelR.nil | apply Go.GX.SelR.cons | (with_reducible apply Go.GX.TakeR.head) | apply Go.GX.TakeR.tail)); done) | (repeat (first | apply Go.GX.SelR.nil | apply Go.GX.SelR.cons | apply Go.GX.TakeR.head | apply Go.GX.TakeR.tail))) ?_; intro wd F hW hR
  refine GX.wbT ?_; intros
  refine GX.gow ?_
  refine (cl (small_spec n) fun s3 => ?_)
  refine GX.wbT ?_; intros
  refine GX.gow ?_
  refine (cl (same27_spec _ _ (smallT n) (smallT n)) fun _ => ?_)
  rw [hss]
  refine GX.wbT ?_; intros
  refine GX.gow ?_
  refine (cl known27_spec fun _ => ?_)
  refine GX.wbT ?_; intros
  refine GX.wbR ?_; intros
  exact rt1 () rfl

theorem codeLong_own : ownKnob Try.prog.godebug = none := by kernel_rfl
theorem codeLong_laidOut : laidOutB Try.prog = true := by kernel_rfl
set_option maxRecDepth 100000 in
theorem codeLong_lifted (os : Os) (started : os.Started) (H : Type) (enc : TypeId × Value → H) :
    ReturnsInHanded {} Try.checked os 9 .any (Rows.codeLongSpec.pre6 enc Try.prog Try.f9 Rows.codeLongRow.domain false) (Rows.codeLongSpec.post enc Try.prog Try.f9 false true false false) := by
  refine returnsInHanded_of_change (C := Try.checked) codeLong_own started (by kernel_rfl) Try.func9
    (ChangeSpec.witness6 (enc := enc) (C := Try.checked) false ⟨#[], #[.int .i64 0], []⟩ 8 (by kernel_rfl) (by kernel_rfl) (by kernel_rfl) (by kernel_rfl)) ?_
  intro W base args ds gs before hval0 hW hcnd _
  have hval : ∀ (j : Nat) t v, Try.f9.params[j]? = some t → args[j]? = some v → Value.okWide Try.prog W .any base t v := hval0
  have hW' := hW
  obtain ⟨p, q, hA0, hV, rfl, hfz, hnd⟩ := hW
  have hA : DataW.TrodAll enc Try.prog W 0 (fun _ => true) true Try.f9.params.toList args.toList ds p := hA0
  rw [Try.params9] at hA hval
  obtain ⟨v0, vs0, d0, ds0, p0, q0, hargs, rfl, rfl, h0, r0⟩ := trodAll_cons hA
  obtain ⟨rfl, rfl, rfl⟩ := trodAll_nil r0
  obtain rfl : args = #[v0] := by cases args; simp_all
  obtain ⟨rfl, rfl⟩ := trodVars_none hV
  have hlt := hW'.lt
  have hl0 : ∀ x ∈ p0, x.block < W.heap.size := fun x hx => hlt x (by simp [hx])
  obtain ⟨a0, rfl, e0, g0, w0⟩ := open_int Try.underlying3 (hval 0 3 v0 rfl rfl) h0
  have b0 : -9223372036854775808 ≤ a0 ∧ a0 ≤ 9223372036854775807 := wf_i64 w0
  refine ((codeLong_does a0 b0).calls W all_nil).mono fun e W' ⟨he, hu⟩ => ?_
  subst he
  have hb := hu.below
  exact ⟨_, rfl, _, _, _, [], _, [], hW', trodAll_cons_mk (shut_bool Try.underlying4 _) trodAll_mk0, (trodAll_cons_mk (hb.trod codeLong_laidOut (by kernel_rfl) (of_decide_eq_true (by kernel_rfl)) h0 hl0) trodAll_mk0), rfl, hb.frame _, fun h => by cases h⟩
theorem codeLong_holds : Rows.CodeLongSaid :=
  OpenClaim.holds_of_wide 9 Try.f9 rfl rfl rfl rfl rfl rfl rfl ⟨rfl, rfl, rfl, rfl, rfl⟩ rfl rfl rfl rfl rfl (by kernel_rfl) Try.func9 (by kernel_rfl)
    (of_decide_eq_true (by kernel_rfl)) (by unfold Func.isWrapper; first | (rw [if_pos (by decide +kernel)]; kernel_rfl) | (rw [if_neg (by decide +kernel)]; exact ⟨rfl, rfl⟩))
    (fun os started H enc _ => codeLong_lifted os started H enc)
end Go.Proofs.Ytdkhfjcbhpfkoaa
