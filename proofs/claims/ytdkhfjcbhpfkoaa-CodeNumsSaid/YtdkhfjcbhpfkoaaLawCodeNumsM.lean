import Derived.Test.YtdkhfjcbhpfkoaaM1
import Derived.Test.YtdkhfjcbhpfkoaaM2
import Derived.Test.YtdkhfjcbhpfkoaaM3
import Derived.Test.YtdkhfjcbhpfkoaaM4
import Derived.Test.YtdkhfjcbhpfkoaaM5
import Derived.Test.YtdkhfjcbhpfkoaaM6
import Derived.Test.YtdkhfjcbhpfkoaaM7
import Derived.Test.YtdkhfjcbhpfkoaaM8
import Derived.Test.YtdkhfjcbhpfkoaaM9
import Derived.Test.YtdkhfjcbhpfkoaaM10
import Derived.Test.YtdkhfjcbhpfkoaaM11
import Derived.Test.YtdkhfjcbhpfkoaaM12
import Derived.Test.YtdkhfjcbhpfkoaaM13
import Derived.Test.YtdkhfjcbhpfkoaaM14
import Derived.Test.YtdkhfjcbhpfkoaaM15
import Derived.Test.YtdkhfjcbhpfkoaaM16
import Derived.Test.YtdkhfjcbhpfkoaaM17
import Derived.Test.YtdkhfjcbhpfkoaaM18
import Derived.Test.YtdkhfjcbhpfkoaaM19
import Derived.Test.YtdkhfjcbhpfkoaaM20
import Derived.Test.YtdkhfjcbhpfkoaaM21
import Derived.Test.YtdkhfjcbhpfkoaaM22
import Derived.Test.YtdkhfjcbhpfkoaaM23
import Derived.Test.YtdkhfjcbhpfkoaaM24
import Derived.Test.YtdkhfjcbhpfkoaaM25
import Derived.Test.YtdkhfjcbhpfkoaaM26
import Derived.Test.YtdkhfjcbhpfkoaaM27
import Derived.Test.YtdkhfjcbhpfkoaaM28
/- CodeNums: for all numbers n and m the law returns true. No condition. -/
namespace Go.Proofs.Ytdkhfjcbhpfkoaa
open Go Go.RR Go.RX Go.GX Go.Api Go.RtM Go.NumM Go.ChangeShapes Go.WideShapes Go.ChangeAt Go.RowKit
attribute [local irreducible] wpList Code.wp wpPlan Exit.then Exit.inBlock bodyPost NoPanic Went GX.Post GX.Again GX.Meet GX.RowR GX.Own GX.Owns GX.Box GX.Sl GX.Pt GX.Ag GX.MapR GX.Kept GX.Pin wpT GoK AtEnd Both

theorem nums_byt (x : Int) : ∀ y ∈ num x, 0 ≤ y ∧ y ≤ 255 := num_byt x
set_option maxHeartbeats 1000000 in
theorem codeNums_does (n : Int) (hn : -9223372036854775808 ≤ n ∧ n ≤ 9223372036854775807) (m : Int) (hm : -9223372036854775808 ≤ m ∧ m ≤ 9223372036854775807) : Does Try.prog 6 [.int .i64 n, .int .i64 m] [] [] (fun _ : Unit => .bool true) (fun _ => []) (fun _ => []) := by
  refine enter Try.func6 rfl Try.ntmps6 rfl fun b => ?_
  have l1 := num_pos n
  have l2 := num_len n hn
  have l3 := num_len m hm
  have hs := strNe_self (strOfNums (num n))
  refine GX.wbR ?_; intros
  refine GX.o (cl (num_spec n hn) fun s => ?_)
  obtain ⟨a1, c1⟩ := s
  dsimp only
  refine frz a1 ?_
  refine GX.wbR ?_; intros
  refine GX.o (cl (num_spec m hm) fun s => ?_)
  obtain ⟨a2, c2⟩ := s
  dsimp only
  refine frz a2 ?_
  refine GX.wbR ?_; intros
  refine GX.drawn0  (fun j => !(List.contains [5, 6, 7, 8, 9, 10, 11, 12, 13, 14, 15] j)) [(0, true), (1, true), (2, true), (3, false), (4, false), (5, false), (6, false), (7, false), (8, false), (9, false), (10, false), (11, false), (12, false), (13, false), (14, false), (15, false)] rfl (by kernel_rfl) (by kernel_rfl) (by first | ((repeat (first | apply Go.GX.SelR.nil | apply Go.GX.SelR.cons | (with_reducible apply Go.GX.TakeR.head) | apply Go.GX.TakeR.tail)); done) | (repeat (first | apply Go.GX.SelR.nil | apply Go.GX.SelR.cons | apply Go.GX.TakeR.head | apply Go.GX.TakeR.tail))) ?_; intro wd F hW hR
  refine GX.wbT ?_; intros
  refine GX.gow ?_
  refine (cl (rnum_spec n hn) fun s => ?_)
  obtain ⟨a3, c3⟩ := s
  dsimp only
  refine frz a3 ?_
  refine GX.wbT ?_; intros
  refine GX.wbR ?_; intros
  refine GX.loop (σ := Nat) (fun i => [(0, .int .i64 n), (1, .int .i64 m), (5, .slice a1 (num n).length c1), (6, .slice a2 (num m).length c2), (7, .int .i64 (i : Int))]) (fun _ => []) (fun _ => [])
    (fun i => i ≤ (num n).length) (fun i => (num n).length - i) 0 ⟨rfl, rfl, rfl, rfl, rfl, trivial⟩ (by omega) (fun i hi => ?_)
  by_cases hlt : i < (num n).length
  · obtain ⟨x, hx⟩ := get_lt hlt
    have hz := enc_last _ i x hx
    have hb : (decide (x < 128) != decide ((i : Int) = ((num n).length : Int) - 1)) = false := by
      have : decide (x < 128) = decide ((i : Int) = ((num n).length : Int) - 1) := decide_eq_decide.2 (hz.trans ⟨fun h => by unfold num; omega, fun h => by unfold num at h; omega⟩)
      rw [this]; simp
    refine GX.wbR ?_; intros
    exact again (i + 1) ⟨rfl, rfl, rfl, rfl, rfl, trivial⟩ (by omega) (by omega)
  clear hi
  have hbg := num_begins n m
  by_cases hle : (num n).length ≤ (num m).length
  · have ht : ∀ y ∈ (num m).take (num n).length, 0 ≤ y ∧ y ≤ 255 := fun y hy => nums_byt m y (List.mem_of_mem_take hy)
    have hq := strEq_nums ht (nums_byt n)
    have hw : (strEq (strOfNums ((num m).take ((num n).length : Int).toNat)) (strOfNums (num n)) == decide (n = m)) = true := by
      rw [show ((num n).length : Int).toNat = (num n).length from rfl, hq]
      have : decide ((num m).take (num n).length = num n) = decide (n = m) := decide_eq_decide.2 ⟨fun h => hbg.1 ⟨hle, h⟩, fun h => (hbg.2 h).2⟩
      rw [this]; simp
    refine GX.wbR ?_; intros
    refine GX.drawn0  (fun j => !(List.contains [] j)) [(0, true), (1, true), (2, true), (3, true), (4, true), (5, true), (6, true), (7, true), (8, true), (9, true), (10, true), (11, true), (12, true), (13, true), (14, true), (15, true)] rfl (by kernel_rfl) (by kernel_rfl) (by first | ((repeat (first | apply Go.GX.SelR.nil | apply Go.GX.SelR.cons | (with_reducible apply Go.GX.TakeR.head) | apply Go.GX.TakeR.tail)); done) | (repeat (first | apply Go.GX.SelR.nil | apply Go.GX.SelR.cons | apply Go.GX.TakeR.head | apply Go.GX.TakeR.tail))) ?_; intro wd F hW hR
    refine GX.wbT ?_; intros
    refine GX.wbR ?_; intros
    refine GX.o (cl known27_spec fun _ => ?_)
    refine GX.wbR ?_; intros
    exact rt1 () rfl
  · have hnm : ¬ n = m := fun h => hle (hbg.2 h).1
    have hw2 : (false == decide (n = m)) = true := by rw [decide_eq_false hnm]; rfl
    refine GX.wbR ?_; intros
    refine GX.drawn0  (fun j => !(List.contains [] j)) [(0, true), (1, true), (2, true), (3, true), (4, true), (5, true), (6, true), (7, true), (8, true), (9, true), (10, true), (11, true), (12, true), (13, true), (14, true), (15, true)] rfl (by kernel_rfl) (by kernel_rfl) (by first | ((repeat (first | apply Go.GX.SelR.nil | apply Go.GX.SelR.cons | (with_reducible apply Go.GX.TakeR.head) | apply Go.GX.TakeR.tail)); done) | (repeat (first | apply Go.GX.SelR.nil | apply Go.GX.SelR.cons | apply Go.GX.TakeR.head | apply Go.GX.TakeR.tail))) ?_; intro wd F hW hR
    refine GX.wbT ?_; intros
    refine GX.wbR ?_; intros
    refine GX.o (cl known27_spec fun _ => ?_)
    refine GX.wbR ?_; intros
    exact rt1 () rfl

theorem codeNums_own : ownKnob Try.prog.godebug = none := by kernel_rfl
theorem codeNums_laidOut : laidOutB Try.prog = true := by kernel_rfl
set_option maxRecDepth 100000 in
theorem codeNums_lifted (os : Os) (started : os.Started) (H : Type) (enc : TypeId × Value → H) :
    ReturnsInHanded {} Try.checked os 6 .any (Rows.codeNumsSpec.pre6 enc Try.prog Try.f6 Rows.codeNumsRow.domain false) (Rows.codeNumsSpec.post enc Try.prog Try.f6 false true false false) := by
  refine returnsInHanded_of_change (C := Try.checked) codeNums_own started (by kernel_rfl) Try.func6
    (ChangeSpec.witness6 (enc := enc) (C := Try.checked) false ⟨#[], #[.int .i64 0, .int .i64 0], []⟩ 8 (by kernel_rfl) (by kernel_rfl) (by kernel_rfl) (by kernel_rfl)) ?_
  intro W base args ds gs before hval0 hW hcnd _
  have hval : ∀ (j : Nat) t v, Try.f6.params[j]? = some t → args[j]? = some v → Value.okWide Try.prog W .any base t v := hval0
  have hW' := hW
  obtain ⟨p, q, hA0, hV, rfl, hfz, hnd⟩ := hW
  have hA : DataW.TrodAll enc Try.prog W 0 (fun _ => true) true Try.f6.params.toList args.toList ds p := hA0
  rw [Try.params6] at hA hval
  obtain ⟨v0, vs0, d0, ds0, p0, q0, hargs, rfl, rfl, h0, r0⟩ := trodAll_cons hA
  obtain ⟨v1, vs1, d1, ds1, p1, q1, rfl, rfl, rfl, h1, r1⟩ := trodAll_cons r0
  obtain ⟨rfl, rfl, rfl⟩ := trodAll_nil r1
  obtain rfl : args = #[v0, v1] := by cases args; simp_all
  obtain ⟨rfl, rfl⟩ := trodVars_none hV
  have hlt := hW'.lt
  have hl0 : ∀ x ∈ p0, x.block < W.heap.size := fun x hx => hlt x (by simp [hx])
  obtain ⟨a0, rfl, e0, g0, w0⟩ := open_int Try.underlying3 (hval 0 3 v0 rfl rfl) h0
  have b0 : -9223372036854775808 ≤ a0 ∧ a0 ≤ 9223372036854775807 := wf_i64 w0
  have hl1 : ∀ x ∈ p1, x.block < W.heap.size := fun x hx => hlt x (by simp [hx])
  obtain ⟨a1, rfl, e1, g1, w1⟩ := open_int Try.underlying3 (hval 1 3 v1 rfl rfl) h1
  have b1 : -9223372036854775808 ≤ a1 ∧ a1 ≤ 9223372036854775807 := wf_i64 w1
  refine ((codeNums_does a0 b0 a1 b1).calls W all_nil).mono fun e W' ⟨he, hu⟩ => ?_
  subst he
  have hb := hu.below
  exact ⟨_, rfl, _, _, _, [], _, [], hW', trodAll_cons_mk (shut_bool Try.underlying4 _) trodAll_mk0, (trodAll_cons_mk (hb.trod codeNums_laidOut (by kernel_rfl) (of_decide_eq_true (by kernel_rfl)) h0 hl0) (trodAll_cons_mk (hb.trod codeNums_laidOut (by kernel_rfl) (of_decide_eq_true (by kernel_rfl)) h1 hl1) trodAll_mk0)), rfl, hb.frame _, fun h => by cases h⟩
theorem codeNums_holds : Rows.CodeNumsSaid :=
  OpenClaim.holds_of_wide 6 Try.f6 rfl rfl rfl rfl rfl rfl rfl ⟨rfl, rfl, rfl, rfl, rfl⟩ rfl rfl rfl rfl rfl (by kernel_rfl) Try.func6 (by kernel_rfl)
    (of_decide_eq_true (by kernel_rfl)) (by unfold Func.isWrapper; first | (rw [if_pos (by decide +kernel)]; kernel_rfl) | (rw [if_neg (by decide +kernel)]; exact ⟨rfl, rfl⟩))
    (fun os started H enc _ => codeNums_lifted os started H enc)
end Go.Proofs.Ytdkhfjcbhpfkoaa
