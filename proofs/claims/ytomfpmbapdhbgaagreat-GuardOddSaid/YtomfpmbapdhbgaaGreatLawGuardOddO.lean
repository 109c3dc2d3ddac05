import Derived.Test.YtomfpmbapdhbgaaGreatO1
import Derived.Test.YtomfpmbapdhbgaaGreatO2
import Derived.Test.YtomfpmbapdhbgaaGreatO3
import Derived.Test.YtomfpmbapdhbgaaGreatO4
import Derived.Test.YtomfpmbapdhbgaaGreatO5
import Derived.Test.YtomfpmbapdhbgaaGreatO6
import Derived.Test.YtomfpmbapdhbgaaGreatO7
import Derived.Test.YtomfpmbapdhbgaaGreatO8
import Derived.Test.YtomfpmbapdhbgaaGreatO9
import Derived.Test.YtomfpmbapdhbgaaGreatO10
import Derived.Test.YtomfpmbapdhbgaaGreatO11
import Derived.Test.YtomfpmbapdhbgaaGreatO12
import Derived.Test.YtomfpmbapdhbgaaGreatO13
import Derived.Test.YtomfpmbapdhbgaaGreatO14
import Derived.Test.YtomfpmbapdhbgaaGreatO15
import Derived.Test.YtomfpmbapdhbgaaGreatO16
import Derived.Test.YtomfpmbapdhbgaaGreatO17
import Derived.Test.YtomfpmbapdhbgaaGreatO18
import Derived.Test.YtomfpmbapdhbgaaGreatO19
import Derived.Test.YtomfpmbapdhbgaaGreatO20
import Derived.Test.YtomfpmbapdhbgaaGreatO21
import Derived.Test.YtomfpmbapdhbgaaGreatO22
import Derived.Test.YtomfpmbapdhbgaaGreatO23
import Derived.Test.YtomfpmbapdhbgaaGreatO24
import Derived.Test.YtomfpmbapdhbgaaGreatO25
import Derived.Test.YtomfpmbapdhbgaaGreatO26
import Derived.Test.YtomfpmbapdhbgaaGreatO27
import Derived.Test.YtomfpmbapdhbgaaGreatO28
import Derived.Test.YtomfpmbapdhbgaaGreatO29
import Derived.Test.YtomfpmbapdhbgaaGreatO30
/- GuardOdd: for all numbers the law returns true. No condition. -/
namespace Go.Proofs.YtomfpmbapdhbgaaGreat
open Go Go.RR Go.RX Go.GX Go.Api Go.RiseM Go.ReachM Go.RtM Go.OneM Go.ChangeShapes Go.WideShapes Go.ChangeAt Go.RowKit
attribute [local irreducible] wpList Code.wp wpPlan Exit.then Exit.inBlock bodyPost NoPanic Went GX.Post GX.Again GX.Meet GX.RowR GX.Own GX.Owns GX.Box GX.Sl GX.Pt GX.Ag GX.MapR GX.Kept GX.Pin wpT GoK AtEnd Both
def iM : Ins := ⟨11, 1, 0, 0, 1, []⟩
def iG : Ins := ⟨6, 2, 0, 0, 0, []⟩
def iH : Ins := ⟨6, 0, 1, 0, 0, []⟩
def iK : Ins := ⟨7, 1, 0, 0, 0, []⟩
def iZ : Ins := ⟨2, 0, 0, 0, 0, []⟩
def iB : Ins := ⟨17, 2, 0, 2, 1, []⟩
def L28 : List (List Ins) := [[(iC [0]), iN, (iR [0]), iE], [(iC [0]), iE], [iN, iE], [(iC [0]), (iC [0]), (iR [0]), iE], [(iR [0]), iE], [(iC [1]), (iR [1]), iE], [(iC [0, 1]), iM, (iR [0]), (iR [1]), iE], [(iC [0, 1]), iM, (iR [1]), (iR [0]), iE], [(iC [0]), iN, (iR [0]), iG, iE], [(iC [0]), iN, (iR [0]), iZ, iG, iE], [iB, (iC [0]), (⟨16, 0, 0, 0, 2, []⟩ : Ins)], [(⟨16, 0, 0, 0, 0, []⟩ : Ins)], [iE, iN, iE], [(iC [0, 1]), iM, iN, iK, (iR [0, 1]), iH, iE], [(iC [0]), iN, (iR [0]), (iC [0]), iG, (iR [0]), iE], [(iC [0]), iN, (iR [0]), (iC [0]), iN, iG, (iR [0]), iE], [(iC [0, 1]), iM, iN, iK, iH, iG, (iR [0, 1]), iE], [(iC [0]), (iR [0]), (iC [0]), (iR [0]), iE], [iB, (iC [0]), (iR [0]), iE], [iB, (⟨1, 2, 0, 0, 0, []⟩ : Ins), (iC [0]), (iR [0]), iE]]
def Y28 : List Bool := [true, false, false, false, false, false, false, true, false, true, false, true, true, false, false, true, true, true, false, true]
def T28Ds : List Nat := [38, 39, 40, 41, 42, 43, 44, 45, 46, 47, 48, 49, 50, 51, 52, 53, 54, 55, 56, 57, 58, 59, 60, 61, 62, 63, 64, 65, 66, 67, 68, 69, 70, 71, 72, 73, 74, 75, 76, 77, 78, 79, 80, 81, 82, 83, 84, 85, 86, 87, 88, 89, 90, 91, 92, 93, 94, 95, 96, 97, 98, 99, 100, 101, 102, 103, 104, 105, 106, 107, 108, 109, 110, 111, 112, 113, 114, 115, 116, 117, 118, 119, 120, 121, 122, 123, 124, 125, 126, 127, 128, 129, 130, 131, 132, 133, 134, 135, 136, 137, 138, 139, 140, 141, 142, 143, 144, 145, 146, 147, 16]
def T28Need : List (List Nat) := [[], [], [], [], [0, 1, 2, 3], [], [], [5, 6], [], [], [8, 9], [], [], [], [], [11, 12, 13, 14], [], [], [16, 17], [], [], [], [19, 20, 21], [], [], [], [], [], [23, 24, 25, 26, 27], [], [], [], [], [], [29, 30, 31, 32, 33], [], [], [], [], [], [35, 36, 37, 38, 39], [], [], [], [], [], [], [41, 42, 43, 44, 45, 46], [], [], [], [48, 49, 50], [], [52], [], [], [], [54, 55, 56], [], [], [], [], [], [], [], [58, 59, 60, 61, 62, 63, 64], [], [], [], [], [], [], [], [66, 67, 68, 69, 70, 71, 72], [], [], [], [], [], [], [], [], [74, 75, 76, 77, 78, 79, 80, 81], [], [], [], [], [], [], [], [], [83, 84, 85, 86, 87, 88, 89, 90], [], [], [], [], [], [92, 93, 94, 95, 96], [], [], [], [], [98, 99, 100, 101], [], [], [], [], [], [103, 104, 105, 106, 107], [4, 7, 10, 15, 18, 22, 28, 34, 40, 47, 51, 53, 57, 65, 73, 82, 91, 97, 102, 108], [109]]
def T28Sp : List GX.Sp := [GX.spA tyIns (iC [0]),
  GX.spA tyIns iN,
  GX.spA tyIns (iR [0]),
  GX.spA tyIns iE,
  GX.spS tyIns [(iC [0]), iN, (iR [0]), iE],
  GX.spA tyIns (iC [0]),
  GX.spA tyIns iE,
  GX.spS tyIns [(iC [0]), iE],
  GX.spA tyIns iN,
  GX.spA tyIns iE,
  GX.spS tyIns [iN, iE],
  GX.spA tyIns (iC [0]),
  GX.spA tyIns (iC [0]),
  GX.spA tyIns (iR [0]),
  GX.spA tyIns iE,
  GX.spS tyIns [(iC [0]), (iC [0]), (iR [0]), iE],
  GX.spA tyIns (iR [0]),
  GX.spA tyIns iE,
  GX.spS tyIns [(iR [0]), iE],
  GX.spA tyIns (iC [1]),
  GX.spA tyIns (iR [1]),
  GX.spA tyIns iE,
  GX.spS tyIns [(iC [1]), (iR [1]), iE],
  GX.spA tyIns (iC [0, 1]),
  GX.spA tyIns iM,
  GX.spA tyIns (iR [0]),
  GX.spA tyIns (iR [1]),
  GX.spA tyIns iE,
  GX.spS tyIns [(iC [0, 1]), iM, (iR [0]), (iR [1]), iE],
  GX.spA tyIns (iC [0, 1]),
  GX.spA tyIns iM,
  GX.spA tyIns (iR [1]),
  GX.spA tyIns (iR [0]),
  GX.spA tyIns iE,
  GX.spS tyIns [(iC [0, 1]), iM, (iR [1]), (iR [0]), iE],
  GX.spA tyIns (iC [0]),
  GX.spA tyIns iN,
  GX.spA tyIns (iR [0]),
  GX.spA tyIns iG,
  GX.spA tyIns iE,
  GX.spS tyIns [(iC [0]), iN, (iR [0]), iG, iE],
  GX.spA tyIns (iC [0]),
  GX.spA tyIns iN,
  GX.spA tyIns (iR [0]),
  GX.spA tyIns iZ,
  GX.spA tyIns iG,
  GX.spA tyIns iE,
  GX.spS tyIns [(iC [0]), iN, (iR [0]), iZ, iG, iE],
  GX.spA tyIns iB,
  GX.spA tyIns (iC [0]),
  GX.spA tyIns (⟨16, 0, 0, 0, 2, []⟩ : Ins),
  GX.spS tyIns [iB, (iC [0]), (⟨16, 0, 0, 0, 2, []⟩ : Ins)],
  GX.spA tyIns (⟨16, 0, 0, 0, 0, []⟩ : Ins),
  GX.spS tyIns [(⟨16, 0, 0, 0, 0, []⟩ : Ins)],
  GX.spA tyIns iE,
  GX.spA tyIns iN,
  GX.spA tyIns iE,
  GX.spS tyIns [iE, iN, iE],
  GX.spA tyIns (iC [0, 1]),
  GX.spA tyIns iM,
  GX.spA tyIns iN,
  GX.spA tyIns iK,
  GX.spA tyIns (iR [0, 1]),
  GX.spA tyIns iH,
  GX.spA tyIns iE,
  GX.spS tyIns [(iC [0, 1]), iM, iN, iK, (iR [0, 1]), iH, iE],
  GX.spA tyIns (iC [0]),
  GX.spA tyIns iN,
  GX.spA tyIns (iR [0]),
  GX.spA tyIns (iC [0]),
  GX.spA tyIns iG,
  GX.spA tyIns (iR [0]),
  GX.spA tyIns iE,
  GX.spS tyIns [(iC [0]), iN, (iR [0]), (iC [0]), iG, (iR [0]), iE],
  GX.spA tyIns (iC [0]),
  GX.spA tyIns iN,
  GX.spA tyIns (iR [0]),
  GX.spA tyIns (iC [0]),
  GX.spA tyIns iN,
  GX.spA tyIns iG,
  GX.spA tyIns (iR [0]),
  GX.spA tyIns iE,
  GX.spS tyIns [(iC [0]), iN, (iR [0]), (iC [0]), iN, iG, (iR [0]), iE],
  GX.spA tyIns (iC [0, 1]),
  GX.spA tyIns iM,
  GX.spA tyIns iN,
  GX.spA tyIns iK,
  GX.spA tyIns iH,
  GX.spA tyIns iG,
  GX.spA tyIns (iR [0, 1]),
  GX.spA tyIns iE,
  GX.spS tyIns [(iC [0, 1]), iM, iN, iK, iH, iG, (iR [0, 1]), iE],
  GX.spA tyIns (iC [0]),
  GX.spA tyIns (iR [0]),
  GX.spA tyIns (iC [0]),
  GX.spA tyIns (iR [0]),
  GX.spA tyIns iE,
  GX.spS tyIns [(iC [0]), (iR [0]), (iC [0]), (iR [0]), iE],
  GX.spA tyIns iB,
  GX.spA tyIns (iC [0]),
  GX.spA tyIns (iR [0]),
  GX.spA tyIns iE,
  GX.spS tyIns [iB, (iC [0]), (iR [0]), iE],
  GX.spA tyIns iB,
  GX.spA tyIns (⟨1, 2, 0, 0, 0, []⟩ : Ins),
  GX.spA tyIns (iC [0]),
  GX.spA tyIns (iR [0]),
  GX.spA tyIns iE,
  GX.spS tyIns [iB, (⟨1, 2, 0, 0, 0, []⟩ : Ins), (iC [0]), (iR [0]), iE],
  GX.spS (Ty.slice tyIns) [[(iC [0]), iN, (iR [0]), iE], [(iC [0]), iE], [iN, iE], [(iC [0]), (iC [0]), (iR [0]), iE], [(iR [0]), iE], [(iC [1]), (iR [1]), iE], [(iC [0, 1]), iM, (iR [0]), (iR [1]), iE], [(iC [0, 1]), iM, (iR [1]), (iR [0]), iE], [(iC [0]), iN, (iR [0]), iG, iE], [(iC [0]), iN, (iR [0]), iZ, iG, iE], [iB, (iC [0]), (⟨16, 0, 0, 0, 2, []⟩ : Ins)], [(⟨16, 0, 0, 0, 0, []⟩ : Ins)], [iE, iN, iE], [(iC [0, 1]), iM, iN, iK, (iR [0, 1]), iH, iE], [(iC [0]), iN, (iR [0]), (iC [0]), iG, (iR [0]), iE], [(iC [0]), iN, (iR [0]), (iC [0]), iN, iG, (iR [0]), iE], [(iC [0, 1]), iM, iN, iK, iH, iG, (iR [0, 1]), iE], [(iC [0]), (iR [0]), (iC [0]), (iR [0]), iE], [iB, (iC [0]), (iR [0]), iE], [iB, (⟨1, 2, 0, 0, 0, []⟩ : Ins), (iC [0]), (iR [0]), iE]],
  GX.spS (Ty.slice tyIns) [[(iC [0]), iN, (iR [0]), iE], [(iC [0]), iE], [iN, iE], [(iC [0]), (iC [0]), (iR [0]), iE], [(iR [0]), iE], [(iC [1]), (iR [1]), iE], [(iC [0, 1]), iM, (iR [0]), (iR [1]), iE], [(iC [0, 1]), iM, (iR [1]), (iR [0]), iE], [(iC [0]), iN, (iR [0]), iG, iE], [(iC [0]), iN, (iR [0]), iZ, iG, iE], [iB, (iC [0]), (⟨16, 0, 0, 0, 2, []⟩ : Ins)], [(⟨16, 0, 0, 0, 0, []⟩ : Ins)], [iE, iN, iE], [(iC [0, 1]), iM, iN, iK, (iR [0, 1]), iH, iE], [(iC [0]), iN, (iR [0]), (iC [0]), iG, (iR [0]), iE], [(iC [0]), iN, (iR [0]), (iC [0]), iN, iG, (iR [0]), iE], [(iC [0, 1]), iM, iN, iK, iH, iG, (iR [0, 1]), iE], [(iC [0]), (iR [0]), (iC [0]), (iR [0]), iE], [iB, (iC [0]), (iR [0]), iE], [iB, (⟨1, 2, 0, 0, 0, []⟩ : Ins), (iC [0]), (iR [0]), iE]]]
def T28 : GX.JTab := ⟨fun i => T28Ds.getD i 0, fun i => T28Sp.getD i (GX.spS tyIns []), fun i => T28Need.getD i []⟩

set_option maxRecDepth 100000 in
theorem odd_tab : ∀ q ∈ L28.zip Y28, OneFew q.1 ∧ OneOk q.1 ∧ (∀ x ∈ q.1, x.op ≠ 13) ∧ (oneSim q.1).map (·.1) = some q.2 := by decide +kernel
theorem sim_is {ins : List Ins} {y : Bool} (h : OneFew ins ∧ OneOk ins ∧ (∀ x ∈ ins, x.op ≠ 13) ∧ (oneSim ins).map (·.1) = some y) : (decide (AccT (oneT ins)) == y) = true := by
  cases y with
  | true => rw [decide_eq_true (sim_yes h)]; rfl
  | false => rw [decide_eq_false (sim_no h)]; rfl
set_option maxHeartbeats 4000000 in
set_option maxRecDepth 10000 in
theorem guardOdd_does (a : Int) (_ : -9223372036854775808 ≤ a ∧ a ≤ 9223372036854775807) :
    Does Tryz.prog 4 [.int .i64 a] [] [] (fun _ : Unit => .bool true) (fun _ => []) (fun _ => []) := by
  refine enter Tryz.func4 rfl Tryz.ntmps4 rfl fun b => ?_
  refine GX.wR ?_; intros
  refine GX.nmP 3 ?_; rintro b3 rfl
  refine GX.nmP 4 ?_; rintro b4 rfl
  refine GX.nmP 5 ?_; rintro b5 rfl
  refine GX.nmP 6 ?_; rintro b6 rfl
  refine GX.nmP 7 ?_; rintro b7 rfl
  refine GX.nmP 8 ?_; rintro b8 rfl
  refine GX.nmP 9 ?_; rintro b9 rfl
  refine GX.nmP 10 ?_; rintro b10 rfl
  refine GX.nmP 11 ?_; rintro b11 rfl
  refine GX.nmP 12 ?_; rintro b12 rfl
  refine GX.nmP 13 ?_; rintro b13 rfl
  refine GX.nmP 14 ?_; rintro b14 rfl
  refine GX.nmP 15 ?_; rintro b15 rfl
  refine frzB b3 ?_
  refine frzB b4 ?_
  refine frzB b5 ?_
  refine frzB b6 ?_
  refine frzB b7 ?_
  refine frzB b8 ?_
  refine frzB b9 ?_
  refine frzB b10 ?_
  refine frzB b11 ?_
  refine frzB b12 ?_
  refine frzB b13 ?_
  refine frzB b14 ?_
  refine frzB b15 ?_
  refine GX.less [(0, .int .i64 a), (3, .pointer (some ⟨b3, 0, none⟩)), (4, .pointer (some ⟨b4, 0, none⟩)), (5, .pointer (some ⟨b5, 0, none⟩)), (6, .pointer (some ⟨b6, 0, none⟩)), (7, .pointer (some ⟨b7, 0, none⟩)), (8, .pointer (some ⟨b8, 0, none⟩)), (9, .pointer (some ⟨b9, 0, none⟩)), (10, .pointer (some ⟨b10, 0, none⟩)), (11, .pointer (some ⟨b11, 0, none⟩)), (12, .pointer (some ⟨b12, 0, none⟩)), (13, .pointer (some ⟨b13, 0, none⟩)), (14, .pointer (some ⟨b14, 0, none⟩)), (15, .pointer (some ⟨b15, 0, none⟩))] [Pt tyIns b3 0 (iC [0]), Pt tyIns b4 0 (iR [0]), Pt tyIns b5 0 (iC [0, 1]), Pt tyIns b6 0 (iR [0, 1]), Pt tyIns b7 0 (iC [1]), Pt tyIns b8 0 (iR [1]), Pt tyIns b9 0 (iN), Pt tyIns b10 0 (iM), Pt tyIns b11 0 (iG), Pt tyIns b12 0 (iH), Pt tyIns b13 0 (iK), Pt tyIns b14 0 (iZ), Pt tyIns b15 0 (iB)] [] ⟨rfl, rfl, rfl, rfl, rfl, rfl, rfl, rfl, rfl, rfl, rfl, rfl, rfl, rfl, trivial⟩ (GX.AllIn.sub (by repeat (first | apply Go.GX.AllIn.nil | apply Go.GX.AllIn.cons | apply Go.GX.InP.head | apply Go.GX.InP.tail))) (List.nil_sublist _) ?_
  refine GX.drawnJ T28 [(0, .int .i64 a), (3, .pointer (some ⟨b3, 0, none⟩)), (4, .pointer (some ⟨b4, 0, none⟩)), (5, .pointer (some ⟨b5, 0, none⟩)), (6, .pointer (some ⟨b6, 0, none⟩)), (7, .pointer (some ⟨b7, 0, none⟩)), (8, .pointer (some ⟨b8, 0, none⟩)), (9, .pointer (some ⟨b9, 0, none⟩)), (10, .pointer (some ⟨b10, 0, none⟩)), (11, .pointer (some ⟨b11, 0, none⟩)), (12, .pointer (some ⟨b12, 0, none⟩)), (13, .pointer (some ⟨b13, 0, none⟩)), (14, .pointer (some ⟨b14, 0, none⟩)), (15, .pointer (some ⟨b15, 0, none⟩))] [110] (by kernel_rfl) ⟨rfl, rfl, rfl, rfl, rfl, rfl, rfl, rfl, rfl, rfl, rfl, rfl, rfl, rfl, trivial⟩ ?_ rfl (fun v => ?_)
  · exact ⟨GX.kLd (s := 3) (bl := b3) rfl (by simp) rfl rfl rfl rfl,
      GX.kLd (s := 9) (bl := b9) rfl (by simp) rfl rfl rfl rfl,
      GX.kLd (s := 4) (bl := b4) rfl (by simp) rfl rfl rfl rfl,
      GX.kCall ret28_spec rfl rfl rfl,
      GX.kBs (js := [0, 1, 2, 3]) (.cons (GX.itA rfl) (.cons (GX.itA rfl) (.cons (GX.itA rfl) (.cons (GX.itA rfl) .nil)))) rfl rfl rfl rfl rfl rfl rfl rfl rfl,
      GX.kLd (s := 3) (bl := b3) rfl (by simp) rfl rfl rfl rfl,
      GX.kCall ret28_spec rfl rfl rfl,
      GX.kBs (js := [5, 6]) (.cons (GX.itA rfl) (.cons (GX.itA rfl) .nil)) rfl rfl rfl rfl rfl rfl rfl rfl rfl,
      GX.kLd (s := 9) (bl := b9) rfl (by simp) rfl rfl rfl rfl,
      GX.kCall ret28_spec rfl rfl rfl,
      GX.kBs (js := [8, 9]) (.cons (GX.itA rfl) (.cons (GX.itA rfl) .nil)) rfl rfl rfl rfl rfl rfl rfl rfl rfl,
      GX.kLd (s := 3) (bl := b3) rfl (by simp) rfl rfl rfl rfl,
      GX.kLd (s := 3) (bl := b3) rfl (by simp) rfl rfl rfl rfl,
      GX.kLd (s := 4) (bl := b4) rfl (by simp) rfl rfl rfl rfl,
      GX.kCall ret28_spec rfl rfl rfl,
      GX.kBs (js := [11, 12, 13, 14]) (.cons (GX.itA rfl) (.cons (GX.itA rfl) (.cons (GX.itA rfl) (.cons (GX.itA rfl) .nil)))) rfl rfl rfl rfl rfl rfl rfl rfl rfl,
      GX.kLd (s := 4) (bl := b4) rfl (by simp) rfl rfl rfl rfl,
      GX.kCall ret28_spec rfl rfl rfl,
      GX.kBs (js := [16, 17]) (.cons (GX.itA rfl) (.cons (GX.itA rfl) .nil)) rfl rfl rfl rfl rfl rfl rfl rfl rfl,
      GX.kLd (s := 7) (bl := b7) rfl (by simp) rfl rfl rfl rfl,
      GX.kLd (s := 8) (bl := b8) rfl (by simp) rfl rfl rfl rfl,
      GX.kCall ret28_spec rfl rfl rfl,
      GX.kBs (js := [19, 20, 21]) (.cons (GX.itA rfl) (.cons (GX.itA rfl) (.cons (GX.itA rfl) .nil))) rfl rfl rfl rfl rfl rfl rfl rfl rfl,
      GX.kLd (s := 5) (bl := b5) rfl (by simp) rfl rfl rfl rfl,
      GX.kLd (s := 10) (bl := b10) rfl (by simp) rfl rfl rfl rfl,
      GX.kLd (s := 4) (bl := b4) rfl (by simp) rfl rfl rfl rfl,
      GX.kLd (s := 8) (bl := b8) rfl (by simp) rfl rfl rfl rfl,
      GX.kCall ret28_spec rfl rfl rfl,
      GX.kBs (js := [23, 24, 25, 26, 27]) (.cons (GX.itA rfl) (.cons (GX.itA rfl) (.cons (GX.itA rfl) (.cons (GX.itA rfl) (.cons (GX.itA rfl) .nil))))) rfl rfl rfl rfl rfl rfl rfl rfl rfl,
      GX.kLd (s := 5) (bl := b5) rfl (by simp) rfl rfl rfl rfl,
      GX.kLd (s := 10) (bl := b10) rfl (by simp) rfl rfl rfl rfl,
      GX.kLd (s := 8) (bl := b8) rfl (by simp) rfl rfl rfl rfl,
      GX.kLd (s := 4) (bl := b4) rfl (by simp) rfl rfl rfl rfl,
      GX.kCall ret28_spec rfl rfl rfl,
      GX.kBs (js := [29, 30, 31, 32, 33]) (.cons (GX.itA rfl) (.cons (GX.itA rfl) (.cons (GX.itA rfl) (.cons (GX.itA rfl) (.cons (GX.itA rfl) .nil))))) rfl rfl rfl rfl rfl rfl rfl rfl rfl,
      GX.kLd (s := 3) (bl := b3) rfl (by simp) rfl rfl rfl rfl,
      GX.kLd (s := 9) (bl := b9) rfl (by simp) rfl rfl rfl rfl,
      GX.kLd (s := 4) (bl := b4) rfl (by simp) rfl rfl rfl rfl,
      GX.kLd (s := 11) (bl := b11) rfl (by simp) rfl rfl rfl rfl,
      GX.kCall ret28_spec rfl rfl rfl,
      GX.kBs (js := [35, 36, 37, 38, 39]) (.cons (GX.itA rfl) (.cons (GX.itA rfl) (.cons (GX.itA rfl) (.cons (GX.itA rfl) (.cons (GX.itA rfl) .nil))))) rfl rfl rfl rfl rfl rfl rfl rfl rfl,
      GX.kLd (s := 3) (bl := b3) rfl (by simp) rfl rfl rfl rfl,
      GX.kLd (s := 9) (bl := b9) rfl (by simp) rfl rfl rfl rfl,
      GX.kLd (s := 4) (bl := b4) rfl (by simp) rfl rfl rfl rfl,
      GX.kLd (s := 14) (bl := b14) rfl (by simp) rfl rfl rfl rfl,
      GX.kLd (s := 11) (bl := b11) rfl (by simp) rfl rfl rfl rfl,
      GX.kCall ret28_spec rfl rfl rfl,
      GX.kBs (js := [41, 42, 43, 44, 45, 46]) (.cons (GX.itA rfl) (.cons (GX.itA rfl) (.cons (GX.itA rfl) (.cons (GX.itA rfl) (.cons (GX.itA rfl) (.cons (GX.itA rfl) .nil)))))) rfl rfl rfl rfl rfl rfl rfl rfl rfl,
      GX.kLd (s := 15) (bl := b15) rfl (by simp) rfl rfl rfl rfl,
      GX.kLd (s := 3) (bl := b3) rfl (by simp) rfl rfl rfl rfl,
      GX.kBd (parts := [(0, .const (.int .i64 16)), (4, .const (.int .i64 2))]) (cs0 := [.int .i64 16, .int .i64 0, .int .i64 0, .int .i64 0, .int .i64 2, .slice none 0 0]) rfl (by intro w; simp [Instr.build, Instr.fill, Go.Value.cells] <;> rfl) GX.Rds.r rfl rfl rfl,
      GX.kBs (js := [48, 49, 50]) (.cons (GX.itA rfl) (.cons (GX.itA rfl) (.cons (GX.itA rfl) .nil))) rfl rfl rfl rfl rfl rfl rfl rfl rfl,
      GX.kBd (parts := [(0, .const (.int .i64 16))]) (cs0 := [.int .i64 16, .int .i64 0, .int .i64 0, .int .i64 0, .int .i64 0, .slice none 0 0]) rfl (by intro w; simp [Instr.build, Instr.fill, Go.Value.cells] <;> rfl) GX.Rds.r rfl rfl rfl,
      GX.kBs (js := [52]) (.cons (GX.itA rfl) .nil) rfl rfl rfl rfl rfl rfl rfl rfl rfl,
      GX.kCall ret28_spec rfl rfl rfl,
      GX.kLd (s := 9) (bl := b9) rfl (by simp) rfl rfl rfl rfl,
      GX.kCall ret28_spec rfl rfl rfl,
      GX.kBs (js := [54, 55, 56]) (.cons (GX.itA rfl) (.cons (GX.itA rfl) (.cons (GX.itA rfl) .nil))) rfl rfl rfl rfl rfl rfl rfl rfl rfl,
      GX.kLd (s := 5) (bl := b5) rfl (by simp) rfl rfl rfl rfl,
      GX.kLd (s := 10) (bl := b10) rfl (by simp) rfl rfl rfl rfl,
      GX.kLd (s := 9) (bl := b9) rfl (by simp) rfl rfl rfl rfl,
      GX.kLd (s := 13) (bl := b13) rfl (by simp) rfl rfl rfl rfl,
      GX.kLd (s := 6) (bl := b6) rfl (by simp) rfl rfl rfl rfl,
      GX.kLd (s := 12) (bl := b12) rfl (by simp) rfl rfl rfl rfl,
      GX.kCall ret28_spec rfl rfl rfl,
      GX.kBs (js := [58, 59, 60, 61, 62, 63, 64]) (.cons (GX.itA rfl) (.cons (GX.itA rfl) (.cons (GX.itA rfl) (.cons (GX.itA rfl) (.cons (GX.itA rfl) (.cons (GX.itA rfl) (.cons (GX.itA rfl) .nil))))))) rfl rfl rfl rfl rfl rfl rfl rfl rfl,
      GX.kLd (s := 3) (bl := b3) rfl (by simp) rfl rfl rfl rfl,
      GX.kLd (s := 9) (bl := b9) rfl (by simp) rfl rfl rfl rfl,
      GX.kLd (s := 4) (bl := b4) rfl (by simp) rfl rfl rfl rfl,
      GX.kLd (s := 3) (bl := b3) rfl (by simp) rfl rfl rfl rfl,
      GX.kLd (s := 11) (bl := b11) rfl (by simp) rfl rfl rfl rfl,
      GX.kLd (s := 4) (bl := b4) rfl (by simp) rfl rfl rfl rfl,
      GX.kCall ret28_spec rfl rfl rfl,
      GX.kBs (js := [66, 67, 68, 69, 70, 71, 72]) (.cons (GX.itA rfl) (.cons (GX.itA rfl) (.cons (GX.itA rfl) (.cons (GX.itA rfl) (.cons (GX.itA rfl) (.cons (GX.itA rfl) (.cons (GX.itA rfl) .nil))))))) rfl rfl rfl rfl rfl rfl rfl rfl rfl,
      GX.kLd (s := 3) (bl := b3) rfl (by simp) rfl rfl rfl rfl,
      GX.kLd (s := 9) (bl := b9) rfl (by simp) rfl rfl rfl rfl,
      GX.kLd (s := 4) (bl := b4) rfl (by simp) rfl rfl rfl rfl,
      GX.kLd (s := 3) (bl := b3) rfl (by simp) rfl rfl rfl rfl,
      GX.kLd (s := 9) (bl := b9) rfl (by simp) rfl rfl rfl rfl,
      GX.kLd (s := 11) (bl := b11) rfl (by simp) rfl rfl rfl rfl,
      GX.kLd (s := 4) (bl := b4) rfl (by simp) rfl rfl rfl rfl,
      GX.kCall ret28_spec rfl rfl rfl,
      GX.kBs (js := [74, 75, 76, 77, 78, 79, 80, 81]) (.cons (GX.itA rfl) (.cons (GX.itA rfl) (.cons (GX.itA rfl) (.cons (GX.itA rfl) (.cons (GX.itA rfl) (.cons (GX.itA rfl) (.cons (GX.itA rfl) (.cons (GX.itA rfl) .nil)))))))) rfl rfl rfl rfl rfl rfl rfl rfl rfl,
      GX.kLd (s := 5) (bl := b5) rfl (by simp) rfl rfl rfl rfl,
      GX.kLd (s := 10) (bl := b10) rfl (by simp) rfl rfl rfl rfl,
      GX.kLd (s := 9) (bl := b9) rfl (by simp) rfl rfl rfl rfl,
      GX.kLd (s := 13) (bl := b13) rfl (by simp) rfl rfl rfl rfl,
      GX.kLd (s := 12) (bl := b12) rfl (by simp) rfl rfl rfl rfl,
      GX.kLd (s := 11) (bl := b11) rfl (by simp) rfl rfl rfl rfl,
      GX.kLd (s := 6) (bl := b6) rfl (by simp) rfl rfl rfl rfl,
      GX.kCall ret28_spec rfl rfl rfl,
      GX.kBs (js := [83, 84, 85, 86, 87, 88, 89, 90]) (.cons (GX.itA rfl) (.cons (GX.itA rfl) (.cons (GX.itA rfl) (.cons (GX.itA rfl) (.cons (GX.itA rfl) (.cons (GX.itA rfl) (.cons (GX.itA rfl) (.cons (GX.itA rfl) .nil)))))))) rfl rfl rfl rfl rfl rfl rfl rfl rfl,
      GX.kLd (s := 3) (bl := b3) rfl (by simp) rfl rfl rfl rfl,
      GX.kLd (s := 4) (bl := b4) rfl (by simp) rfl rfl rfl rfl,
      GX.kLd (s := 3) (bl := b3) rfl (by simp) rfl rfl rfl rfl,
      GX.kLd (s := 4) (bl := b4) rfl (by simp) rfl rfl rfl rfl,
      GX.kCall ret28_spec rfl rfl rfl,
      GX.kBs (js := [92, 93, 94, 95, 96]) (.cons (GX.itA rfl) (.cons (GX.itA rfl) (.cons (GX.itA rfl) (.cons (GX.itA rfl) (.cons (GX.itA rfl) .nil))))) rfl rfl rfl rfl rfl rfl rfl rfl rfl,
      GX.kLd (s := 15) (bl := b15) rfl (by simp) rfl rfl rfl rfl,
      GX.kLd (s := 3) (bl := b3) rfl (by simp) rfl rfl rfl rfl,
      GX.kLd (s := 4) (bl := b4) rfl (by simp) rfl rfl rfl rfl,
      GX.kCall ret28_spec rfl rfl rfl,
      GX.kBs (js := [98, 99, 100, 101]) (.cons (GX.itA rfl) (.cons (GX.itA rfl) (.cons (GX.itA rfl) (.cons (GX.itA rfl) .nil)))) rfl rfl rfl rfl rfl rfl rfl rfl rfl,
      GX.kLd (s := 15) (bl := b15) rfl (by simp) rfl rfl rfl rfl,
      GX.kBd (parts := [(0, .const (.int .i64 1)), (1, .const (.int .i64 2))]) (cs0 := [.int .i64 1, .int .i64 2, .int .i64 0, .int .i64 0, .int .i64 0, .slice none 0 0]) rfl (by intro w; simp [Instr.build, Instr.fill, Go.Value.cells] <;> rfl) GX.Rds.r rfl rfl rfl,
      GX.kLd (s := 3) (bl := b3) rfl (by simp) rfl rfl rfl rfl,
      GX.kLd (s := 4) (bl := b4) rfl (by simp) rfl rfl rfl rfl,
      GX.kCall ret28_spec rfl rfl rfl,
      GX.kBs (js := [103, 104, 105, 106, 107]) (.cons (GX.itA rfl) (.cons (GX.itA rfl) (.cons (GX.itA rfl) (.cons (GX.itA rfl) (.cons (GX.itA rfl) .nil))))) rfl rfl rfl rfl rfl rfl rfl rfl rfl,
      GX.kBs (js := [4, 7, 10, 15, 18, 22, 28, 34, 40, 47, 51, 53, 57, 65, 73, 82, 91, 97, 102, 108]) (.cons (GX.itS rfl) (.cons (GX.itS rfl) (.cons (GX.itS rfl) (.cons (GX.itS rfl) (.cons (GX.itS rfl) (.cons (GX.itS rfl) (.cons (GX.itS rfl) (.cons (GX.itS rfl) (.cons (GX.itS rfl) (.cons (GX.itS rfl) (.cons (GX.itS rfl) (.cons (GX.itS rfl) (.cons (GX.itS rfl) (.cons (GX.itS rfl) (.cons (GX.itS rfl) (.cons (GX.itS rfl) (.cons (GX.itS rfl) (.cons (GX.itS rfl) (.cons (GX.itS rfl) (.cons (GX.itS rfl) .nil)))))))))))))))))))) rfl rfl rfl rfl rfl rfl rfl rfl rfl,
      GX.kAs (j := 109) rfl rfl rfl rfl, trivial⟩
  change GX.G _ ((16, .slice (v 110).ao L28.length (v 110).cap) :: _) _ (Sl (Ty.slice tyIns) (v 110).ao (v 110).cap L28 :: _) _ _
  generalize (v 110).ao = a16
  generalize (v 110).cap = c16
  have hL : L28.length = 20 := rfl
  have hY : Y28.length = 20 := rfl
  by_cases h1 : a < 0
  · refine GX.wR ?_; intros
    exact rt1 () rfl
  by_cases h2 : (20 : Int) ≤ a
  · refine GX.wR ?_; intros
    exact rt1 () rfl
  obtain ⟨k, rfl⟩ := Int.eq_ofNat_of_zero_le (show 0 ≤ a by omega)
  obtain ⟨ins, hi⟩ := get_lt (show k < L28.length by omega)
  obtain ⟨y, hy⟩ := get_lt (show k < Y28.length by omega)
  have hq := odd_tab (ins, y) (List.mem_of_getElem? (i := k) (by rw [List.getElem?_zip_eq_some]; exact ⟨hi, hy⟩))
  have hs := sim_is hq
  have hR2 : RightP (oneT ins) := one_right.2 hq.2.1
  have hT := one_tiny hq.1
  refine GX.wR ?_; intros
  refine GX.nmS 160 ?_; rintro a160 c160 rfl rfl
  refine GX.o (cl (one28_spec a160 c160 ins) fun c161 => ?_)
  have hy2 : [true, false, false, false, false, false, false, true, false, true, false, true, true, false, false, true, true, true, false, true][k]? = some y := hy
  refine GX.wR ?_; intros
  refine GX.nmP 18 ?_; rintro b18 rfl
  refine GX.nmB 17 ?_; rintro b17 rfl
  refine GX.slPt (bl := b17) k k ?_
  refine frzB b18 ?_
  refine GX.drawn0  (fun j => !(List.contains [1, 12] j)) [(0, true), (1, false), (2, true), (3, true), (5, true), (6, true), (7, true), (8, true), (4, false), (9, true), (10, true), (11, true), (12, false), (13, true), (14, true)] rfl (by kernel_rfl) (by kernel_rfl) (by first | ((repeat (first | apply Go.GX.SelR.nil | apply Go.GX.SelR.cons | (with_reducible apply Go.GX.TakeR.head) | apply Go.GX.TakeR.tail)); done) | (repeat (first | apply Go.GX.SelR.nil | apply Go.GX.SelR.cons | apply Go.GX.TakeR.head | apply Go.GX.TakeR.tail))) ?_; intro wd F hW hR
  refine GX.wT ?_; intros
  refine GX.nmA 162 ?_; rintro c162 rfl
  refine GX.gow ?_
  refine (cl (rright_spec c162 (oneT ins) hT.small) fun _ => ?_)
  refine GX.wT ?_; intros
  refine GX.nmA 165 ?_; rintro c165 rfl
  refine GX.gow ?_
  refine (cl (accepts_spec c165 (oneT ins) hT) fun _ => ?_)
  refine GX.wT ?_; intros
  refine GX.gow ?_
  refine (cl known28_spec fun _ => ?_)
  refine GX.wT ?_; intros
  refine GX.wR ?_; intros
  exact rt1 () rfl

theorem guardOdd_own : ownKnob Tryz.prog.godebug = none := by kernel_rfl
theorem guardOdd_laidOut : laidOutB Tryz.prog = true := by kernel_rfl
set_option maxRecDepth 100000 in
theorem guardOdd_lifted (os : Os) (started : os.Started) (H : Type) (enc : TypeId × Value → H) :
    ReturnsInHanded {} Tryz.checked os 4 .any (Rows.guardOddSpec.pre6 enc Tryz.prog Tryz.f4 Rows.guardOddRow.domain false) (Rows.guardOddSpec.post enc Tryz.prog Tryz.f4 false true false false) := by
  refine returnsInHanded_of_change (C := Tryz.checked) guardOdd_own started (by kernel_rfl) Tryz.func4
    (ChangeSpec.witness6 (enc := enc) (C := Tryz.checked) false ⟨#[], #[.int .i64 0], []⟩ 8 (by kernel_rfl) (by kernel_rfl) (by kernel_rfl) (by kernel_rfl)) ?_
  intro W base args ds gs before hval0 hW hcnd _
  have hval : ∀ (j : Nat) t v, Tryz.f4.params[j]? = some t → args[j]? = some v → Value.okWide Tryz.prog W .any base t v := hval0
  have hW' := hW
  obtain ⟨p, q, hA0, hV, rfl, hfz, hnd⟩ := hW
  have hA : DataW.TrodAll enc Tryz.prog W 0 (fun _ => true) true Tryz.f4.params.toList args.toList ds p := hA0
  rw [Tryz.params4] at hA hval
  obtain ⟨v0, vs0, d0, ds0, p0, q0, hargs, rfl, rfl, h0, r0⟩ := trodAll_cons hA
  obtain ⟨rfl, rfl, rfl⟩ := trodAll_nil r0
  obtain rfl : args = #[v0] := by cases args; simp_all
  obtain ⟨rfl, rfl⟩ := trodVars_none hV
  have hlt := hW'.lt
  have hl0 : ∀ x ∈ p0, x.block < W.heap.size := fun x hx => hlt x (by simp [hx])
  obtain ⟨a0, rfl, e0, g0, w0⟩ := open_int Tryz.underlying3 (hval 0 3 v0 rfl rfl) h0
  have b0 : -9223372036854775808 ≤ a0 ∧ a0 ≤ 9223372036854775807 := wf_i64 w0
  refine ((guardOdd_does a0 b0).calls W all_nil).mono fun e W' ⟨he, hu⟩ => ?_
  subst he
  have hb := hu.below
  exact ⟨_, rfl, _, _, _, [], _, [], hW', trodAll_cons_mk (shut_bool Tryz.underlying4 _) trodAll_mk0, (trodAll_cons_mk (hb.trod guardOdd_laidOut (by kernel_rfl) (of_decide_eq_true (by kernel_rfl)) h0 hl0) trodAll_mk0), rfl, hb.frame _, fun h => by cases h⟩
theorem guardOdd_holds : Rows.GuardOddSaid :=
  OpenClaim.holds_of_wide 4 Tryz.f4 rfl rfl rfl rfl rfl rfl rfl ⟨rfl, rfl, rfl, rfl, rfl⟩ rfl rfl rfl rfl rfl (by kernel_rfl) Tryz.func4 (by kernel_rfl)
    (of_decide_eq_true (by kernel_rfl)) (by unfold Func.isWrapper; first | (rw [if_pos (by decide +kernel)]; kernel_rfl) | (rw [if_neg (by decide +kernel)]; exact ⟨rfl, rfl⟩))
    (fun os started H enc _ => guardOdd_lifted os started H enc)
end Go.Proofs.YtomfpmbapdhbgaaGreat
