import Derived.Test.YtkagjpkgboeaiaaR1
import Derived.Test.YtkagjpkgboeaiaaR2
import Derived.Test.YtkagjpkgboeaiaaR3
import Derived.Test.YtkagjpkgboeaiaaR4
import Derived.Test.YtkagjpkgboeaiaaR5
import Derived.Test.YtkagjpkgboeaiaaR6
import Derived.Test.YtkagjpkgboeaiaaR7
import Derived.Test.YtkagjpkgboeaiaaR8
import Derived.Test.YtkagjpkgboeaiaaR9
import Derived.Test.YtkagjpkgboeaiaaR10
import Derived.Test.YtkagjpkgboeaiaaR11
import Derived.Test.YtkagjpkgboeaiaaR12
import Derived.Test.YtkagjpkgboeaiaaR13
import Derived.Test.YtkagjpkgboeaiaaR14
import Derived.Test.YtkagjpkgboeaiaaR15
import Derived.Test.YtkagjpkgboeaiaaR16
import Derived.Test.YtkagjpkgboeaiaaR17
import Derived.Test.YtkagjpkgboeaiaaR18
import Derived.Test.YtkagjpkgboeaiaaR19
import Derived.Test.YtkagjpkgboeaiaaR20
import Derived.Test.YtkagjpkgboeaiaaR21
import Derived.Test.YtkagjpkgboeaiaaR22
import Derived.Test.YtkagjpkgboeaiaaR23
/- SolveLeast: for all numbers, constraints and turns the law returns true; its arguments read as before. No condition. -/
namespace Go.Proofs.Ytkagjpkgboeaiaa
open Go Go.RR Go.RX Go.GX Go.Api Go.RiseM Go.SolM Go.ChangeShapes Go.WideShapes Go.ChangeAt Go.RowKit
attribute [local irreducible] wpList Code.wp wpPlan Exit.then Exit.inBlock bodyPost NoPanic Went GX.Post GX.Again GX.Meet GX.RowR GX.Own GX.Owns GX.Box GX.Sl GX.Pt GX.Ag GX.MapR GX.Kept GX.Pin wpT GoK AtEnd Both
theorem wrapM64 {n : Int} (h : -9223372036854775808 ≤ n ∧ n ≤ 9223372036854775807) : IntKind.i64.wrap n = n := by
  have e : IntKind.i64.wrap n = if 9223372036854775808 ≤ n % 18446744073709551616 then n % 18446744073709551616 - 18446744073709551616 else n % 18446744073709551616 := by
    simp [IntKind.wrap, IntKind.signed, IntKind.bits]
  rw [e]; split <;> omega
theorem andM20 (n : Int) : ∃ k : Nat, bAnd .i64 n 1048575 = (k : Int) ∧ k ≤ 1048575 := by
  refine ⟨(BitVec.ofInt 64 n &&& BitVec.ofInt 64 1048575).toNat, ?_, ?_⟩
  · have h : (BitVec.ofInt 64 n &&& BitVec.ofInt 64 1048575).toNat ≤ 1048575 := by
      rw [BitVec.toNat_and]
      exact Nat.le_trans Nat.and_le_right (by decide)
    show IntKind.i64.wrap (((BitVec.ofInt 64 n &&& BitVec.ofInt 64 1048575).toNat : Nat) : Int) = _
    exact wrapM64 ⟨by omega, by omega⟩
  · rw [BitVec.toNat_and]
    exact Nat.le_trans Nat.and_le_right (by decide)
set_option maxHeartbeats 4000000 in
theorem solveLeast_does (N : Int) (_ : I64 N) (S : Int) (_ : I64 S) (W : Int) (_ : I64 W) (ao : Option Addr) (cap : Nat) (l : List Con) (_ : ∀ x ∈ l, Con.ok x) (turn : Int) (_ : I64 turn) : Does Try.prog 5 [.int .i64 N, .int .i64 S, .int .i64 W, .slice ao l.length cap, .int .i64 turn] [Sl tyCon ao cap l] [] (fun _ : Unit => .bool true) (fun _ => []) (fun _ => []) := by
  refine enter Try.func5 rfl Try.ntmps5 rfl fun b => ?_
  refine sln ao fun h1 _ _ => ?_
  by_cases hn : 60 < N ∧ N ≤ 70000
  · obtain ⟨hn1, hn2⟩ := hn
    refine GX.wbR ?_; intros
    exact rt1 () rfl
  by_cases h60 : 60 < (l.length : Int)
  · by_cases hn1 : 60 < N
    · have hn2 : ¬ N ≤ 70000 := fun h => hn ⟨hn1, h⟩
      refine GX.wbR ?_; intros
      exact rt1 () rfl
    · refine GX.wbR ?_; intros
      exact rt1 () rfl
  refine GX.wbRN ?_; intros
  apply GX.region
  refine GX.wbRN ?_; intros
  refine GX.cut (σ := Unit) (fun _ => [(0, .int .i64 N), (1, .int .i64 S), (2, .int .i64 W), (3, .slice ao l.length cap), (4, .int .i64 turn), (29, .bool false)]) (fun _ => []) (fun _ => []) (fun _ => True) ?_ (fun _ _ => ?_)
  · by_cases hn1 : 60 < N
    · have hn2 : ¬ N ≤ 70000 := fun h => hn ⟨hn1, h⟩
      refine GX.wbR ?_; intros
      exact meet () ⟨rfl, rfl, rfl, rfl, rfl, congrArg (fun b => some (Value.bool b)) (decide_eq_false h60), trivial⟩ trivial
    · refine GX.wbR ?_; intros
      exact meet () ⟨rfl, rfl, rfl, rfl, rfl, congrArg (fun b => some (Value.bool b)) (decide_eq_false h60), trivial⟩ trivial
  refine GX.wbRA ?_; intros
  refine GX.o (cl (pointsO_spec ao cap l N S W (by omega)) fun s => ?_)
  obtain ⟨y, a1, c1, X, a2, c2, L, hP, x1, x2⟩ := s
  dsimp only
  obtain ⟨_, rfl, rfl, rfl⟩ | ⟨hF, rfl, hp⟩ := hP.symm
  · obtain rfl : c1 = 0 := x1.symm
    obtain rfl : c2 = 0 := x2.symm
    refine GX.wbRA ?_; intros
    refine GX.o (cl known20_spec fun _ => ?_)
    refine GX.wbRA ?_; intros
    exact rt1 () rfl
  obtain ⟨⟨hN, hS, hW⟩, hl⟩ := hF
  obtain ⟨n, rfl⟩ := Int.eq_ofNat_of_zero_le hN.1
  obtain ⟨s, rfl⟩ := Int.eq_ofNat_of_zero_le hS.1
  obtain ⟨w, rfl⟩ := Int.eq_ofNat_of_zero_le hW.1
  obtain ⟨d, hd1, hd2, hd3⟩ : ∃ d : Dim, d.N = n ∧ d.S = s ∧ d.W = w := ⟨⟨n, s, w⟩, rfl, rfl, rfl⟩
  subst hd1; subst hd2; subst hd3
  have hdd : (⟨(d.N : Int).toNat, (d.S : Int).toNat, (d.W : Int).toNat⟩ : Dim) = d := by simp
  rw [hdd] at hl hp
  have hsh : Shape d ⟨X, L.map (·.2.2)⟩ := hp ▸ pts_shape d l
  have hc1 : c1 = d.N := by rw [← x1]; exact hsh.n
  have hc2 : c2 = d.S := by rw [← x2]; have := hsh.s; rwa [List.length_map] at this
  refine GX.wbRA ?_; intros
  refine GX.nmP 11 ?_; rintro b11 rfl
  refine GX.o (cl (rFitsO_spec a1 a2 c1 c2 X L x1 x2 ao cap l) fun _ => ?_)
  rw [decide_eq_true (show FitsP ⟨X, L.map (·.2.2)⟩ l by rw [hp]; exact pts_fits hl)]
  have hXe : X = (List.range d.N).map (listOf d l) := congrArg Points.nodes hp
  have hFe : L.map (·.2.2) = (List.range d.S).map (fieldsOf d l) := congrArg Points.fields hp
  refine GX.wbRA ?_; intros
  obtain ⟨k0, hk0, hk1⟩ := andM20 turn
  rw [hk0]
  refine GX.loop (σ := Nat × Nat) (fun s => [(3, .slice ao l.length cap), (11, .pointer (some ⟨b11, 0, none⟩)), (13, .int .i64 (s.1 : Int)), (14, .int .i64 (s.2 : Int))]) (fun _ => []) (fun _ => [RowR b11 26 [.slice a1 c1 c1, .slice a2 c2 c2], GX.Own 35 (Ty.slice Ty.int) a1 c1 X, GX.Own 23 Ty.hdr a2 c2 (L.map GX.hd), Owns 35 (Ty.slice Ty.int) L]) (fun s => s.1 ≤ 1048575 ∧ s.2 ≤ c1) (fun s => c1 - s.2) (k0, 0) ⟨rfl, rfl, rfl, rfl, trivial⟩ ⟨hk1, by simp⟩ (fun s hs => ?_)
  obtain ⟨k, i⟩ := s
  obtain ⟨hk, hi⟩ := hs
  dsimp only at *
  by_cases hlt : i < c1
  · obtain ⟨y, hy⟩ := get_lt (show i < X.length by omega)
    refine GX.opn a1 fun _ _ ha => ?_
    obtain ⟨h9, _⟩ | ⟨g1, rfl⟩ := ha
    · rw [h9] at hy; simp at hy
    by_cases hky : k < y.length
    · have hbr := breaks_node hl hp hy hky
      refine GX.wbRA ?_; intros
      refine GX.drawn2 (RowR b11 26 [.slice (some ⟨g1, 0, none⟩) c1 c1, .slice a2 c2 c2]) (GX.Own 35 (Ty.slice Ty.int) (some ⟨g1, 0, none⟩) c1 X) (fun j => !(List.contains [21] j)) [(0, true), (1, true), (2, true), (3, true), (4, true), (5, true), (6, true), (7, true), (8, true), (9, true), (11, true), (12, true), (13, true), (14, true), (15, true), (16, true), (17, true), (18, true), (10, false), (19, false), (20, true), (21, false)] rfl (by kernel_rfl) (by kernel_rfl) (by first | ((repeat (first | apply Go.GX.SelR.nil | apply Go.GX.SelR.cons | (with_reducible apply Go.GX.TakeR.head) | apply Go.GX.TakeR.tail)); done) | (repeat (first | apply Go.GX.SelR.nil | apply Go.GX.SelR.cons | apply Go.GX.TakeR.head | apply Go.GX.TakeR.tail))) ?_; intro wd F hW hR
      refine GX.wbT ?_; intros
      simp only [Int.toNat_natCast]
      have hyl : y.length ≤ 60 := by
        have hm := List.mem_of_getElem? hy
        rw [hXe, List.mem_map] at hm
        obtain ⟨a, _, rfl⟩ := hm
        have := listOf_len d l a
        omega
      have hl1 : (y.take k).length ≤ 60 := by rw [List.length_take]; omega
      have hl2 : (y.drop (k + 1)).length ≤ 60 := by rw [List.length_drop]; omega
      refine GX.wbT ?_; intros
      refine GX.nmS 106 ?_; rintro a6 c6 rfl rfl
      refine frz a6 ?_
      refine GX.unpin (RowR b11 26 [.slice (some ⟨g1, 0, none⟩) c1 c1, .slice a2 c2 c2]) ?_
      refine GX.unpin (GX.Own 35 (Ty.slice Ty.int) (some ⟨g1, 0, none⟩) c1 X) ?_
      refine GX.wbT ?_; intros
      refine GX.wbRA ?_; intros
      refine GX.o (cl (rFitsO_spec (some ⟨g1, 0, none⟩) a2 c1 c2 (X.set i (y.take k ++ y.drop (k + 1))) L (by rw [List.length_set]; exact x1) x2 ao cap l) fun _ => ?_)
      rw [decide_eq_false (show ¬ FitsP ⟨X.set i (y.take k ++ y.drop (k + 1)), L.map (·.2.2)⟩ l from hbr)]
      refine GX.wbRA ?_; intros
      refine GX.o (cl known20_spec fun _ => ?_)
      refine GX.wbRA ?_; intros
      exact rt1 () rfl
    · refine GX.wbRA ?_; intros
      rw [show ((k : Nat) : Int) - ((y.length : Nat) : Int) = ((k - y.length : Nat) : Int) by omega]
      exact again (k - y.length, i + 1) ⟨rfl, rfl, rfl, rfl, trivial⟩ ⟨by dsimp only; omega, by dsimp only; omega⟩ (by dsimp only; omega)
  refine GX.wbRA ?_; intros
  refine GX.loop (σ := Nat × Nat) (fun s => [(3, .slice ao l.length cap), (11, .pointer (some ⟨b11, 0, none⟩)), (13, .int .i64 (s.1 : Int)), (16, .int .i64 (s.2 : Int))]) (fun _ => []) (fun _ => [RowR b11 26 [.slice a1 c1 c1, .slice a2 c2 c2], GX.Own 35 (Ty.slice Ty.int) a1 c1 X, GX.Own 23 Ty.hdr a2 c2 (L.map GX.hd), Owns 35 (Ty.slice Ty.int) L]) (fun s => s.1 ≤ 1048575 ∧ s.2 ≤ c2) (fun s => c2 - s.2) (k, 0) ⟨rfl, rfl, rfl, rfl, trivial⟩ ⟨hk, by simp⟩ (fun s hs => ?_)
  obtain ⟨k, i⟩ := s
  obtain ⟨hk, hi⟩ := hs
  dsimp only at *
  by_cases hlt : i < c2
  · obtain ⟨q, hq⟩ := get_lt (show i < L.length by omega)
    obtain ⟨ar, cr, r⟩ := q
    have hrF : (L.map (·.2.2))[i]? = some r := by rw [List.getElem?_map, hq]; rfl
    have hqh : (L.map GX.hd)[i]? = some (ar, r.length, cr) := by rw [List.getElem?_map, hq]; rfl
    have hLh : (L.map GX.hd).length = c2 := by rw [List.length_map]; exact x2
    have hrl : r.length ≤ 8 := by
      have := hsh.w r (List.mem_of_getElem? hrF)
      omega
    refine GX.opn a2 fun _ _ ha => ?_
    obtain ⟨h9, _⟩ | ⟨g2, rfl⟩ := ha
    · rw [h9] at hqh; simp at hqh
    refine GX.wbRA ?_; intros
    refine GX.osT i ?_ hq
    refine GX.loop (σ := Nat × Nat) (fun s => [(3, .slice ao l.length cap), (11, .pointer (some ⟨b11, 0, none⟩)), (13, .int .i64 (s.1 : Int)), (16, .int .i64 (i : Int)), (17, .int .i64 (s.2 : Int))]) (fun _ => []) (fun _ => [RowR b11 26 [.slice a1 c1 c1, .slice (some ⟨g2, 0, none⟩) c2 c2], GX.Own 35 (Ty.slice Ty.int) a1 c1 X, GX.Own 23 Ty.hdr (some ⟨g2, 0, none⟩) c2 (L.map GX.hd), GX.Own 35 (Ty.slice Ty.int) ar cr r, Owns 35 (Ty.slice Ty.int) (L.set i (none, 0, []))]) (fun s => s.1 ≤ 1048575 ∧ s.2 ≤ r.length) (fun s => r.length - s.2) (k, 0) ⟨rfl, rfl, rfl, rfl, rfl, trivial⟩ ⟨hk, by simp⟩ (fun s hs => ?_)
    obtain ⟨k, j⟩ := s
    obtain ⟨hk, hj⟩ := hs
    dsimp only at *
    by_cases hlt2 : j < r.length
    · obtain ⟨y, hy⟩ := get_lt hlt2
      refine GX.opn ar fun _ _ ha => ?_
      obtain ⟨h9, _⟩ | ⟨g3, rfl⟩ := ha
      · rw [h9] at hy; simp at hy
      by_cases hky : k < y.length
      · have hbr := breaks_field hl hp hrF hy hky
        have hyl : y.length ≤ 60 := by
          rw [hFe, List.getElem?_map] at hrF
          obtain ⟨a, _, hra⟩ := Option.map_eq_some_iff.1 hrF
          have hm := List.mem_of_getElem? hy
          rw [← hra] at hm
          unfold fieldsOf at hm
          rw [List.mem_map] at hm
          obtain ⟨f, _, rfl⟩ := hm
          have := listOf_len d l (d.fld a f)
          omega
        have hl1 : (y.take k).length ≤ 60 := by rw [List.length_take]; omega
        have hl2 : (y.drop (k + 1)).length ≤ 60 := by rw [List.length_drop]; omega
        have hpr : ((some (⟨g3, 0, none⟩ : Addr), r.length, cr) : Option Addr × Nat × Nat).snd.fst = r.length := rfl
        refine GX.wbRA ?_; intros
        dsimp only
        refine GX.wbRA ?_; intros
        refine GX.drawn3 (RowR b11 26 [.slice a1 c1 c1, .slice (some ⟨g2, 0, none⟩) c2 c2]) (GX.Own 23 Ty.hdr (some ⟨g2, 0, none⟩) c2 (L.map GX.hd)) (GX.Own 35 (Ty.slice Ty.int) (some ⟨g3, 0, none⟩) cr r) (fun j => !(List.contains [30] j)) [(0, true), (1, true), (2, true), (3, true), (4, true), (5, true), (6, true), (7, true), (8, true), (9, true), (10, true), (11, true), (12, true), (13, true), (14, true), (15, true), (17, true), (18, true), (19, true), (20, true), (21, true), (22, true), (23, true), (24, true), (25, true), (26, true), (27, true), (16, false), (28, false), (29, true), (30, false)] rfl (by kernel_rfl) (by kernel_rfl) (by first | ((repeat (first | apply Go.GX.SelR.nil | apply Go.GX.SelR.cons | (with_reducible apply Go.GX.TakeR.head) | apply Go.GX.TakeR.tail)); done) | (repeat (first | apply Go.GX.SelR.nil | apply Go.GX.SelR.cons | apply Go.GX.TakeR.head | apply Go.GX.TakeR.tail))) ?_; intro wd F hW hR
        refine GX.wbT ?_; intros
        simp only [Int.toNat_natCast]
        refine GX.wbT ?_; intros
        refine GX.nmS 175 ?_; rintro a6 c6 rfl rfl
        refine frz a6 ?_
        refine GX.unpin (RowR b11 26 [.slice a1 c1 c1, .slice (some ⟨g2, 0, none⟩) c2 c2]) ?_
        refine GX.unpin (GX.Own 23 Ty.hdr (some ⟨g2, 0, none⟩) c2 (L.map GX.hd)) ?_
        refine GX.unpin (GX.Own 35 (Ty.slice Ty.int) (some ⟨g3, 0, none⟩) cr r) ?_
        refine GX.wbT ?_; intros
        refine GX.osP (ao := some ⟨g3, 0, none⟩) (cap := cr) (xs := r.set j (y.take k ++ y.drop (k + 1))) i ?_ (List.getElem?_set_self (List.getElem?_eq_some_iff.1 hq).1)
        have hmap : L.map GX.hd = (L.set i (some ⟨g3, 0, none⟩, cr, r.set j (y.take k ++ y.drop (k + 1)))).map GX.hd := by
          rw [List.map_set]
          refine (set_same ?_).symm
          rw [hqh]
          show _ = some (_, (r.set j _).length, _)
          rw [List.length_set]
        rw [List.set_set, hmap]
        refine GX.wbRA ?_; intros
        refine GX.o (cl (rFitsO_spec a1 (some ⟨g2, 0, none⟩) c1 c2 X (L.set i (some ⟨g3, 0, none⟩, cr, r.set j (y.take k ++ y.drop (k + 1)))) x1 (by rw [List.length_set]; exact x2) ao cap l) fun _ => ?_)
        rw [decide_eq_false (show ¬ FitsP ⟨X, (L.set i (some ⟨g3, 0, none⟩, cr, r.set j (y.take k ++ y.drop (k + 1)))).map (·.2.2)⟩ l by rw [List.map_set]; exact hbr)]
        refine GX.wbRA ?_; intros
        refine GX.o (cl known20_spec fun _ => ?_)
        refine GX.wbRA ?_; intros
        exact rt1 () rfl
      · refine GX.wbRA ?_; intros
        dsimp only
        refine GX.wbRA ?_; intros
        dsimp only
        refine GX.wbRA ?_; intros
        rw [show ((k : Nat) : Int) - ((y.length : Nat) : Int) = ((k - y.length : Nat) : Int) by omega]
        exact again (k - y.length, j + 1) ⟨rfl, rfl, rfl, rfl, rfl, trivial⟩ ⟨by dsimp only; omega, by dsimp only; omega⟩ (by dsimp only; omega)
    refine GX.wbRA ?_; intros
    dsimp only
    refine GX.wbRA ?_; intros
    refine GX.osP (ao := ar) (cap := cr) (xs := r) i ?_ (List.getElem?_set_self (List.getElem?_eq_some_iff.1 hq).1)
    rw [List.set_set, set_same hq]
    refine GX.wbRA ?_; intros
    exact again (k, i + 1) ⟨rfl, rfl, rfl, rfl, trivial⟩ ⟨by dsimp only; omega, by dsimp only; omega⟩ (by dsimp only; omega)
  refine GX.wbRA ?_; intros
  refine GX.o (cl known20_spec fun _ => ?_)
  refine GX.wbRA ?_; intros
  exact rt1 () rfl
theorem solveLeast_own : ownKnob Try.prog.godebug = none := by kernel_rfl
theorem solveLeast_laidOut : laidOutB Try.prog = true := by kernel_rfl
set_option maxRecDepth 100000 in
theorem solveLeast_lifted (os : Os) (started : os.Started) (H : Type) (enc : TypeId × Value → H) :
    ReturnsInHanded {} Try.checked os 5 .any (Rows.solveLeastSpec.pre6 enc Try.prog Try.f5 Rows.solveLeastRow.domain false) (Rows.solveLeastSpec.post enc Try.prog Try.f5 false true false false) := by
  refine returnsInHanded_of_change (C := Try.checked) solveLeast_own started (by kernel_rfl) Try.func5
    (ChangeSpec.witness6 (enc := enc) (C := Try.checked) false ⟨#[], #[.int .i64 0, .int .i64 0, .int .i64 0, .slice none 0 0, .int .i64 0], []⟩ 8 (by kernel_rfl) (by kernel_rfl) (by kernel_rfl) (by kernel_rfl)) ?_
  intro W base args ds gs before hval0 hW hcnd _
  have hval : ∀ (j : Nat) t v, Try.f5.params[j]? = some t → args[j]? = some v → Value.okWide Try.prog W .any base t v := hval0
  have hW' := hW
  obtain ⟨p, q, hA0, hV, rfl, hfz, hnd⟩ := hW
  have hA : DataW.TrodAll enc Try.prog W 0 (fun _ => true) true Try.f5.params.toList args.toList ds p := hA0
  rw [Try.params5] at hA hval
  obtain ⟨v0, vs0, d0, ds0, p0, q0, hargs, rfl, rfl, h0, r0⟩ := trodAll_cons hA
  obtain ⟨v1, vs1, d1, ds1, p1, q1, rfl, rfl, rfl, h1, r1⟩ := trodAll_cons r0
  obtain ⟨v2, vs2, d2, ds2, p2, q2, rfl, rfl, rfl, h2, r2⟩ := trodAll_cons r1
  obtain ⟨v3, vs3, d3, ds3, p3, q3, rfl, rfl, rfl, h3, r3⟩ := trodAll_cons r2
  obtain ⟨v4, vs4, d4, ds4, p4, q4, rfl, rfl, rfl, h4, r4⟩ := trodAll_cons r3
  obtain ⟨rfl, rfl, rfl⟩ := trodAll_nil r4
  obtain rfl : args = #[v0, v1, v2, v3, v4] := by cases args; simp_all
  obtain ⟨rfl, rfl⟩ := trodVars_none hV
  have hlt := hW'.lt
  have hl0 : ∀ x ∈ p0, x.block < W.heap.size := fun x hx => hlt x (by simp [hx])
  obtain ⟨a0, rfl, e0, g0, w0⟩ := open_int Try.underlying3 (hval 0 3 v0 rfl rfl) h0
  have b0 : -9223372036854775808 ≤ a0 ∧ a0 ≤ 9223372036854775807 := wf_i64 w0
  have hl1 : ∀ x ∈ p1, x.block < W.heap.size := fun x hx => hlt x (by simp [hx])
  obtain ⟨a1, rfl, e1, g1, w1⟩ := open_int Try.underlying3 (hval 1 3 v1 rfl rfl) h1
  have b1 : -9223372036854775808 ≤ a1 ∧ a1 ≤ 9223372036854775807 := wf_i64 w1
  have hl2 : ∀ x ∈ p2, x.block < W.heap.size := fun x hx => hlt x (by simp [hx])
  obtain ⟨a2, rfl, e2, g2, w2⟩ := open_int Try.underlying3 (hval 2 3 v2 rfl rfl) h2
  have b2 : -9223372036854775808 ≤ a2 ∧ a2 ≤ 9223372036854775807 := wf_i64 w2
  have hl3 : ∀ x ∈ p3, x.block < W.heap.size := fun x hx => hlt x (by simp [hx])
  obtain ⟨s3, n3, c3, rfl⟩ := okWide_slice Try.underlying22 (hval 3 22 v3 rfl rfl)
  obtain ⟨x3, z3, o3⟩ := conv_cons enc W _ _ _ _ _ h3.choose_spec
  obtain ⟨rfl, f3⟩ := sl_in z3
  have hl4 : ∀ x ∈ p4, x.block < W.heap.size := fun x hx => hlt x (by simp [hx])
  obtain ⟨a4, rfl, e4, g4, w4⟩ := open_int Try.underlying3 (hval 4 3 v4 rfl rfl) h4
  have b4 : -9223372036854775808 ≤ a4 ∧ a4 ≤ 9223372036854775807 := wf_i64 w4
  refine ((solveLeast_does a0 b0 a1 b1 a2 b2 s3 c3 x3 o3 a4 b4).calls W (all_cons f3 all_nil)).mono fun e W' ⟨he, hu⟩ => ?_
  subst he
  have hb := hu.below
  exact ⟨_, rfl, _, _, _, [], _, [], hW', trodAll_cons_mk (shut_bool Try.underlying4 _) trodAll_mk0, (trodAll_cons_mk (hb.trod solveLeast_laidOut (by kernel_rfl) (of_decide_eq_true (by kernel_rfl)) h0 hl0) (trodAll_cons_mk (hb.trod solveLeast_laidOut (by kernel_rfl) (of_decide_eq_true (by kernel_rfl)) h1 hl1) (trodAll_cons_mk (hb.trod solveLeast_laidOut (by kernel_rfl) (of_decide_eq_true (by kernel_rfl)) h2 hl2) (trodAll_cons_mk (hb.trod solveLeast_laidOut (by kernel_rfl) (of_decide_eq_true (by kernel_rfl)) h3 hl3) (trodAll_cons_mk (hb.trod solveLeast_laidOut (by kernel_rfl) (of_decide_eq_true (by kernel_rfl)) h4 hl4) trodAll_mk0))))), rfl, hb.frame _, fun h => by cases h⟩
theorem solveLeast_holds : Rows.SolveLeastSaid :=
  OpenClaim.holds_of_wide 5 Try.f5 rfl rfl rfl rfl rfl rfl rfl ⟨rfl, rfl, rfl, rfl, rfl⟩ rfl rfl rfl rfl rfl (by kernel_rfl) Try.func5 (by kernel_rfl)
    (of_decide_eq_true (by kernel_rfl)) (by unfold Func.isWrapper; first | (rw [if_pos (by decide +kernel)]; kernel_rfl) | (rw [if_neg (by decide +kernel)]; exact ⟨rfl, rfl⟩))
    (fun os started H enc _ => solveLeast_lifted os started H enc)
end Go.Proofs.Ytkagjpkgboeaiaa
