/- RtMany: for all numbers the law returns true. No condition. -/
import Derived.Test.YtfhbainbmipddaaRt8
import Derived.Test.YtfhbainbmipddaaRtMan
import Derived.Test.YtfhbainbmipddaaKnown26
import Derived.Test.YtfhbainbmipddaaApiC
namespace Go.Proofs.Ytfhbainbmipddaa
open Go Go.RR Go.RX Go.GX Go.Api Go.RiseM Go.ReachM Go.RtM Go.ChangeShapes Go.WideShapes Go.ChangeAt Go.RowKit
section
variable {P : Program} {n : Nat} {env : Env} {b : Base} {ps : List Pf} {hp : List Res} {K : Act → World → Prop}
/-- An element of a slice that stays, as a place. -/
theorem slPt {bl cap : Nat} (j off : Nat) {α : Type} {e : Ty α} {xs : List α} {x0 : α} [hf : FSl (some ⟨bl, 0, none⟩) ps e cap xs] (h : G n env b (Pt e bl off x0 :: ps) hp K) (hj : xs[j]? = some x0 := by with_reducible assumption) (ho : 0 + j * e.size = off := by (show 0 + _ * 1 = _; omega)) : G n env b ps hp K := by
  subst ho
  constructor
  rintro w ⟨F, s⟩
  obtain ⟨_, _, hs⟩ : (Sl e (some ⟨bl, 0, none⟩) cap xs).says F w := s.fs _ hf.mem
  obtain ⟨b1, o, cs, he, h3, h4, h5, h6⟩ := hs j x0 hj
  simp only [Option.some.injEq, Addr.mk.injEq, and_true] at he
  obtain ⟨rfl, rfl⟩ := he
  refine h.run w ⟨F, s.upd, s.lt, s.old, fun p hp => ?_, s.rs, s.apF, s.apart, s.on⟩
  rcases List.mem_cons.1 hp with rfl | hp
  · exact ⟨h3, h4, cs, h5, h6⟩
  · exact s.fs p hp
end
attribute [local irreducible] wpList Code.wp wpPlan Exit.then Exit.inBlock bodyPost NoPanic Went GX.Post GX.Again GX.Meet GX.RowR GX.Own GX.Owns GX.Box GX.Sl GX.Pt GX.Ag GX.MapR GX.Kept GX.Pin wpT GoK AtEnd Both

instance {α : Type} (m : Nat) (x : α) : IsLen m (List.replicate m x) := ⟨List.length_replicate.symm⟩
structure MnS where
  i : Nat
  ao : Option Addr
  cap : Nat
structure Mn0 where
  i : Nat
  ao : Option Addr
  cap : Nat
  ac : Option Addr
  cc : Nat
structure Mn2 where
  i : Nat
  ao : Option Addr
  cap : Nat
  au : Option Addr
  cu : Nat
theorem rtMany_does (w : Int) (_ : -9223372036854775808 ≤ w ∧ w ≤ 9223372036854775807) (n : Int) (_ : -9223372036854775808 ≤ n ∧ n ≤ 9223372036854775807) : Does Try.prog 8 [.int .i64 w, .int .i64 n] [] [] (fun _ : Unit => .bool true) (fun _ => []) (fun _ => []) := by
  refine enter Try.func8 rfl Try.ntmps8 rfl fun b => ?_
  by_cases h1 : w < 0
  · refine GX.wR ?_; intros
    exact rt1 () rfl
  by_cases h2 : 5 < w
  · refine GX.wR ?_; intros
    exact rt1 () rfl
  by_cases h3 : n < 0
  · refine GX.wR ?_; intros
    exact rt1 () rfl
  by_cases h4 : 70 < n
  · refine GX.wR ?_; intros
    exact rt1 () rfl
  obtain ⟨N, rfl⟩ := Int.eq_ofNat_of_zero_le (show 0 ≤ n by omega)
  obtain ⟨W, rfl⟩ := Int.eq_ofNat_of_zero_le (show 0 ≤ w by omega)
  obtain ⟨M, hM⟩ := get_lt (show W < ([60, 8, 15, 6, 8, 1] : List Int).length by simp; omega)
  refine GX.wRO ?_; intros
  refine GX.nmB 24 ?_; rintro b24 rfl
  refine frz (some ⟨b24, 0, none⟩) ?_
  refine GX.o (GX.slo (ys := [uRet]) (fun b26 => ?_) (hl := .cons (show Reads _ _ tyUnt (⟨0, [], -3, [], [], [⟨18, -1, 0, 0, 0, []⟩]⟩ : Unt) from Go.GX.Rds.r) .nil))
  refine GX.wRA ?_; intros
  refine GX.nmP 5 ?_; rintro b5 rfl
  refine GX.nmB 28 ?_; rintro b28 rfl
  refine slPt (bl := b28) W W ?_
  refine GX.wRA ?_; intros
  refine ownNil 3 Ty.int ?_
  by_cases w0 : W = 0
  · obtain rfl : M = 60 := by subst w0; simpa using hM.symm
    refine ownNil 44 tyLayout ?_
    refine GX.loop (σ := Mn0) (fun s => [(0, .int .i64 (W : Int)), (1, .int .i64 (N : Int)), (5, .pointer (some ⟨b5, 0, none⟩)), (6, .int .i64 60), (7, .slice s.ao (List.replicate s.i (-1 : Int)).length s.cap), (8, .int .i64 (s.i : Int))]) (fun _ => [])
      (fun s => [Own 3 Ty.int s.ao s.cap (List.replicate s.i (-1)), Own 44 tyLayout s.ac s.cc ((List.range s.i).map ref1), Own 39 tyUnt (some ⟨b26, 0, none⟩) 1 [uRet], RowR b5 26 [.slice s.ac ((List.range s.i).map ref1).length s.cc, .slice none 0 0, .slice (some ⟨b26, 0, none⟩) 1 1, .int .i64 0]])
      (fun s => s.i ≤ N) (fun s => N - s.i) ⟨0, none, 0, none, 0⟩ ⟨rfl, rfl, rfl, rfl, rfl, rfl, trivial⟩ (by simp) (fun s hi => ?_)
    obtain ⟨i, ao, cap, ac, cc⟩ := s
    dsimp only at *
    by_cases hlt : i < N
    · have e : List.replicate i (-1 : Int) ++ [-1] = List.replicate (i + 1) (-1) := (List.replicate_succ' ..).symm
      have e2 : (List.range i).map ref1 ++ [⟨false, [(i : Int)]⟩] = (List.range (i + 1)).map ref1 := by rw [List.range_succ, List.map_append]; rfl
      have hl : (List.replicate i (-1 : Int)).length ≤ 1000 := by rw [List.length_replicate]; omega
      have hl2 : ((List.range i).map ref1).length ≤ 1000 := by rw [List.length_map, List.length_range]; omega
      refine GX.wRA ?_; intros
      rw [e, e2]
      exact again ⟨i + 1, _, _, _, _⟩ ⟨rfl, rfl, rfl, rfl, rfl, rfl, trivial⟩ (by dsimp only; omega) (by dsimp only; omega)
    have hil : i = N := by omega
    subst hil
    refine frz ac ?_
    refine frz (some ⟨b26, 0, none⟩) ?_
    refine GX.wRA ?_; intros
    refine GX.agI (e := tyRTg) (cs := [.slice ac ((List.range i).map ref1).length cc, .slice none 0 0, .slice (some ⟨b26, 0, none⟩) 1 1, .int .i64 0]) (y := many 0 i) ?_ (show Reads _ _ tyRTg (⟨(List.range i).map ref1, [], [uRet], 0⟩ : RTg) from Go.GX.Rds.r)
    refine GX.o (cl (right_spec _ (many 0 i) (many_small (by omega))) fun _ => ?_)
    by_cases hd : i ≤ 60
    · rw [decide_eq_true ((many0 i).2 hd)]
      refine GX.wRA ?_; intros
      refine GX.o (cl (known26_spec) fun _ => ?_)
      refine GX.wRA ?_; intros
      exact rt1 () rfl
    · rw [decide_eq_false (fun h => hd ((many0 i).1 h))]
      refine GX.wRA ?_; intros
      refine GX.o (cl (known26_spec) fun _ => ?_)
      refine GX.wRA ?_; intros
      exact rt1 () rfl
  by_cases w2 : W = 2
  · obtain rfl : M = 15 := by subst w2; simpa using hM.symm
    refine GX.loop (σ := Mn2) (fun s => [(0, .int .i64 (W : Int)), (1, .int .i64 (N : Int)), (5, .pointer (some ⟨b5, 0, none⟩)), (6, .int .i64 15), (7, .slice s.ao (List.replicate s.i (-1 : Int)).length s.cap), (8, .int .i64 (s.i : Int))]) (fun _ => [])
      (fun s => [Own 3 Ty.int s.ao s.cap (List.replicate s.i (-1)), Own 39 tyUnt s.au s.cu (List.replicate (s.i + 1) uRet), RowR b5 26 [.slice none 0 0, .slice none 0 0, .slice s.au (List.replicate (s.i + 1) uRet).length s.cu, .int .i64 0]])
      (fun s => s.i ≤ N) (fun s => N - s.i) ⟨0, none, 0, some ⟨b26, 0, none⟩, 1⟩ ⟨rfl, rfl, rfl, rfl, rfl, rfl, trivial⟩ (by simp) (fun s hi => ?_)
    obtain ⟨i, ao, cap, au, cu⟩ := s
    dsimp only at *
    by_cases hlt : i < N
    · have e : List.replicate i (-1 : Int) ++ [-1] = List.replicate (i + 1) (-1) := (List.replicate_succ' ..).symm
      have e2 : List.replicate (i + 1) uRet ++ [uRet] = List.replicate (i + 1 + 1) uRet := (List.replicate_succ' ..).symm
      have hl : (List.replicate i (-1 : Int)).length ≤ 1000 := by rw [List.length_replicate]; omega
      have hl2 : (List.replicate (i + 1) uRet).length ≤ 1000 := by rw [List.length_replicate]; omega
      have h00 : (List.replicate (i + 1) uRet)[0]? = some uRet := by simp
      have hl0 : 0 < (List.replicate (i + 1) uRet).length := by rw [List.length_replicate]; omega
      refine opn au fun _ _ ha => ?_
      obtain ⟨bu, rfl⟩ : ∃ g, au = some ⟨g, 0, none⟩ := ha.elim (fun h => absurd h.1 (by simp)) id
      clear ha
      refine GX.wRA ?_; intros
      refine GX.drawn2 (RowR b5 26 _) (Own 39 tyUnt (some ⟨bu, 0, none⟩) cu _) (fun j => !(List.contains [7, 9] j)) [(0, true), (1, true), (2, true), (3, true), (4, true), (5, true), (6, false), (7, false), (8, true), (9, false)] rfl (by kernel_rfl) (by kernel_rfl) (by first | ((repeat (first | apply Go.GX.SelR.nil | apply Go.GX.SelR.cons | (with_reducible apply Go.GX.TakeR.head) | apply Go.GX.TakeR.tail)); done) | (repeat (first | apply Go.GX.SelR.nil | apply Go.GX.SelR.cons | apply Go.GX.TakeR.head | apply Go.GX.TakeR.tail))) ?_; intro wd F hW hR
      refine GX.wTA ?_; intros
      refine GX.unpin (Own 39 tyUnt (some ⟨bu, 0, none⟩) cu _) ?_
      refine GX.wTA ?_; intros
      refine GX.unpin (RowR b5 26 _) ?_
      refine GX.wTA ?_; intros
      refine GX.wRA ?_; intros
      rw [e, e2]
      exact again ⟨i + 1, _, _, _, _⟩ ⟨rfl, rfl, rfl, rfl, rfl, rfl, trivial⟩ (by dsimp only; omega) (by dsimp only; omega)
    have hil : i = N := by omega
    subst hil
    refine frz au ?_
    refine GX.wRA ?_; intros
    refine GX.agI (e := tyRTg) (cs := [.slice none 0 0, .slice none 0 0, .slice au (List.replicate (i + 1) uRet).length cu, .int .i64 0]) (y := many 2 i) ?_ (show Reads _ _ tyRTg (⟨[], [], List.replicate (i + 1) uRet, 0⟩ : RTg) from Go.GX.Rds.r)
    refine GX.o (cl (right_spec _ (many 2 i) (many_small (by omega))) fun _ => ?_)
    by_cases hd : i ≤ 15
    · rw [decide_eq_true ((many2 i).2 hd)]
      refine GX.wRA ?_; intros
      refine GX.o (cl (known26_spec) fun _ => ?_)
      refine GX.wRA ?_; intros
      exact rt1 () rfl
    · rw [decide_eq_false (fun h => hd ((many2 i).1 h))]
      refine GX.wRA ?_; intros
      refine GX.o (cl (known26_spec) fun _ => ?_)
      refine GX.wRA ?_; intros
      exact rt1 () rfl
  refine GX.loop (σ := MnS) (fun s => [(0, .int .i64 (W : Int)), (1, .int .i64 (N : Int)), (5, .pointer (some ⟨b5, 0, none⟩)), (6, .int .i64 M), (7, .slice s.ao (List.replicate s.i (-1 : Int)).length s.cap), (8, .int .i64 (s.i : Int))]) (fun _ => [])
    (fun s => [Own 3 Ty.int s.ao s.cap (List.replicate s.i (-1)), Own 39 tyUnt (some ⟨b26, 0, none⟩) 1 [uRet], RowR b5 26 [.slice none 0 0, .slice none 0 0, .slice (some ⟨b26, 0, none⟩) 1 1, .int .i64 0]])
    (fun s => s.i ≤ N) (fun s => N - s.i) ⟨0, none, 0⟩ ⟨rfl, rfl, rfl, rfl, rfl, rfl, trivial⟩ (by simp) (fun s hi => ?_)
  obtain ⟨i, ao, cap⟩ := s
  dsimp only at *
  by_cases hlt : i < N
  · have e : List.replicate i (-1 : Int) ++ [-1] = List.replicate (i + 1) (-1) := (List.replicate_succ' ..).symm
    have hl : (List.replicate i (-1 : Int)).length ≤ 1000 := by rw [List.length_replicate]; omega
    refine GX.wRA ?_; intros
    rw [e]
    exact again ⟨i + 1, _, _⟩ ⟨rfl, rfl, rfl, rfl, rfl, rfl, trivial⟩ (by dsimp only; omega) (by dsimp only; omega)
  have hil : i = N := by omega
  subst hil
  have hl : (List.replicate i (-1 : Int)).length = i := List.length_replicate
  by_cases w1 : W = 1
  · obtain rfl : M = 8 := by subst w1; simpa using hM.symm
    refine GX.wRA ?_; intros
    refine frz ao ?_
    refine frz (some ⟨b26, 0, none⟩) ?_
    refine GX.wRA ?_; intros
    refine GX.agI (e := tyRTg) (cs := [.slice none 0 0, .slice ao (List.replicate i (-1 : Int)).length cap, .slice (some ⟨b26, 0, none⟩) 1 1, .int .i64 0]) (y := many 1 i) ?_ (show Reads _ _ tyRTg (⟨[], List.replicate i (-1), [uRet], 0⟩ : RTg) from Go.GX.Rds.r)
    refine GX.o (cl (right_spec _ (many 1 i) (many_small (by omega))) fun _ => ?_)
    by_cases hd : i ≤ 8
    · rw [decide_eq_true ((many1 i).2 hd)]
      refine GX.wRA ?_; intros
      refine GX.o (cl (known26_spec) fun _ => ?_)
      refine GX.wRA ?_; intros
      exact rt1 () rfl
    · rw [decide_eq_false (fun h => hd ((many1 i).1 h))]
      refine GX.wRA ?_; intros
      refine GX.o (cl (known26_spec) fun _ => ?_)
      refine GX.wRA ?_; intros
      exact rt1 () rfl
  by_cases w3 : W = 3
  · obtain rfl : M = 6 := by subst w3; simpa using hM.symm
    refine frz ao ?_
    refine GX.wRA ?_; intros
    refine GX.nmS 77 ?_; rintro aU cU rfl rfl
    refine frz aU ?_
    refine GX.agI (e := tyRTg) (cs := [.slice none 0 0, .slice none 0 0, .slice aU ([uRet] ++ [(⟨(i : Int), List.replicate i (-1), -2, [], [], [⟨16, 0, 0, 0, 0, []⟩]⟩ : Unt)]).length cU, .int .i64 0]) (y := many 3 i) ?_ (show Reads _ _ tyRTg (⟨[], [], [uRet] ++ [(⟨(i : Int), List.replicate i (-1), -2, [], [], [⟨16, 0, 0, 0, 0, []⟩]⟩ : Unt)], 0⟩ : RTg) from Go.GX.Rds.r)
    refine GX.o (cl (right_spec _ (many 3 i) (many_small (by omega))) fun _ => ?_)
    by_cases hd : i ≤ 6
    · rw [decide_eq_true ((many3 i).2 hd)]
      refine GX.wRA ?_; intros
      refine GX.o (cl (known26_spec) fun _ => ?_)
      refine GX.wRA ?_; intros
      exact rt1 () rfl
    · rw [decide_eq_false (fun h => hd ((many3 i).1 h))]
      refine GX.wRA ?_; intros
      refine GX.o (cl (known26_spec) fun _ => ?_)
      refine GX.wRA ?_; intros
      exact rt1 () rfl
  by_cases w4 : W = 4
  · obtain rfl : M = 8 := by subst w4; simpa using hM.symm
    refine frz ao ?_
    refine frz (some ⟨b26, 0, none⟩) ?_
    refine GX.wRA ?_; intros
    refine GX.nmB 86 ?_; rintro b86 rfl
    refine GX.agI (e := tyRTg) (cs := [.slice (some ⟨b86, 0, none⟩) 1 1, .slice none 0 0, .slice (some ⟨b26, 0, none⟩) 1 1, .int .i64 0]) (y := many 4 i) ?_ (by rw [show many 4 i = (⟨[⟨decide ((W : Int) = 5), List.replicate i (-1)⟩], [], [uRet], 0⟩ : RTg) by rw [decide_eq_false (by omega)]; rfl]; exact Go.GX.Rds.r)
    refine GX.o (cl (right_spec _ (many 4 i) (many_small (by omega))) fun _ => ?_)
    by_cases hd : i ≤ 8
    · rw [decide_eq_true ((many4 i).2 hd)]
      refine GX.wRA ?_; intros
      refine GX.o (cl (known26_spec) fun _ => ?_)
      refine GX.wRA ?_; intros
      exact rt1 () rfl
    · rw [decide_eq_false (fun h => hd ((many4 i).1 h))]
      refine GX.wRA ?_; intros
      refine GX.o (cl (known26_spec) fun _ => ?_)
      refine GX.wRA ?_; intros
      exact rt1 () rfl
  obtain rfl : M = 1 := by obtain rfl : W = 5 := by omega
                           simpa using hM.symm
  refine frz ao ?_
  refine frz (some ⟨b26, 0, none⟩) ?_
  refine GX.wRA ?_; intros
  refine GX.nmB 86 ?_; rintro b86 rfl
  refine GX.agI (e := tyRTg) (cs := [.slice (some ⟨b86, 0, none⟩) 1 1, .slice none 0 0, .slice (some ⟨b26, 0, none⟩) 1 1, .int .i64 0]) (y := many 5 i) ?_ (by rw [show many 5 i = (⟨[⟨decide ((W : Int) = 5), List.replicate i (-1)⟩], [], [uRet], 0⟩ : RTg) by rw [decide_eq_true (by omega)]; rfl]; exact Go.GX.Rds.r)
  refine GX.o (cl (right_spec _ (many 5 i) (many_small (by omega))) fun _ => ?_)
  by_cases hd : i = 1
  · rw [decide_eq_true ((many5 i).2 (by omega))]
    have hq : (true == decide ((i : Int) = 1)) = true := by simp; omega
    refine GX.wRA ?_; intros
    refine GX.o (cl (known26_spec) fun _ => ?_)
    refine GX.wRA ?_; intros
    exact rt1 () rfl
  · rw [decide_eq_false (fun h => hd ((many5 i).1 h).2)]
    have hq : (false == decide ((i : Int) = 1)) = true := by simp; omega
    by_cases hd2 : i ≤ 1
    · refine GX.wRA ?_; intros
      refine GX.o (cl (known26_spec) fun _ => ?_)
      refine GX.wRA ?_; intros
      exact rt1 () rfl
    · refine GX.wRA ?_; intros
      refine GX.o (cl (known26_spec) fun _ => ?_)
      refine GX.wRA ?_; intros
      exact rt1 () rfl
theorem rtMany_own : ownKnob Try.prog.godebug = none := by kernel_rfl
theorem rtMany_laidOut : laidOutB Try.prog = true := by kernel_rfl
set_option maxRecDepth 100000 in
theorem rtMany_lifted (os : Os) (started : os.Started) (H : Type) (enc : TypeId × Value → H) :
    ReturnsInHanded {} Try.checked os 8 .any (Rows.rtManySpec.pre6 enc Try.prog Try.f8 Rows.rtManyRow.domain false) (Rows.rtManySpec.post enc Try.prog Try.f8 false true false false) := by
  refine returnsInHanded_of_change (C := Try.checked) rtMany_own started (by kernel_rfl) Try.func8
    (ChangeSpec.witness6 (enc := enc) (C := Try.checked) false ⟨#[], #[.int .i64 0, .int .i64 0], []⟩ 8 (by kernel_rfl) (by kernel_rfl) (by kernel_rfl) (by kernel_rfl)) ?_
  intro W base args ds gs before hval0 hW hcnd _
  have hval : ∀ (j : Nat) t v, Try.f8.params[j]? = some t → args[j]? = some v → Value.okWide Try.prog W .any base t v := hval0
  have hW' := hW
  obtain ⟨p, q, hA0, hV, rfl, hfz, hnd⟩ := hW
  have hA : DataW.TrodAll enc Try.prog W 0 (fun _ => true) true Try.f8.params.toList args.toList ds p := hA0
  rw [Try.params8] at hA hval
  obtain ⟨v0, vs0, d0, ds0, p0, q0, hargs, rfl, rfl, h0, r0⟩ := trodAll_cons hA
  obtain ⟨v1, vs1, d1, ds1, p1, q1, rfl, rfl, rfl, h1, r1⟩ := trodAll_cons r0
  obtain ⟨rfl, rfl, rfl⟩ := trodAll_nil r1
  obtain rfl : args = #[v0, v1] := by cases args; simp_all
  obtain ⟨rfl, rfl⟩ := trodVars_none hV
  have hlt := hW'.lt
  have hl0 : ∀ x ∈ p0, x.block < W.heap.size := fun x hx => hlt x (by simp [hx])
  obtain ⟨a0, rfl, e0, g0, w0⟩ := open_int Try.underlying3 (hval 0 3 v0 rfl rfl) h0
  have b0 : -9223372036854775808 ≤ a0 ∧ a0 ≤ 9223372036854775807 := wf_i64 w0
  have hl1 : ∀ x ∈ p1, x.block < W.heap.size := fun x hx => hlt x (by simp [hx])
  obtain ⟨a1, rfl, e1, g1, w1⟩ := open_int Try.underlying3 (hval 1 3 v1 rfl rfl) h1
  have b1 : -9223372036854775808 ≤ a1 ∧ a1 ≤ 9223372036854775807 := wf_i64 w1
  refine ((rtMany_does a0 b0 a1 b1).calls W all_nil).mono fun e W' ⟨he, hu⟩ => ?_
  subst he
  have hb := hu.below
  exact ⟨_, rfl, _, _, _, [], _, [], hW', trodAll_cons_mk (shut_bool Try.underlying4 _) trodAll_mk0, (trodAll_cons_mk (hb.trod rtMany_laidOut (by kernel_rfl) (of_decide_eq_true (by kernel_rfl)) h0 hl0) (trodAll_cons_mk (hb.trod rtMany_laidOut (by kernel_rfl) (of_decide_eq_true (by kernel_rfl)) h1 hl1) trodAll_mk0)), rfl, hb.frame _, fun h => by cases h⟩
theorem rtMany_holds : Rows.RtManySaid :=
  OpenClaim.holds_of_wide 8 Try.f8 rfl rfl rfl rfl rfl rfl rfl ⟨rfl, rfl, rfl, rfl, rfl⟩ rfl rfl rfl rfl rfl (by kernel_rfl) Try.func8 (by kernel_rfl)
    (of_decide_eq_true (by kernel_rfl)) (by unfold Func.isWrapper; first | (rw [if_pos (by decide +kernel)]; kernel_rfl) | (rw [if_neg (by decide +kernel)]; exact ⟨rfl, rfl⟩))
    (fun os started H enc _ => rtMany_lifted os started H enc)
end Go.Proofs.Ytfhbainbmipddaa
