/- The walks over program and great of chapter 17's laws. -/
import Derived.Test.YtkfbchefealfoaaCalMath
import Derived.Test.YtkfbchefealfoaaGWalk
import Derived.Test.YtkfbchefealfoaaLend
import Derived.Test.YtkfbchefealfoaaTypes
import Derived.Test.YtkfbchefealfoaaApiT
namespace Go.Proofs.Ytkfbchefealfoaa
open Go Go.RR Go.RX Go.GX Go.Api Go.CalM Go.TarM
attribute [local irreducible] wpList Code.wp wpPlan Exit.then Exit.inBlock bodyPost NoPanic Went GX.Post GX.Again GX.Meet GX.RowR GX.Own GX.Owns GX.Box GX.Sl GX.Pt GX.Ag GX.MapR GX.Kept GX.Pin wpT GoK AtEnd Both

instance {ps : List Pf} {v1 v2 v3 v4 v5 : Value} {x1 : List Api.Shape} {x2 : List Api.Typ} {x3 : List Api.Code} {x4 : List Api.Site} {x5 : Int} [OneV v1] [OneV v2] [OneV v3] [OneV v4] [OneV v5] [h1 : Rds ps v1 (Ty.slice tyShape) x1] [h2 : Rds ps v2 (Ty.slice tyTyp) x2] [h3 : Rds ps v3 (Ty.slice tyCode) x3] [h4 : Rds ps v4 (Ty.slice tySite) x4] [h5 : Rds ps v5 Ty.int x5] : Rds ps (.agg #[v1, v2, v3, v4, v5]) tyIR ⟨x1, x2, x3, x4, x5⟩ := ⟨.of fun F w h => co_rd (pair_rd (c1 := [_]) rfl (rdo (h1.r.as F w h)) (pair_rd (c1 := [_]) rfl (rdo (h2.r.as F w h)) (pair_rd (c1 := [_]) rfl (rdo (h3.r.as F w h)) (pair_rd (c1 := [_]) rfl (rdo (h4.r.as F w h)) (pair_rd (c1 := [_]) rfl (rdo (h5.r.as F w h)) unit_rd)))))⟩
instance : UTy Try.prog 29 tyIR ⟨[], [], [], [], 0⟩ (.agg #[.slice none 0 0, .slice none 0 0, .slice none 0 0, .slice none 0 0, .int .i64 0]) := ⟨Try.zeroValue29, fun F w => co_rd (pair_rd (c1 := [_]) rfl nils_rd (pair_rd (c1 := [_]) rfl nils_rd (pair_rd (c1 := [_]) rfl nils_rd (pair_rd (c1 := [_]) rfl nils_rd (pair_rd (c1 := [_]) rfl num_rd unit_rd)))))⟩
structure PgS where
  i : Nat
  ao : Option Addr
  cap : Nat
def Few (e : List (List Int)) : Prop := e.length ≤ 100 ∧ ∀ l ∈ e, l.length ≤ 100
theorem program_spec (ao : Option Addr) (cap : Nat) (e : List (List Int)) (he : Few e) : Does Try.prog 9 [.slice ao e.length cap] [Sl (Ty.slice Ty.int) ao cap e] []
    (fun s : List Value => .agg s.toArray) (fun s => [Ag tyIR s (cProg e)]) (fun _ => []) := by
  refine enter Try.func9 rfl Try.ntmps9 rfl fun b => ?_
  have hel := he.1
  refine GX.wRA ?_; intros
  refine GX.nmP 2 ?_; rintro b2 rfl
  refine GX.nmP 3 ?_; rintro b3 rfl
  refine ownNil 43 tyCode ?_
  refine GX.loop (σ := PgS) (fun s => [(0, .slice ao e.length cap), (2, .pointer (some ⟨b2, 0, none⟩)), (3, .pointer (some ⟨b3, 0, none⟩)), (4, .int .i64 (s.i : Int))]) (fun _ => [])
    (fun s => [RowR b2 29 [.slice none 0 0, .slice none 0 0, .slice none 0 0, .slice none 0 0, .int .i64 0], RowR b3 29 [.slice none 0 0, .slice none 0 0, .slice s.ao ((e.take s.i).map cCode).length s.cap, .slice none 0 0, .int .i64 0], Own 43 tyCode s.ao s.cap ((e.take s.i).map cCode)])
    (fun s => s.i ≤ e.length) (fun s => e.length - s.i) ⟨0, none, 0⟩ ⟨rfl, rfl, rfl, rfl, trivial⟩ (by simp) (fun s hi => ?_)
  obtain ⟨i, aC, cC⟩ := s
  dsimp only at *
  by_cases hlt : i < e.length
  · obtain ⟨l, hl⟩ := get_lt hlt
    have hll := he.2 l (List.mem_of_getElem? hl)
    refine GX.wRA ?_; intros
    refine GX.nmP 5 ?_; rintro b5 rfl
    refine ownNil 45 tyIns ?_
    refine GX.loop (σ := PgS) (fun s => [(0, .slice ao e.length cap), (2, .pointer (some ⟨b2, 0, none⟩)), (3, .pointer (some ⟨b3, 0, none⟩)), (4, .int .i64 (i : Int)), (5, .pointer (some ⟨b5, 0, none⟩)), (6, .int .i64 (s.i : Int))]) (fun _ => [])
      (fun s => [RowR b2 29 [.slice none 0 0, .slice none 0 0, .slice none 0 0, .slice none 0 0, .int .i64 0], RowR b3 29 [.slice none 0 0, .slice none 0 0, .slice aC ((e.take i).map cCode).length cC, .slice none 0 0, .int .i64 0], Own 43 tyCode aC cC ((e.take i).map cCode), RowR b5 43 [.int .i64 0, .slice none 0 0, .bool false, .int .i64 0, .int .i64 0, .int .i64 0, .slice s.ao ((l.take s.i).map cIns).length s.cap], Own 45 tyIns s.ao s.cap ((l.take s.i).map cIns)])
      (fun s => s.i ≤ l.length) (fun s => l.length - s.i) ⟨0, none, 0⟩ ⟨rfl, rfl, rfl, rfl, rfl, rfl, trivial⟩ (by simp) (fun s hk => ?_)
    obtain ⟨k, aI, cI⟩ := s
    dsimp only at *
    by_cases hkl : k < l.length
    · obtain ⟨c, hc⟩ := get_lt hkl
      have e1 : (l.take k).map cIns ++ [⟨13, -1, 0, c, 0, []⟩] = (l.take (k + 1)).map cIns := by rw [List.take_add_one, hc, List.map_append]; rfl
      have hml : ((l.take k).map cIns).length ≤ 100000 := by rw [List.length_map, List.length_take]; omega
      refine GX.wRA ?_; intros
      refine GX.drawn2 (RowR b5 43 _) (Own 45 tyIns aI cI _) (fun j => !(List.contains [11, 13] j)) [(0, true), (1, true), (2, true), (3, true), (4, true), (5, true), (6, true), (7, true), (8, true), (9, true), (10, false), (11, false), (12, true), (13, false)] rfl (by kernel_rfl) (by kernel_rfl) (by first | ((repeat (first | apply Go.GX.SelR.nil | apply Go.GX.SelR.cons | (with_reducible apply Go.GX.TakeR.head) | apply Go.GX.TakeR.tail)); done) | (repeat (first | apply Go.GX.SelR.nil | apply Go.GX.SelR.cons | apply Go.GX.TakeR.head | apply Go.GX.TakeR.tail))) ?_; intro wd F hW hR
      refine GX.wTA ?_; intros
      refine GX.unpin (Own 45 tyIns aI cI _) ?_
      refine GX.wTA ?_; intros
      refine GX.unpin (RowR b5 43 _) ?_
      refine GX.wTA ?_; intros
      refine GX.wRA ?_; intros
      rw [e1]
      exact again ⟨k + 1, _, _⟩ ⟨rfl, rfl, rfl, rfl, rfl, rfl, trivial⟩ (by dsimp only; omega) (by dsimp only; omega)
    · have e1 : (e.take i).map cCode ++ [⟨0, [], false, ⟨0, 0, 0⟩, (l.take k).map cIns⟩] = (e.take (i + 1)).map cCode := by rw [List.take_add_one, hl, List.map_append, List.take_of_length_le (l := l) (i := k) (by omega)]; rfl
      have hml : ((e.take i).map cCode).length ≤ 100000 := by rw [List.length_map, List.length_take]; omega
      refine frz aI ?_
      refine GX.wRA ?_; intros
      rw [e1]
      exact again ⟨i + 1, _, _⟩ ⟨rfl, rfl, rfl, rfl, trivial⟩ (by dsimp only; omega) (by dsimp only; omega)
  · rw [List.take_of_length_le (by omega)]
    refine frz aC ?_
    refine GX.wRA ?_; intros
    refine frzR b2 (e := tyIR) (vs := [.slice none 0 0, .slice none 0 0, .slice aC (e.map cCode).length cC, .slice none 0 0, .int .i64 0]) (y := cProg e) ?_ (show Reads _ _ tyIR (⟨[], [], e.map cCode, [], 0⟩ : IR) from Go.GX.Rds.r)
    exact rt1B id (fun _ => rfl)

/-- Not too many codes, nor calls. -/
def Fit17 (e : List (List Int)) : Prop := e.length ≤ 20 ∧ ∀ l ∈ e, l.length ≤ 30
instance (e : List (List Int)) : Decidable (Fit17 e) := by unfold Fit17; infer_instance
theorem Fit17.few {e : List (List Int)} (h : Fit17 e) : Few e := ⟨by have := h.1; omega, fun l hl => by have := h.2 l hl; omega⟩
theorem great17_spec (ao : Option Addr) (cap : Nat) (e : List (List Int)) : Does Try.prog 8 [.slice ao e.length cap] [Sl (Ty.slice Ty.int) ao cap e] [] (fun _ : Unit => .bool (decide (¬ Fit17 e))) (fun _ => []) (fun _ => []) := by
  refine enter Try.func8 rfl Try.ntmps8 rfl fun b => ?_
  refine sln ao fun h1 h2 _ => ?_
  by_cases h : 20 < (e.length : Int)
  · refine GX.wR ?_; intros
    exact rt1 () (by rw [decide_eq_true (show ¬ Fit17 e from fun h3 => by have := h3.1; omega)])
  refine GX.wR ?_; intros
  refine GX.loop (σ := Nat) (fun i => [(0, .slice ao e.length cap), (3, .int .i64 (i : Int))]) (fun _ => []) (fun _ => [])
    (fun i => i ≤ e.length ∧ ∀ l ∈ e.take i, l.length ≤ 30) (fun i => e.length - i) 0 ⟨rfl, rfl, trivial⟩ ⟨by omega, by simp⟩ (fun i hi => ?_)
  obtain ⟨hi, hA⟩ := hi
  by_cases hlt : i < e.length
  · obtain ⟨l, hl⟩ := get_lt hlt
    have hm := List.mem_of_getElem? hl
    by_cases h3 : 30 < (l.length : Int)
    · refine GX.wR ?_; intros
      exact rt1 () (by rw [decide_eq_true (show ¬ Fit17 e from fun h4 => by have := h4.2 l hm; omega)])
    · refine GX.wR ?_; intros
      refine again (i + 1) ⟨rfl, rfl, trivial⟩ ⟨by omega, fun x hx => ?_⟩ (by omega)
      rw [List.take_add_one, hl, List.mem_append] at hx
      rcases hx with hx | hx
      · exact hA x hx
      · simp at hx; subst hx; omega
  · rw [List.take_of_length_le (by omega)] at hA
    refine GX.wR ?_; intros
    exact rt1 () (by rw [decide_eq_false (Classical.not_not.2 ⟨by omega, hA⟩)])
end Go.Proofs.Ytkfbchefealfoaa
