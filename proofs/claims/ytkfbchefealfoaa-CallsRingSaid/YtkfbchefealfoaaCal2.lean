/- The walks over Edges of package calls and of its reference. -/
import Derived.Test.YtkfbchefealfoaaCal1
import Derived.Test.YtkfbchefealfoaaSlcIx
import Derived.Test.YtkfbchefealfoaaIn
import Derived.Test.YtkfbchefealfoaaOwl
namespace Go.Proofs.Ytkfbchefealfoaa
open Go Go.RR Go.RX Go.GX Go.Api Go.CalM Go.TarM
attribute [local irreducible] wpList Code.wp wpPlan Exit.then Exit.inBlock bodyPost NoPanic Went GX.Post GX.Again GX.Meet GX.RowR GX.Own GX.Owns GX.Box GX.Sl GX.Pt GX.Ag GX.MapR GX.Kept GX.Pin wpT GoK AtEnd Both
local instance (priority := 2000) hdrC2 : UTy Try.prog 34 Ty.hdr (none, 0, 0) (.slice none 0 0) := ⟨Try.zeroValue34, fun _ _ => hdr_rd⟩
/-- Not too many codes, nor instructions. -/
def FewI (x : IR) : Prop := x.codes.length ≤ 1000 ∧ ∀ c ∈ x.codes, c.ins.length ≤ 100000
theorem Few.prog {e : List (List Int)} (h : Few e) : FewI (cProg e) := by
  refine ⟨by have := h.1; show (e.map cCode).length ≤ _; rw [List.length_map]; omega, fun c hc => ?_⟩
  obtain ⟨l, hl, rfl⟩ := List.mem_map.1 hc
  have := h.2 l hl
  show (l.map cIns).length ≤ _
  rw [List.length_map]; omega
structure EdS where
  i : Nat
  L : OL
set_option maxHeartbeats 2000000 in
theorem edges_spec (cs : List Value) (x : IR) (hx : FewI x) : Does Try.prog 11 [.agg cs.toArray] [Ag tyIR cs x] []
    (fun s : Option Addr × Nat => .slice s.1 (edges x).length s.2) (fun s => [Sl (Ty.slice Ty.int) s.1 s.2 (edges x)]) (fun _ => []) := by
  refine enter Try.func11 rfl Try.ntmps11 rfl fun b => ?_
  have hxl := hx.1
  refine GX.wR ?_; intros
  refine GX.nmP 1 ?_; rintro b1 rfl
  refine GX.nmB 3 ?_; rintro b3 rfl
  refine GX.nmS 13 ?_; rintro aX cX rfl rfl
  rw [hd_rep (α := Int)]
  refine osN 3 Ty.int x.codes.length ?_
  refine GX.loop (σ := EdS) (fun s => [(1, .pointer (some ⟨b1, 0, none⟩)), (3, .slice (some ⟨b3, 0, none⟩) x.codes.length x.codes.length), (13, .slice aX x.codes.length cX), (14, .int .i64 (x.codes.length : Int)), (15, .int .i64 (s.i : Int))]) (fun _ => [])
    (fun s => [Own 34 Ty.hdr (some ⟨b3, 0, none⟩) x.codes.length (s.L.map GX.hd), Owns 3 Ty.int s.L]) (fun s => s.i ≤ x.codes.length ∧ s.L.map (·.2.2) = edTo x s.i 0) (fun s => x.codes.length - s.i)
    ⟨0, List.replicate x.codes.length (none, 0, [])⟩ ⟨rfl, rfl, rfl, rfl, rfl, trivial⟩ ⟨by simp, by rw [edTo_zero]; simp⟩ (fun s hs => ?_)
  obtain ⟨i, L⟩ := s
  obtain ⟨hi, hL⟩ := hs
  dsimp only at *
  by_cases hlt : i < x.codes.length
  · obtain ⟨c, hc⟩ := get_lt hlt
    have hcl := hx.2 c (List.mem_of_getElem? hc)
    refine GX.wR ?_; intros
    refine GX.nmP 5 ?_; rintro b5 rfl
    refine frzB b5 ?_
    refine GX.wR ?_; intros
    refine GX.nmS 21 ?_; rintro aI cI rfl rfl
    refine GX.loop (σ := EdS) (fun s => [(1, .pointer (some ⟨b1, 0, none⟩)), (3, .slice (some ⟨b3, 0, none⟩) x.codes.length x.codes.length), (4, .int .i64 (i : Int)), (13, .slice aX x.codes.length cX), (14, .int .i64 (x.codes.length : Int)), (15, .int .i64 (i : Int)), (21, .slice aI c.ins.length cI), (22, .int .i64 (c.ins.length : Int)), (23, .int .i64 (s.i : Int))]) (fun _ => [])
      (fun s => [Own 34 Ty.hdr (some ⟨b3, 0, none⟩) x.codes.length (s.L.map GX.hd), Owns 3 Ty.int s.L]) (fun s => s.i ≤ c.ins.length ∧ s.L.map (·.2.2) = edTo x i s.i) (fun s => c.ins.length - s.i)
      ⟨0, L⟩ ⟨rfl, rfl, rfl, rfl, rfl, rfl, rfl, rfl, rfl, trivial⟩ ⟨by simp, hL⟩ (fun s hs => ?_)
    clear hL
    obtain ⟨k, L⟩ := s
    obtain ⟨hk, hL⟩ := hs
    dsimp only at *
    have hLl : L.length = x.codes.length := by have := congrArg List.length hL; rw [List.length_map, edTo_len] at this; exact this
    have hLh : (L.map GX.hd).length = x.codes.length := by rw [List.length_map]; exact hLl
    by_cases hkl : k < c.ins.length
    · obtain ⟨y, hy⟩ := get_lt hkl
      have hst := edI_snoc (n := x.codes.length) hy
      have hset := edTo_set (k := k) hc
      have hget := edTo_get (k := k) hc
      have hlen := edI_len x.codes.length c.ins k
      obtain ⟨a, ca, hLy, hhy⟩ := snd_get hL hget
      refine GX.wR ?_; intros
      refine GX.nmP 7 ?_; rintro b7 rfl
      refine frzB b7 ?_
      refine GX.wR ?_; intros
      have hyL : i < L.length := by omega
      have skip : ¬ Calls_ x.codes.length (edI x.codes.length (c.ins.take k)) y → edTo x i k = edTo x i (k + 1) := fun h => by
        rw [← hset, hst, addI_no h]; exact (set_get hget).symm
      by_cases h1 : y.op = 13
      · by_cases h2 : 0 ≤ y.c
        · by_cases h3 : y.c < (x.codes.length : Int)
          · obtain ⟨acc, hacc⟩ : ∃ acc, acc = edI x.codes.length (c.ins.take k) := ⟨_, rfl⟩
            rw [← hacc] at hLy hhy hst hlen hget skip
            refine osT (t := 3) (e := Ty.int) i ?_
            refine GX.drawn2 (Own 34 Ty.hdr (some ⟨b3, 0, none⟩) x.codes.length (L.map GX.hd)) (Own 3 Ty.int a ca acc) (fun j => !(List.contains [23] j)) [(0, true), (1, true), (2, true), (3, true), (4, true), (5, true), (6, true), (7, true), (8, true), (9, true), (10, true), (11, true), (12, true), (13, true), (14, true), (15, true), (16, true), (17, true), (18, true), (19, true), (20, true), (21, true), (22, true), (23, false), (24, true), (25, true)] rfl (by kernel_rfl) (by kernel_rfl) (by first | ((repeat (first | apply Go.GX.SelR.nil | apply Go.GX.SelR.cons | (with_reducible apply Go.GX.TakeR.head) | apply Go.GX.TakeR.tail)); done) | (repeat (first | apply Go.GX.SelR.nil | apply Go.GX.SelR.cons | apply Go.GX.TakeR.head | apply Go.GX.TakeR.tail))) ?_; intro wd F hW hR
            refine GX.wT ?_; intros
            refine GX.unpin (Own 3 Ty.int a ca acc) ?_
            refine GX.gow ?_
            refine (cl ((contains_spec a ca acc y.c).lend (t := 3)) fun _ => ?_)
            by_cases h4 : y.c ∈ acc
            · have h4' := Classical.not_not.2 h4
              have hn := skip fun h => h.2.2.2 h4
              refine GX.unpin (Own 34 Ty.hdr (some ⟨b3, 0, none⟩) x.codes.length (L.map GX.hd)) ?_
              refine GX.wT ?_; intros
              refine GX.wR ?_; intros
              refine osP (t := 3) (e := Ty.int) (ao := a) i ?_ (by rw [List.getElem?_set_self hyL])
              rw [List.set_set, set_get hLy]
              refine again ⟨k + 1, L⟩ ⟨rfl, rfl, rfl, rfl, rfl, rfl, rfl, rfl, rfl, trivial⟩ ⟨by dsimp only; omega, hL.trans hn⟩ (by dsimp only; omega)
            · rw [addI_yes ⟨h1, h2, h3, h4⟩] at hst
              refine GX.unpin (Own 34 Ty.hdr (some ⟨b3, 0, none⟩) x.codes.length (L.map GX.hd)) ?_
              refine GX.wT ?_; intros
              refine GX.wR ?_; intros
              refine GX.drawn2 (Own 34 Ty.hdr (some ⟨b3, 0, none⟩) x.codes.length (L.map GX.hd)) (Own 3 Ty.int a ca acc) (fun j => !(List.contains [9, 11] j)) [(0, true), (1, true), (2, true), (3, true), (4, true), (5, true), (6, true), (7, true), (8, false), (9, false), (10, true), (11, false)] rfl (by kernel_rfl) (by kernel_rfl) (by first | ((repeat (first | apply Go.GX.SelR.nil | apply Go.GX.SelR.cons | (with_reducible apply Go.GX.TakeR.head) | apply Go.GX.TakeR.tail)); done) | (repeat (first | apply Go.GX.SelR.nil | apply Go.GX.SelR.cons | apply Go.GX.TakeR.head | apply Go.GX.TakeR.tail))) ?_; intro wd F hW hR
              refine GX.wT ?_; intros
              refine GX.unpin (Own 3 Ty.int a ca acc) ?_
              refine GX.wT ?_; intros
              refine GX.unpin (Own 34 Ty.hdr (some ⟨b3, 0, none⟩) x.codes.length _) ?_
              refine GX.wT ?_; intros
              refine GX.nmS 62 ?_; rintro a3 c3 rfl rfl
              refine GX.wR ?_; intros
              refine osP (t := 3) (e := Ty.int) (ao := a3) i ?_ (by rw [List.getElem?_set_self hyL])
              rw [List.set_set, hd_set]
              refine again ⟨k + 1, L.set i (a3, c3, acc ++ [y.c])⟩ ⟨rfl, rfl, rfl, rfl, rfl, rfl, rfl, rfl, rfl, trivial⟩ ⟨by dsimp only; omega, ?_⟩ (by dsimp only; omega)
              dsimp only
              rw [List.map_set, hL, ← hset, hst]
          · have hn := skip fun h => h3 h.2.2.1
            refine GX.drawn0  (fun j => !(List.contains [23] j)) [(0, true), (1, true), (2, true), (3, true), (4, true), (5, true), (6, true), (7, true), (8, true), (9, true), (10, true), (11, true), (12, true), (13, true), (14, true), (15, true), (16, true), (17, true), (18, true), (19, true), (20, true), (21, true), (22, true), (23, false), (24, true), (25, true)] rfl (by kernel_rfl) (by kernel_rfl) (by first | ((repeat (first | apply Go.GX.SelR.nil | apply Go.GX.SelR.cons | (with_reducible apply Go.GX.TakeR.head) | apply Go.GX.TakeR.tail)); done) | (repeat (first | apply Go.GX.SelR.nil | apply Go.GX.SelR.cons | apply Go.GX.TakeR.head | apply Go.GX.TakeR.tail))) ?_; intro wd F hW hR
            refine GX.wT ?_; intros
            refine GX.wR ?_; intros
            refine again ⟨k + 1, L⟩ ⟨rfl, rfl, rfl, rfl, rfl, rfl, rfl, rfl, rfl, trivial⟩ ⟨by dsimp only; omega, hL.trans hn⟩ (by dsimp only; omega)
        · have hn := skip fun h => h2 h.2.1
          refine GX.drawn0  (fun j => !(List.contains [23] j)) [(0, true), (1, true), (2, true), (3, true), (4, true), (5, true), (6, true), (7, true), (8, true), (9, true), (10, true), (11, true), (12, true), (13, true), (14, true), (15, true), (16, true), (17, true), (18, true), (19, true), (20, true), (21, true), (22, true), (23, false), (24, true), (25, true)] rfl (by kernel_rfl) (by kernel_rfl) (by first | ((repeat (first | apply Go.GX.SelR.nil | apply Go.GX.SelR.cons | (with_reducible apply Go.GX.TakeR.head) | apply Go.GX.TakeR.tail)); done) | (repeat (first | apply Go.GX.SelR.nil | apply Go.GX.SelR.cons | apply Go.GX.TakeR.head | apply Go.GX.TakeR.tail))) ?_; intro wd F hW hR
          refine GX.wT ?_; intros
          refine GX.wR ?_; intros
          refine again ⟨k + 1, L⟩ ⟨rfl, rfl, rfl, rfl, rfl, rfl, rfl, rfl, rfl, trivial⟩ ⟨by dsimp only; omega, hL.trans hn⟩ (by dsimp only; omega)
      · have hn := skip fun h => h1 h.1
        refine GX.drawn0  (fun j => !(List.contains [23] j)) [(0, true), (1, true), (2, true), (3, true), (4, true), (5, true), (6, true), (7, true), (8, true), (9, true), (10, true), (11, true), (12, true), (13, true), (14, true), (15, true), (16, true), (17, true), (18, true), (19, true), (20, true), (21, true), (22, true), (23, false), (24, true), (25, true)] rfl (by kernel_rfl) (by kernel_rfl) (by first | ((repeat (first | apply Go.GX.SelR.nil | apply Go.GX.SelR.cons | (with_reducible apply Go.GX.TakeR.head) | apply Go.GX.TakeR.tail)); done) | (repeat (first | apply Go.GX.SelR.nil | apply Go.GX.SelR.cons | apply Go.GX.TakeR.head | apply Go.GX.TakeR.tail))) ?_; intro wd F hW hR
        refine GX.wT ?_; intros
        refine GX.wR ?_; intros
        refine again ⟨k + 1, L⟩ ⟨rfl, rfl, rfl, rfl, rfl, rfl, rfl, rfl, rfl, trivial⟩ ⟨by dsimp only; omega, hL.trans hn⟩ (by dsimp only; omega)
    · rw [edTo_next hc (by omega)] at hL
      refine GX.wR ?_; intros
      exact again ⟨i + 1, L⟩ ⟨rfl, rfl, rfl, rfl, rfl, trivial⟩ ⟨by dsimp only; omega, hL⟩ (by dsimp only; omega)
  · have hil : i = x.codes.length := by omega
    subst hil
    refine GX.wR ?_; intros
    refine frzG (t := 3) (e := Ty.int) (l := L) ?_
    have e : L.map (fun x => x.2.2) = edges x := hL.trans (edTo_all x)
    rw [e]
    exact rt1 (some ⟨b3, 0, none⟩, x.codes.length) (congrArg (fun m => Value.slice (some ⟨b3, 0, none⟩) m x.codes.length) (edges_len x))
end Go.Proofs.Ytkfbchefealfoaa
