/- The walk over Edges of the reference of chapter 17. -/
import Derived.Test.YtkfbchefealfoaaCal2
namespace Go.Proofs.Ytkfbchefealfoaa
open Go Go.RR Go.RX Go.GX Go.Api Go.CalM Go.TarM
attribute [local irreducible] wpList Code.wp wpPlan Exit.then Exit.inBlock bodyPost NoPanic Went GX.Post GX.Again GX.Meet GX.RowR GX.Own GX.Owns GX.Box GX.Sl GX.Pt GX.Ag GX.MapR GX.Kept GX.Pin wpT GoK AtEnd Both
local instance (priority := 2000) hdrC3 : UTy Try.prog 34 Ty.hdr (none, 0, 0) (.slice none 0 0) := ⟨Try.zeroValue34, fun _ _ => hdr_rd⟩
set_option maxHeartbeats 2000000 in
theorem redges_spec (cs : List Value) (x : IR) (hx : FewI x) : Does Try.prog 12 [.agg cs.toArray] [Ag tyIR cs x] []
    (fun s : Option Addr × Nat => .slice s.1 (edges x).length s.2) (fun s => [Sl (Ty.slice Ty.int) s.1 s.2 (edges x)]) (fun _ => []) := by
  refine enter Try.func12 rfl Try.ntmps12 rfl fun b => ?_
  have hxl := hx.1
  refine GX.wR ?_; intros
  refine GX.nmP 1 ?_; rintro b1 rfl
  refine GX.nmB 3 ?_; rintro b3 rfl
  rw [hd_rep (α := Int)]
  refine osN 3 Ty.int x.codes.length ?_
  refine GX.loop (σ := EdS) (fun s => [(1, .pointer (some ⟨b1, 0, none⟩)), (3, .slice (some ⟨b3, 0, none⟩) x.codes.length x.codes.length), (4, .int .i64 (s.i : Int))]) (fun _ => [])
    (fun s => [Own 34 Ty.hdr (some ⟨b3, 0, none⟩) x.codes.length (s.L.map GX.hd), Owns 3 Ty.int s.L]) (fun s => s.i ≤ x.codes.length ∧ s.L.map (·.2.2) = edTo x s.i 0) (fun s => x.codes.length - s.i)
    ⟨0, List.replicate x.codes.length (none, 0, [])⟩ ⟨rfl, rfl, rfl, trivial⟩ ⟨by simp, by rw [edTo_zero]; simp⟩ (fun s hs => ?_)
  obtain ⟨i, L⟩ := s
  obtain ⟨hi, hL⟩ := hs
  dsimp only at *
  by_cases hlt : i < x.codes.length
  · obtain ⟨c, hc⟩ := get_lt hlt
    have hcl := hx.2 c (List.mem_of_getElem? hc)
    refine GX.wR ?_; intros
    refine GX.nmS 5 ?_; rintro aI cI rfl rfl
    refine GX.loop (σ := EdS) (fun s => [(1, .pointer (some ⟨b1, 0, none⟩)), (3, .slice (some ⟨b3, 0, none⟩) x.codes.length x.codes.length), (4, .int .i64 (i : Int)), (5, .slice aI c.ins.length cI), (6, .int .i64 (s.i : Int))]) (fun _ => [])
      (fun s => [Own 34 Ty.hdr (some ⟨b3, 0, none⟩) x.codes.length (s.L.map GX.hd), Owns 3 Ty.int s.L]) (fun s => s.i ≤ c.ins.length ∧ s.L.map (·.2.2) = edTo x i s.i) (fun s => c.ins.length - s.i)
      ⟨0, L⟩ ⟨rfl, rfl, rfl, rfl, rfl, trivial⟩ ⟨by simp, hL⟩ (fun s hs => ?_)
    clear hL
    obtain ⟨k, L⟩ := s
    obtain ⟨hk, hL⟩ := hs
    dsimp only at *
    have hLl : L.length = x.codes.length := by have := congrArg List.length hL; rw [List.length_map, edTo_len] at this; exact this
    have hLh : (L.map GX.hd).length = x.codes.length := by rw [List.length_map]; exact hLl
    by_cases hkl : k < c.ins.length
    · obtain ⟨y, hy⟩ := get_lt hkl
      have hst := edI_snoc (n := x.codes.length) hy
      have hset := edTo_set (k := k) hc
      have hget := edTo_get (k := k) hc
      have hlen := edI_len x.codes.length c.ins k
      obtain ⟨a, ca, hLy, hhy⟩ := snd_get hL hget
      have hyL : i < L.length := by omega
      have skip : ¬ Calls_ x.codes.length (edI x.codes.length (c.ins.take k)) y → edTo x i k = edTo x i (k + 1) := fun h => by
        rw [← hset, hst, addI_no h]; exact (set_get hget).symm
      by_cases h1 : y.op = 13
      · by_cases h2 : 0 ≤ y.c
        · by_cases h3 : y.c < (x.codes.length : Int)
          · obtain ⟨acc, hacc⟩ : ∃ acc, acc = edI x.codes.length (c.ins.take k) := ⟨_, rfl⟩
            rw [← hacc] at hLy hhy hst hlen hget skip
            refine osT (t := 3) (e := Ty.int) i ?_
            refine GX.wR ?_; intros
            refine GX.o (cl ((in_spec a ca acc y.c).lend (t := 3)) fun _ => ?_)
            by_cases h4 : y.c ∈ acc
            · have h4' := Classical.not_not.2 h4
              have hn := skip fun h => h.2.2.2 h4
              refine GX.wR ?_; intros
              refine osP (t := 3) (e := Ty.int) (ao := a) i ?_ (by rw [List.getElem?_set_self hyL])
              rw [List.set_set, set_get hLy]
              refine again ⟨k + 1, L⟩ ⟨rfl, rfl, rfl, rfl, rfl, trivial⟩ ⟨by dsimp only; omega, hL.trans hn⟩ (by dsimp only; omega)
            · rw [addI_yes ⟨h1, h2, h3, h4⟩] at hst
              refine GX.wR ?_; intros
              refine GX.nmS 68 ?_; rintro a3 c3 rfl rfl
              refine osP (t := 3) (e := Ty.int) (ao := a3) i ?_ (by rw [List.getElem?_set_self hyL])
              rw [List.set_set, hd_set]
              refine again ⟨k + 1, L.set i (a3, c3, acc ++ [y.c])⟩ ⟨rfl, rfl, rfl, rfl, rfl, trivial⟩ ⟨by dsimp only; omega, ?_⟩ (by dsimp only; omega)
              dsimp only
              rw [List.map_set, hL, ← hset, hst]
          · have hn := skip fun h => h3 h.2.2.1
            refine GX.wR ?_; intros
            refine again ⟨k + 1, L⟩ ⟨rfl, rfl, rfl, rfl, rfl, trivial⟩ ⟨by dsimp only; omega, hL.trans hn⟩ (by dsimp only; omega)
        · have hn := skip fun h => h2 h.2.1
          refine GX.wR ?_; intros
          refine again ⟨k + 1, L⟩ ⟨rfl, rfl, rfl, rfl, rfl, trivial⟩ ⟨by dsimp only; omega, hL.trans hn⟩ (by dsimp only; omega)
      · have hn := skip fun h => h1 h.1
        refine GX.wR ?_; intros
        refine again ⟨k + 1, L⟩ ⟨rfl, rfl, rfl, rfl, rfl, trivial⟩ ⟨by dsimp only; omega, hL.trans hn⟩ (by dsimp only; omega)
    · rw [edTo_next hc (by omega)] at hL
      refine GX.wR ?_; intros
      exact again ⟨i + 1, L⟩ ⟨rfl, rfl, rfl, trivial⟩ ⟨by dsimp only; omega, hL⟩ (by dsimp only; omega)
  · have hil : i = x.codes.length := by omega
    subst hil
    refine GX.wR ?_; intros
    refine frzG (t := 3) (e := Ty.int) (l := L) ?_
    have e : L.map (fun x => x.2.2) = edges x := hL.trans (edTo_all x)
    rw [e]
    exact rt1 (some ⟨b3, 0, none⟩, x.codes.length) (congrArg (fun m => Value.slice (some ⟨b3, 0, none⟩) m x.codes.length) (edges_len x))
end Go.Proofs.Ytkfbchefealfoaa
