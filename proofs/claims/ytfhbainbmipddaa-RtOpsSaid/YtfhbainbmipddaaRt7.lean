/- The walks over package rt: Fields, Global, Out. -/
import Derived.Test.YtfhbainbmipddaaRt1
import Derived.Test.YtfhbainbmipddaaReach
import Derived.Test.YtfhbainbmipddaaSlcDF
namespace Go.Proofs.Ytfhbainbmipddaa
open Go Go.RR Go.RX Go.GX Go.Api Go.RiseM Go.ReachM Go.RtM
attribute [local irreducible] wpList Code.wp wpPlan Exit.then Exit.inBlock bodyPost NoPanic Went GX.Post GX.Again GX.Meet GX.RowR GX.Own GX.Owns GX.Box GX.Sl GX.Pt GX.Ag GX.MapR GX.Kept GX.Pin wpT GoK AtEnd Both

theorem fields_spec (cs : List Value) (t : RTg) (hs : Small t) : Does Try.prog 15 [.agg cs.toArray] [Ag tyRTg cs t] []
    (fun s : Option Addr × Nat => .slice s.1 (flds t).length s.2) (fun s => [Sl (Ty.slice Ty.int) s.1 s.2 (flds t)]) (fun _ => []) := by
  have hc := hs.classes
  refine enter Try.func15 rfl Try.ntmps15 rfl fun b => ?_
  refine GX.wR ?_; intros
  refine GX.nmS 7 ?_; rintro aC cC rfl rfl
  refine ownNil 23 (Ty.slice Ty.int) ?_
  refine GX.loop (σ := Nat × Option Addr × Nat) (fun s => [(3, .slice s.2.1 ((flds t).take s.1).length s.2.2), (7, .slice aC t.classes.length cC), (8, .int .i64 (t.classes.length : Int)), (9, .int .i64 (s.1 : Int))]) (fun _ => [])
    (fun s => [Own 23 (Ty.slice Ty.int) s.2.1 s.2.2 ((flds t).take s.1)]) (fun s => s.1 ≤ t.classes.length) (fun s => t.classes.length - s.1) (0, none, 0) ⟨rfl, rfl, rfl, rfl, trivial⟩ (by simp) (fun s hs2 => ?_)
  obtain ⟨i, aF, cF⟩ := s
  dsimp only at *
  have hfl := flds_len t
  have htl : ((flds t).take i).length = i := by rw [List.length_take]; omega
  by_cases hlt : i < t.classes.length
  · obtain ⟨L, hL⟩ := get_lt hlt
    have hr := hs.ref (List.mem_of_getElem? hL)
    have e : (flds t).take i ++ [L.refs] = (flds t).take (i + 1) := by
      rw [List.take_add_one]; unfold flds; rw [List.getElem?_map, hL]; rfl
    refine GX.wR ?_; intros
    refine GX.nmS 15 ?_; rintro aR cR rfl rfl
    refine GX.o (cl (clone_spec aR cR L.refs (by omega)) fun s => ?_)
    obtain ⟨aN, cN⟩ := s
    dsimp only
    refine frz aN ?_
    refine GX.wR ?_; intros
    rw [e]
    refine GX.nmS 18 ?_; rintro a3 c3 rfl rfl
    refine GX.wR ?_; intros
    exact again (i + 1, a3, c3) ⟨rfl, rfl, rfl, rfl, trivial⟩ (by dsimp only; omega) (by dsimp only; omega)
  · rw [List.take_of_length_le (by omega)]
    refine GX.wR ?_; intros
    refine frz aF ?_
    exact rt1 (aF, cF) rfl
theorem global_spec (cs : List Value) (t : RTg) (hs : Small t) : Does Try.prog 18 [.agg cs.toArray] [Ag tyRTg cs t] []
    (fun s : Option Addr × Nat => .slice s.1 (glob t).length s.2) (fun s => [Sl Ty.int s.1 s.2 (glob t)]) (fun _ => []) := by
  have hc := hs.classes
  have hg := hs.globals
  have hr := hs.refs
  have hfl := flds_len t
  refine enter Try.func18 rfl Try.ntmps18 rfl fun b => ?_
  refine GX.wR ?_; intros
  refine GX.drawn0  (fun j => !(List.contains [4] j)) [(0, true), (2, true), (3, true), (1, false), (4, false), (5, true)] rfl (by kernel_rfl) (by kernel_rfl) (by first | ((repeat (first | apply Go.GX.SelR.nil | apply Go.GX.SelR.cons | (with_reducible apply Go.GX.TakeR.head) | apply Go.GX.TakeR.tail)); done) | (repeat (first | apply Go.GX.SelR.nil | apply Go.GX.SelR.cons | apply Go.GX.TakeR.head | apply Go.GX.TakeR.tail))) ?_; intro wd F hW hR
  refine GX.wT ?_; intros
  refine GX.nmS 6 ?_; rintro aG cG rfl rfl
  refine GX.gow ?_
  refine (cl (fields_spec _ t hs) fun s => ?_)
  obtain ⟨aF, cF⟩ := s
  dsimp only
  refine GX.wT ?_; intros
  refine GX.gow ?_
  refine (cl (from_spec aF aG cF cG (flds t) t.globals (by omega) hr hg) fun s => ?_)
  obtain ⟨a2, c2⟩ := s
  dsimp only
  refine GX.wT ?_; intros
  refine GX.wR ?_; intros
  refine frz a2 ?_
  exact rt1 (a2, c2) rfl
theorem out1_spec (bl : Nat) (g : List Int) (n : Int) : Does Try.prog 38 [.int .i64 n, .pointer (some ⟨bl, 0, none⟩)] [Pt (Ty.slice Ty.int) bl 0 g] [] (fun _ : Unit => .bool (decide (n ∈ g))) (fun _ => []) (fun _ => []) := by
  refine enter Try.func38 rfl Try.ntmps38 rfl fun b => ?_
  refine GX.wR ?_; intros
  refine GX.nmS 4 ?_; rintro ao cap rfl rfl
  refine GX.o (cl (contains_spec ao cap g n) fun _ => ?_)
  refine GX.wR ?_; intros
  exact rt1 () rfl
theorem out_kept (t : RTg) (u : Unt) : kept (fun n => decide (n ∈ glob t)) (fromL (flds t) (roots u)) (fromL (flds t) (roots u)).length = outOf t u := by
  unfold kept outOf
  rw [List.take_length]
  exact List.filter_congr fun x _ => by by_cases h : x ∈ glob t <;> simp [h]
set_option maxHeartbeats 1000000 in
theorem out_spec (cs : List Value) (t : RTg) (hs : Small t) (k : Int) : Does Try.prog 20 [.agg cs.toArray, .int .i64 k] [Ag tyRTg cs t] []
    (fun s : Option Addr × Nat => .slice s.1 (out t k).length s.2) (fun s => [Sl Ty.int s.1 s.2 (out t k)]) (fun _ => []) := by
  by_cases h1 : k < 0
  · rw [out_none (.inl h1)]
    refine enter Try.func20 rfl Try.ntmps20 rfl fun b => ?_
    refine GX.wR ?_; intros
    refine slNil Ty.int ?_
    exact rt1 (none, 0) rfl
  by_cases h2 : (t.units.length : Int) ≤ k
  · rw [out_none (.inr h2)]
    refine enter Try.func20 rfl Try.ntmps20 rfl fun b => ?_
    refine GX.wR ?_; intros
    refine slNil Ty.int ?_
    exact rt1 (none, 0) rfl
  obtain ⟨k, rfl⟩ := Int.eq_ofNat_of_zero_le (show 0 ≤ k by omega)
  obtain ⟨u, hu⟩ := get_lt (show k < t.units.length by omega)
  rw [out_some hu]
  have hc := hs.classes
  have hr := hs.refs
  have hfl := flds_len t
  have hp := pars_le u
  have hul := (hs.unit u (List.mem_of_getElem? hu)).1
  have hpe : ((pars u : Nat) : Int) = min (max u.params 0) (u.vars.length : Int) := by unfold pars; omega
  have hrl := roots_len u
  have htk : (u.vars.take (min (max u.params 0) (u.vars.length : Int)).toNat).length ≤ 1073741824 := by rw [List.length_take]; omega
  have hro : u.vars.take (min (max u.params 0) (u.vars.length : Int)).toNat ++ [u.result] = roots u := rfl
  refine enter Try.func20 rfl Try.ntmps20 rfl fun b => ?_
  refine GX.wR ?_; intros
  refine GX.o (cl (global_spec _ t hs) fun s => ?_)
  obtain ⟨aG, cG⟩ := s
  dsimp only
  refine GX.wR ?_; intros
  refine GX.nmP 5 ?_; rintro b5 rfl
  refine GX.nmP 7 ?_; rintro b7 rfl
  refine frzB b5 ?_
  refine frzB b7 ?_
  refine GX.drawnT (fun j => !(List.contains [] j)) (.br [(0, true), (2, true), (3, true), (4, true), (5, true), (7, true), (8, true)] (.alt 1 (.br [] (.alt 6 (.lin [(9, false), (10, false), (11, false), (12, true)]) (.alt 9 (.lin [(6, false), (10, false), (11, false), (12, true)]) .nil))) (.alt 9 (.lin [(1, false), (6, false), (10, false), (11, false), (12, true)]) .nil))) (by kernel_rfl) (by kernel_rfl) ?_; intro wd F hW hR
  refine GX.wT ?_; intros
  refine GX.treeA ?_ ?_
  · refine GX.gok ?_
    refine (cl (fields_spec _ t hs) fun s => ?_)
    obtain ⟨aF, cF⟩ := s
    dsimp only
    refine GX.wT ?_; intros
    refine GX.treeA ?_ ?_
    · refine GX.gok ?_
      refine (cl (clone_spec _ _ (u.vars.take (min (max u.params 0) (u.vars.length : Int)).toNat) (by omega)) fun s => ?_)
      obtain ⟨aV, cV⟩ := s
      dsimp only
      refine GX.wT ?_; intros
      refine GX.nmS 42 ?_; rintro aL cL rfl rfl
      rw [hro]
      refine frz aL ?_
      refine GX.gow ?_
      refine (cl (from_spec aF aL cF cL (flds t) (roots u) (by omega) hr (by omega)) fun s => ?_)
      obtain ⟨aR, cR⟩ := s
      dsimp only
      refine GX.wT ?_; intros
      refine GX.wR ?_; intros
      refine GX.o (cl (deleteFunc_spec aR cR (fromL (flds t) (roots u)) 38 [.pointer (some ⟨b7, 0, none⟩)] [Pt (Ty.slice Ty.int) b7 0 (glob t)] [] (fun n => decide (n ∈ glob t)) (fun n _ => out1_spec b7 (glob t) n)) fun _ => ?_)
      rw [out_kept]
      refine GX.wR ?_; intros
      refine frz aR ?_
      exact rt1 (aR, cR) rfl
    · refine GX.wT ?_; intros
      refine GX.gow ?_
      refine (cl (clone_spec _ _ (u.vars.take (min (max u.params 0) (u.vars.length : Int)).toNat) (by omega)) fun s => ?_)
      obtain ⟨aV, cV⟩ := s
      dsimp only
      refine GX.wT ?_; intros
      refine GX.nmS 42 ?_; rintro aL cL rfl rfl
      rw [hro]
      refine frz aL ?_
      refine GX.gow ?_
      refine (cl (from_spec aF aL cF cL (flds t) (roots u) (by omega) hr (by omega)) fun s => ?_)
      obtain ⟨aR, cR⟩ := s
      dsimp only
      refine GX.wT ?_; intros
      refine GX.wR ?_; intros
      refine GX.o (cl (deleteFunc_spec aR cR (fromL (flds t) (roots u)) 38 [.pointer (some ⟨b7, 0, none⟩)] [Pt (Ty.slice Ty.int) b7 0 (glob t)] [] (fun n => decide (n ∈ glob t)) (fun n _ => out1_spec b7 (glob t) n)) fun _ => ?_)
      rw [out_kept]
      refine GX.wR ?_; intros
      refine frz aR ?_
      exact rt1 (aR, cR) rfl
  · refine GX.wT ?_; intros
    refine GX.gow ?_
    refine (cl (fields_spec _ t hs) fun s => ?_)
    obtain ⟨aF, cF⟩ := s
    dsimp only
    refine GX.wT ?_; intros
    refine GX.gow ?_
    refine (cl (clone_spec _ _ (u.vars.take (min (max u.params 0) (u.vars.length : Int)).toNat) (by omega)) fun s => ?_)
    obtain ⟨aV, cV⟩ := s
    dsimp only
    refine GX.wT ?_; intros
    refine GX.nmS 42 ?_; rintro aL cL rfl rfl
    rw [hro]
    refine frz aL ?_
    refine GX.gow ?_
    refine (cl (from_spec aF aL cF cL (flds t) (roots u) (by omega) hr (by omega)) fun s => ?_)
    obtain ⟨aR, cR⟩ := s
    dsimp only
    refine GX.wT ?_; intros
    refine GX.wR ?_; intros
    refine GX.o (cl (deleteFunc_spec aR cR (fromL (flds t) (roots u)) 38 [.pointer (some ⟨b7, 0, none⟩)] [Pt (Ty.slice Ty.int) b7 0 (glob t)] [] (fun n => decide (n ∈ glob t)) (fun n _ => out1_spec b7 (glob t) n)) fun _ => ?_)
    rw [out_kept]
    refine GX.wR ?_; intros
    refine frz aR ?_
    exact rt1 (aR, cR) rfl
end Go.Proofs.Ytfhbainbmipddaa
