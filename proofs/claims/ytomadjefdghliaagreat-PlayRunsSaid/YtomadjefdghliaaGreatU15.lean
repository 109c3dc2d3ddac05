import Derived.Test.YtomadjefdghliaaGreatU12
namespace Go.GX
open Go Go.RowKit Go.RR Go.RX
theorem Does.to {P : Program} {f : FuncId} {args : List Value} {ps : List Pf} {hp : List Res} {σ σ' : Type} {val : σ → Value} {ps' : σ → List Pf} {hp' : σ → List Res} {val' : σ' → Value} {qs' : σ' → List Pf} {hq' : σ' → List Res}
  (h : Does P f args ps hp val ps' hp') (g : σ → σ') (h1 : ∀ s, val s = val' (g s)) (h2 : ∀ s, ps' s = qs' (g s)) (h3 : ∀ s, hp' s = hq' (g s)) : Does P f args ps hp val' qs' hq' := ⟨fun w F b st => by
 refine Calls.mono (h.run w F b st) fun e w' hR => ?_
 obtain ⟨s, e1, e2⟩ := hR
 exact ⟨g s, by rw [e1, h1], by rw [← h2, ← h3]; exact e2⟩⟩
end Go.GX
namespace Go.Proofs.YtomadjefdghliaaGreat
open Go Go.RR Go.RX Go.GX Go.Api
attribute [local irreducible] wpList Code.wp wpPlan Exit.then Exit.inBlock bodyPost NoPanic Went GX.Post GX.Again GX.Meet GX.RowR GX.Own GX.Owns GX.Box GX.Sl GX.Pt GX.Ag
def rcT (T : Tb) : RefC := ⟨none, 0, T.B, none, 0, T.L.map (fun q => (q.1, none, 0, q.2)), T.peak, T.most⟩
theorem rcT_row (T : Tb) : (rcT T).L.map row = T.L := by
 show (T.L.map _).map row = T.L
 rw [List.map_map]
 exact (List.map_congr_left fun q _ => rfl).trans (List.map_id _)
abbrev TInv (c : TabC) (T : Tb) : Prop := Inv c (rcT T)
theorem Inv.toT {c : TabC} {d : RefC} (h : Inv c d) {T : Tb} (hB : T.B = d.B) (hL : T.L = d.L.map row) (hp : T.peak = d.peak) (hm : T.most = d.most) : TInv c T := by
 have e := rcT_row T
 refine ⟨h.B.trans hB.symm, by rw [e, hL]; exact h.L, ?_, h.peak.trans hp.symm, ?_, h.most.trans hm.symm, fun k x hx => ?_, fun q hq => ?_⟩
 ·show c.gone = (T.B.length : Int) - liveN T.B
  rw [hB]; exact h.gone
 ·show c.many = nowN T.B ((rcT T).L.map row)
  rw [e, hB, hL]; exact h.many
 ·rw [e, hL]; exact h.each k x hx
 ·rw [e, hL] at hq
  show q.1 ≤ (T.B.length : Int)
  rw [hB]; exact h.reg q hq
theorem TInv.L {c : TabC} {T : Tb} (h : TInv c T) : c.L.map row = T.L := by rw [Inv.L h, rcT_row]
theorem TInv.B {c : TabC} {T : Tb} (h : TInv c T) : c.R.map (·.live) = T.B := Inv.B h
theorem TInv.len {c : TabC} {T : Tb} (h : TInv c T) : c.R.length = T.B.length ∧ c.L.length = T.L.length := by
 have h1 := congrArg List.length h.B
 have h2 := congrArg List.length h.L
 simp at h1 h2
 exact ⟨h1, h2⟩
theorem TInv.zero : TInv ⟨none, 0, [], none, 0, [], 0, 0, 0, 0⟩ Tb.zero := Inv.start.toT rfl rfl rfl rfl
theorem TInv.bounds {c : TabC} {T : Tb} (h : TInv c T) : (0 ≤ c.gone ∧ c.gone ≤ T.B.length) ∧ (0 ≤ c.many ∧ c.many ≤ T.L.length) ∧ ∀ (k : Nat) x, c.R[k]? = some x → 0 ≤ x.many ∧ x.many ≤ T.L.length := by
 obtain ⟨h1, h2, h3⟩ := Inv.bounds h
 rw [rcT_row] at h2 h3
 have hl : (rcT T).L.length = T.L.length := by show (T.L.map _).length = _; rw [List.length_map]
 rw [hl] at h2 h3
 have hg := Inv.gone h
 have hm := Inv.many h
 rw [rcT_row] at hm
 have h1' : liveN T.B ≤ T.B.length := h1
 have h2' : nowN T.B T.L ≤ T.L.length := h2
 have hg' : c.gone = (T.B.length : Int) - liveN T.B := hg
 have hm' : c.many = nowN T.B T.L := hm
 refine ⟨⟨by omega, by omega⟩, ⟨by omega, by omega⟩, fun k x hx => ?_⟩
 have := Inv.each h k x hx
 rw [rcT_row] at this
 have h4 := h3 k
 omega
theorem tHas_spec (p : Nat) {c : TabC} {T : Tb} (h : TInv c T) (r : Int) : Does Tryz.prog 112 [.pointer (some ⟨p, 0, none⟩), .int .i64 r] [] [RowR p 86 [.slice c.aR c.R.length c.cR, .slice c.aL c.L.length c.cL, .int .i64 c.gone, .int .i64 c.peak, .int .i64 c.many, .int .i64 c.most], GX.Own 90 tyRegion c.aR c.cR c.R, GX.Own 148 tyThing c.aL c.cL (c.L.map thg), Owns 3 Ty.int (c.L.map (fun x : Th => x.2))] (fun _ : Unit => .bool (hasB T.B r)) (fun _ => []) (fun _ => [RowR p 86 [.slice c.aR c.R.length c.cR, .slice c.aL c.L.length c.cL, .int .i64 c.gone, .int .i64 c.peak, .int .i64 c.many, .int .i64 c.most], GX.Own 90 tyRegion c.aR c.cR c.R, GX.Own 148 tyThing c.aL c.cL (c.L.map thg), Owns 3 Ty.int (c.L.map (fun x : Th => x.2))]) := by
 have := has_spec p c r
 rwa [has_B, h.B] at this
theorem tMake_spec (p : Nat) {c : TabC} {T : Tb} (h : TInv c T) (hl : T.B.length ≤ 1000000000) : Does Tryz.prog 21 [.pointer (some ⟨p, 0, none⟩)] [] [RowR p 86 [.slice c.aR c.R.length c.cR, .slice c.aL c.L.length c.cL, .int .i64 c.gone, .int .i64 c.peak, .int .i64 c.many, .int .i64 c.most], GX.Own 90 tyRegion c.aR c.cR c.R, GX.Own 148 tyThing c.aL c.cL (c.L.map thg), Owns 3 Ty.int (c.L.map (fun x : Th => x.2))] (fun _ : { c' : TabC // TInv c' T.make } => .int .i64 ((T.B.length + 1 : Nat) : Int)) (fun _ => [])
  (fun s => [RowR p 86 [.slice s.1.aR s.1.R.length s.1.cR, .slice s.1.aL s.1.L.length s.1.cL, .int .i64 s.1.gone, .int .i64 s.1.peak, .int .i64 s.1.many, .int .i64 s.1.most], GX.Own 90 tyRegion s.1.aR s.1.cR s.1.R, GX.Own 148 tyThing s.1.aL s.1.cL (s.1.L.map thg), Owns 3 Ty.int (s.1.L.map (fun x : Th => x.2))]) := by
 have hb := h.bounds
 have hn := h.len
 have hs := make_spec p c (by omega) (by omega)
 have key : ∀ s : Option Addr × Nat, TInv (TabC.mk s.1 s.2 (c.R ++ [⟨true, 0⟩]) c.aL c.cL c.L c.gone (max c.peak (((c.R.length + 1 : Nat) : Int) - c.gone)) c.many c.most) T.make := fun s => (Inv.make h s (none, 0)).toT rfl (rcT_row T).symm rfl rfl
 exact hs.to (σ' := { c' : TabC // TInv c' T.make }) (fun s => ⟨_, key s⟩) (fun _ => by rw [hn.1]) (fun _ => rfl) (fun _ => rfl)
theorem tRem_spec (p : Nat) {c : TabC} {T : Tb} (h : TInv c T) (r : Int) (hl : T.B.length ≤ 1000000000) (hL : T.L.length ≤ 1000000000) : Does Tryz.prog 67 [.pointer (some ⟨p, 0, none⟩), .int .i64 r] [] [RowR p 86 [.slice c.aR c.R.length c.cR, .slice c.aL c.L.length c.cL, .int .i64 c.gone, .int .i64 c.peak, .int .i64 c.many, .int .i64 c.most], GX.Own 90 tyRegion c.aR c.cR c.R, GX.Own 148 tyThing c.aL c.cL (c.L.map thg), Owns 3 Ty.int (c.L.map (fun x : Th => x.2))] (fun _ : { c' : TabC // TInv c' (T.rem r) } => .bool (hasB T.B r)) (fun _ => [])
  (fun s => [RowR p 86 [.slice s.1.aR s.1.R.length s.1.cR, .slice s.1.aL s.1.L.length s.1.cL, .int .i64 s.1.gone, .int .i64 s.1.peak, .int .i64 s.1.many, .int .i64 s.1.most], GX.Own 90 tyRegion s.1.aR s.1.cR s.1.R, GX.Own 148 tyThing s.1.aL s.1.cL (s.1.L.map thg), Owns 3 Ty.int (s.1.L.map (fun x : Th => x.2))]) := by
 have hb := h.bounds
 have hn := h.len
 by_cases hr : hasB T.B r = true
 ·have e : T.rem r = ⟨T.B.set (r - 1).toNat false, T.L, T.peak, T.most⟩ := by unfold Tb.rem; rw [if_pos hr]
  rw [e, hr]
  rw [← h.B, ← has_B] at hr
  obtain ⟨k, x, rfl, hk, hx⟩ := has_get hr
  have hkl := (List.getElem?_eq_some_iff.1 hk).1
  have hs := remove_yes p c k x hk hx (by omega) (by omega) (by have := hb.2.2 k x hk; omega) (by omega)
  refine hs.to (fun _ => ⟨_, (Inv.remove h hk hx).toT ?_ (rcT_row T).symm rfl rfl⟩) (fun _ => rfl) (fun _ => rfl) (fun _ => rfl)
  show T.B.set ((k : Int) + 1 - 1).toNat false = T.B.set k false
  rw [show ((k : Int) + 1 - 1).toNat = k by omega]
 ·have hr : hasB T.B r = false := by simpa using hr
  have e : T.rem r = T := by unfold Tb.rem; rw [if_neg (by rw [hr]; simp)]
  rw [e, hr]
  exact (remove_no p c r (by rw [has_B, h.B]; exact hr)).to (fun _ => ⟨c, h⟩) (fun _ => rfl) (fun _ => rfl) (fun _ => rfl)
theorem tAdd_spec (p : Nat) {c : TabC} {T : Tb} (h : TInv c T) (r n : Int) (hl : T.B.length ≤ 1000000000) (hL : T.L.length ≤ 1000000000) : Does Tryz.prog 139 [.pointer (some ⟨p, 0, none⟩), .int .i64 r, .int .i64 n] [] [RowR p 86 [.slice c.aR c.R.length c.cR, .slice c.aL c.L.length c.cL, .int .i64 c.gone, .int .i64 c.peak, .int .i64 c.many, .int .i64 c.most], GX.Own 90 tyRegion c.aR c.cR c.R, GX.Own 148 tyThing c.aL c.cL (c.L.map thg), Owns 3 Ty.int (c.L.map (fun x : Th => x.2))]
  (fun _ : { c' : TabC // TInv c' (T.add r n) } => .tuple #[.int .i64 (if hasB T.B r = true then ((T.L.length + 1 : Nat) : Int) else 0), .bool (hasB T.B r)]) (fun _ => []) (fun s => [RowR p 86 [.slice s.1.aR s.1.R.length s.1.cR, .slice s.1.aL s.1.L.length s.1.cL, .int .i64 s.1.gone, .int .i64 s.1.peak, .int .i64 s.1.many, .int .i64 s.1.most], GX.Own 90 tyRegion s.1.aR s.1.cR s.1.R, GX.Own 148 tyThing s.1.aL s.1.cL (s.1.L.map thg), Owns 3 Ty.int (s.1.L.map (fun x : Th => x.2))]) := by
 have hb := h.bounds
 have hn := h.len
 by_cases hr : hasB T.B r = true
 ·have e : T.add r n = ⟨T.B, T.L ++ [(r, List.replicate (cells n) 0)], T.peak, max T.most (nowN T.B (T.L ++ [(r, List.replicate (cells n) 0)]) : Int)⟩ := by unfold Tb.add; rw [if_pos hr]
  rw [e, hr, if_pos rfl]
  rw [← h.B, ← has_B] at hr
  obtain ⟨k, x, rfl, hk, hx⟩ := has_get hr
  have hkl := (List.getElem?_eq_some_iff.1 hk).1
  have hs := add_yes p c k x n hk hx (by omega) (by have := hb.2.2 k x hk; omega) (by omega) (by omega)
  have key : ∀ s : Nat × Option Addr × Nat, TInv (TabC.mk c.aR c.cR (c.R.set k ⟨x.live, x.many + 1⟩) s.2.1 s.2.2 (c.L ++ [((k : Int) + 1, some ⟨s.1, 0, none⟩, cells n, List.replicate (cells n) 0)]) c.gone c.peak (c.many + 1) (max c.most (c.many + 1))) ⟨T.B, T.L ++ [((k : Int) + 1, List.replicate (cells n) 0)], T.peak, max T.most (nowN T.B (T.L ++ [((k : Int) + 1, List.replicate (cells n) 0)]) : Int)⟩ := fun s => by
   refine (Inv.add (m := cells n) h hk hx s (0, none, 0)).toT rfl ?_ rfl ?_
   ·show T.L ++ _ = ((rcT T).L ++ _).map row
    rw [List.map_append, rcT_row]; rfl
   ·show max T.most _ = max T.most _
    rw [rcT_row]; rfl
  exact hs.to (fun s => ⟨_, key s⟩) (fun _ => by rw [hn.2]) (fun _ => rfl) (fun _ => rfl)
 ·have hr : hasB T.B r = false := by simpa using hr
  have e : T.add r n = T := by unfold Tb.add; rw [if_neg (by rw [hr]; simp)]
  rw [e, hr, if_neg (by simp)]
  exact (add_no p c r n (by rw [has_B, h.B]; exact hr)).to (fun _ => ⟨c, h⟩) (fun _ => rfl) (fun _ => rfl) (fun _ => rfl)
theorem tLen_spec (p : Nat) {c : TabC} {T : Tb} (h : TInv c T) (ref : Int) (hL : T.L.length ≤ 1000000000) : Does Tryz.prog 108 [.pointer (some ⟨p, 0, none⟩), .int .i64 ref] [] [RowR p 86 [.slice c.aR c.R.length c.cR, .slice c.aL c.L.length c.cL, .int .i64 c.gone, .int .i64 c.peak, .int .i64 c.many, .int .i64 c.most], GX.Own 90 tyRegion c.aR c.cR c.R, GX.Own 148 tyThing c.aL c.cL (c.L.map thg), Owns 3 Ty.int (c.L.map (fun x : Th => x.2))]
  (fun _ : Unit => .tuple #[.int .i64 (lenP T.B T.L ref).1, .int .i64 (lenP T.B T.L ref).2]) (fun _ => []) (fun _ => [RowR p 86 [.slice c.aR c.R.length c.cR, .slice c.aL c.L.length c.cL, .int .i64 c.gone, .int .i64 c.peak, .int .i64 c.many, .int .i64 c.most], GX.Own 90 tyRegion c.aR c.cR c.R, GX.Own 148 tyThing c.aL c.cL (c.L.map thg), Owns 3 Ty.int (c.L.map (fun x : Th => x.2))]) := by
 have hs := len_spec p c ref (by rw [h.len.2]; exact hL)
 rwa [h.B, h.L] at hs
theorem tLoad_spec (p : Nat) {c : TabC} {T : Tb} (h : TInv c T) (ref i : Int) (hL : T.L.length ≤ 1000000000) : Does Tryz.prog 105 [.pointer (some ⟨p, 0, none⟩), .int .i64 ref, .int .i64 i] [] [RowR p 86 [.slice c.aR c.R.length c.cR, .slice c.aL c.L.length c.cL, .int .i64 c.gone, .int .i64 c.peak, .int .i64 c.many, .int .i64 c.most], GX.Own 90 tyRegion c.aR c.cR c.R, GX.Own 148 tyThing c.aL c.cL (c.L.map thg), Owns 3 Ty.int (c.L.map (fun x : Th => x.2))]
  (fun _ : Unit => .tuple #[.int .i64 (loadP T.B T.L ref i).1, .int .i64 (loadP T.B T.L ref i).2]) (fun _ => []) (fun _ => [RowR p 86 [.slice c.aR c.R.length c.cR, .slice c.aL c.L.length c.cL, .int .i64 c.gone, .int .i64 c.peak, .int .i64 c.many, .int .i64 c.most], GX.Own 90 tyRegion c.aR c.cR c.R, GX.Own 148 tyThing c.aL c.cL (c.L.map thg), Owns 3 Ty.int (c.L.map (fun x : Th => x.2))]) := by
 have hs := load_spec p c ref i (by rw [h.len.2]; exact hL)
 rwa [h.B, h.L] at hs
theorem tPut_spec (p : Nat) {c : TabC} {T : Tb} (h : TInv c T) (ref i v : Int) (hL : T.L.length ≤ 1000000000) : Does Tryz.prog 107 [.pointer (some ⟨p, 0, none⟩), .int .i64 ref, .int .i64 i, .int .i64 v] [] [RowR p 86 [.slice c.aR c.R.length c.cR, .slice c.aL c.L.length c.cL, .int .i64 c.gone, .int .i64 c.peak, .int .i64 c.many, .int .i64 c.most], GX.Own 90 tyRegion c.aR c.cR c.R, GX.Own 148 tyThing c.aL c.cL (c.L.map thg), Owns 3 Ty.int (c.L.map (fun x : Th => x.2))]
  (fun _ : { c' : TabC // TInv c' (T.put ref i v) } => .int .i64 (loadP T.B T.L ref i).2) (fun _ => []) (fun s => [RowR p 86 [.slice s.1.aR s.1.R.length s.1.cR, .slice s.1.aL s.1.L.length s.1.cL, .int .i64 s.1.gone, .int .i64 s.1.peak, .int .i64 s.1.many, .int .i64 s.1.most], GX.Own 90 tyRegion s.1.aR s.1.cR s.1.R, GX.Own 148 tyThing s.1.aL s.1.cL (s.1.L.map thg), Owns 3 Ty.int (s.1.L.map (fun x : Th => x.2))]) := by
 have hs := put_spec p c ref i v (by rw [h.len.2]; exact hL)
 have e1 : loadP (c.R.map (·.live)) (c.L.map row) ref i = loadP T.B T.L ref i := by rw [h.B, h.L]
 rw [e1] at hs
 refine hs.to (fun _ => ⟨_, (Inv.put h ref i v).toT rfl ?_ rfl rfl⟩) (fun _ => rfl) (fun _ => rfl) (fun _ => rfl)
 show (putP T.B T.L ref i v).2 = (putTo (rcT T).B (rcT T).L ref i v).map row
 rw [putTo_row, rcT_row]; rfl
theorem tCount_spec (p : Nat) {c : TabC} {T : Tb} (h : TInv c T) : Does Tryz.prog 27 [.pointer (some ⟨p, 0, none⟩)] [] [RowR p 86 [.slice c.aR c.R.length c.cR, .slice c.aL c.L.length c.cL, .int .i64 c.gone, .int .i64 c.peak, .int .i64 c.many, .int .i64 c.most], GX.Own 90 tyRegion c.aR c.cR c.R, GX.Own 148 tyThing c.aL c.cL (c.L.map thg), Owns 3 Ty.int (c.L.map (fun x : Th => x.2))] (fun _ : Unit => .tuple #[.int .i64 (T.B.length : Int), .int .i64 ((T.B.length : Int) - (liveN T.B : Int)), .int .i64 T.peak]) (fun _ => []) (fun _ => [RowR p 86 [.slice c.aR c.R.length c.cR, .slice c.aL c.L.length c.cL, .int .i64 c.gone, .int .i64 c.peak, .int .i64 c.many, .int .i64 c.most], GX.Own 90 tyRegion c.aR c.cR c.R, GX.Own 148 tyThing c.aL c.cL (c.L.map thg), Owns 3 Ty.int (c.L.map (fun x : Th => x.2))]) := by
 have hs := count_spec p c
 exact hs.to id (fun _ => by rw [h.len.1, show c.gone = (T.B.length : Int) - (liveN T.B : Int) from Inv.gone h, show c.peak = T.peak from Inv.peak h]) (fun _ => rfl) (fun _ => rfl)
theorem tThings_spec (p : Nat) {c : TabC} {T : Tb} (h : TInv c T) : Does Tryz.prog 28 [.pointer (some ⟨p, 0, none⟩)] [] [RowR p 86 [.slice c.aR c.R.length c.cR, .slice c.aL c.L.length c.cL, .int .i64 c.gone, .int .i64 c.peak, .int .i64 c.many, .int .i64 c.most], GX.Own 90 tyRegion c.aR c.cR c.R, GX.Own 148 tyThing c.aL c.cL (c.L.map thg), Owns 3 Ty.int (c.L.map (fun x : Th => x.2))] (fun _ : Unit => .tuple #[.int .i64 c.many, .int .i64 T.most]) (fun _ => []) (fun _ => [RowR p 86 [.slice c.aR c.R.length c.cR, .slice c.aL c.L.length c.cL, .int .i64 c.gone, .int .i64 c.peak, .int .i64 c.many, .int .i64 c.most], GX.Own 90 tyRegion c.aR c.cR c.R, GX.Own 148 tyThing c.aL c.cL (c.L.map thg), Owns 3 Ty.int (c.L.map (fun x : Th => x.2))]) := by
 have hs := things_spec p c
 exact hs.to id (fun _ => by rw [show c.most = T.most from Inv.most h]) (fun _ => rfl) (fun _ => rfl)
end Go.Proofs.YtomadjefdghliaaGreat
