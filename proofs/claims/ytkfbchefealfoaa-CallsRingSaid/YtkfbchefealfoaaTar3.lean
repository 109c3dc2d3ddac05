/- The walk over Comps of package calls. -/
import Derived.Test.YtkfbchefealfoaaTar2
import Derived.Test.YtkfbchefealfoaaTarTop
import Derived.Test.YtkfbchefealfoaaCal2
namespace Go.Proofs.Ytkfbchefealfoaa
open Go Go.RR Go.RX Go.GX Go.Api Go.CalM Go.TarM Go.RiseM
attribute [local irreducible] wpList Code.wp wpPlan Exit.then Exit.inBlock bodyPost NoPanic Went GX.Post GX.Again GX.Meet GX.RowR GX.Own GX.Owns GX.Box GX.Sl GX.Pt GX.Ag GX.MapR GX.Kept GX.Pin wpT GoK AtEnd Both

structure CpS where
  p : Nat
  bm : Nat
  bl : Nat
  bd : Nat
  aE : Option Addr
  cE : Nat
  xm : List Int
  xl : List Int
  xd : List Bool
structure CpT where
  s : TS
  c : TH
  i : Nat
set_option maxHeartbeats 4000000 in
theorem comps_spec (cs : List Value) (x : IR) (hx : FewI x) : Does Try.prog 14 [.agg cs.toArray] [Ag tyIR cs x] []
    (fun s : Option Addr × Nat => .slice s.1 ((comps0 (gr x)).map zs).length s.2) (fun s => [Sl (Ty.slice Ty.int) s.1 s.2 ((comps0 (gr x)).map zs)]) (fun _ => []) := by
  refine enter Try.func14 rfl Try.ntmps14 rfl fun b => ?_
  have hxl := hx.1
  obtain ⟨n, hn⟩ : ∃ n, n = x.codes.length := ⟨_, rfl⟩
  have hgn : (gr x).length = n := by rw [gr_len, hn]
  have hel : (edges x).length = n := by rw [edges_len, hn]
  refine GX.wRN ?_; intros
  apply GX.region
  refine GX.wRN ?_; intros
  apply GX.region
  refine GX.wRN ?_; intros
  rw [← hn]
  refine GX.nmP 1 ?_; rintro b1 rfl
  refine GX.cut (σ := CpS) (fun q => [(3, .int .i64 (n : Int)), (4, .pointer (some ⟨q.p, 0, none⟩))]) (fun q => [Sl (Ty.slice Ty.int) q.aE q.cE (edges x)])
    (fun q => [RowR q.p 49 [.slice q.aE n q.cE, .slice (some ⟨q.bm, 0, none⟩) n n, .slice (some ⟨q.bl, 0, none⟩) n n, .slice none 0 0, .slice (some ⟨q.bd, 0, none⟩) n n, .int .i64 0, .slice none 0 0], GX.Own 3 Ty.int (some ⟨q.bm, 0, none⟩) n q.xm, GX.Own 3 Ty.int (some ⟨q.bl, 0, none⟩) n q.xl, GX.Own 4 Ty.bool (some ⟨q.bd, 0, none⟩) n q.xd]) (fun q => q.xm = List.replicate n 0 ∧ q.xl = List.replicate n 0 ∧ q.xd = List.replicate n false) ?_ (fun q hq => ?_)
  · refine GX.drawnT (fun j => !(List.contains [] j)) (.br [(0, true), (2, true), (4, true), (6, true)] (.alt 1 (.br [] (.alt 3 (.br [] (.alt 5 (.lin [(7, false), (8, true), (9, false), (10, true)]) (.alt 7 (.lin [(5, false), (8, true), (9, false), (10, true)]) .nil))) (.alt 5 (.br [] (.alt 3 (.lin [(7, false), (8, true), (9, false), (10, true)]) (.alt 7 (.lin [(3, false), (8, true), (9, false), (10, true)]) .nil))) (.alt 7 (.br [] (.alt 3 (.lin [(5, false), (8, true), (9, false), (10, true)]) (.alt 5 (.lin [(3, false), (8, true), (9, false), (10, true)]) .nil))) .nil)))) (.alt 3 (.br [] (.alt 1 (.br [] (.alt 5 (.lin [(7, false), (8, true), (9, false), (10, true)]) (.alt 7 (.lin [(5, false), (8, true), (9, false), (10, true)]) .nil))) (.alt 5 (.br [] (.alt 1 (.lin [(7, false), (8, true), (9, false), (10, true)]) (.alt 7 (.lin [(1, false), (8, true), (9, false), (10, true)]) .nil))) (.alt 7 (.br [] (.alt 1 (.lin [(5, false), (8, true), (9, false), (10, true)]) (.alt 5 (.lin [(1, false), (8, true), (9, false), (10, true)]) .nil))) .nil)))) (.alt 5 (.br [] (.alt 1 (.br [] (.alt 3 (.lin [(7, false), (8, true), (9, false), (10, true)]) (.alt 7 (.lin [(3, false), (8, true), (9, false), (10, true)]) .nil))) (.alt 3 (.br [] (.alt 1 (.lin [(7, false), (8, true), (9, false), (10, true)]) (.alt 7 (.lin [(1, false), (8, true), (9, false), (10, true)]) .nil))) (.alt 7 (.br [] (.alt 1 (.lin [(3, false), (8, true), (9, false), (10, true)]) (.alt 3 (.lin [(1, false), (8, true), (9, false), (10, true)]) .nil))) .nil)))) (.alt 7 (.br [] (.alt 1 (.br [] (.alt 3 (.lin [(5, false), (8, true), (9, false), (10, true)]) (.alt 5 (.lin [(3, false), (8, true), (9, false), (10, true)]) .nil))) (.alt 3 (.br [] (.alt 1 (.lin [(5, false), (8, true), (9, false), (10, true)]) (.alt 5 (.lin [(1, false), (8, true), (9, false), (10, true)]) .nil))) (.alt 5 (.br [] (.alt 1 (.lin [(3, false), (8, true), (9, false), (10, true)]) (.alt 3 (.lin [(1, false), (8, true), (9, false), (10, true)]) .nil))) .nil)))) .nil))))) (by kernel_rfl) (by kernel_rfl) ?_; intro wd F hW hR
    refine GX.wTA ?_; intros
    refine GX.nmA 9 ?_; rintro c9 rfl
    have hE := edges_spec c9 x hx
    rw [hel] at hE
    refine GX.treeA ?_ ?_
    · refine GX.gok ?_
      refine (cl hE fun s => ?_)
      refine GX.wTA ?_; intros
      refine GX.treeA ?_ ?_
      · refine GX.wTA ?_; intros
        refine GX.treeA ?_ ?_
        · refine GX.wTA ?_; intros
          refine GX.wTA ?_; intros
          refine GX.wRA ?_; intros
          exact meet ⟨_, _, _, _, _, _, _, _, _⟩ ⟨rfl, rfl, trivial⟩ ⟨rfl, rfl, rfl⟩
        refine GX.wTA ?_; intros
        refine GX.wTA ?_; intros
        refine GX.wTA ?_; intros
        refine GX.wRA ?_; intros
        exact meet ⟨_, _, _, _, _, _, _, _, _⟩ ⟨rfl, rfl, trivial⟩ ⟨rfl, rfl, rfl⟩
      refine GX.treeA ?_ ?_
      · refine GX.wTA ?_; intros
        refine GX.treeA ?_ ?_
        · refine GX.wTA ?_; intros
          refine GX.wTA ?_; intros
          refine GX.wRA ?_; intros
          exact meet ⟨_, _, _, _, _, _, _, _, _⟩ ⟨rfl, rfl, trivial⟩ ⟨rfl, rfl, rfl⟩
        refine GX.wTA ?_; intros
        refine GX.wTA ?_; intros
        refine GX.wTA ?_; intros
        refine GX.wRA ?_; intros
        exact meet ⟨_, _, _, _, _, _, _, _, _⟩ ⟨rfl, rfl, trivial⟩ ⟨rfl, rfl, rfl⟩
      refine GX.wTA ?_; intros
      refine GX.wTA ?_; intros
      refine GX.treeA ?_ ?_
      · refine GX.wTA ?_; intros
        refine GX.wTA ?_; intros
        refine GX.wRA ?_; intros
        exact meet ⟨_, _, _, _, _, _, _, _, _⟩ ⟨rfl, rfl, trivial⟩ ⟨rfl, rfl, rfl⟩
      refine GX.wTA ?_; intros
      refine GX.wTA ?_; intros
      refine GX.wTA ?_; intros
      refine GX.wRA ?_; intros
      exact meet ⟨_, _, _, _, _, _, _, _, _⟩ ⟨rfl, rfl, trivial⟩ ⟨rfl, rfl, rfl⟩
    refine GX.treeA ?_ ?_
    · refine GX.wTA ?_; intros
      refine GX.treeA ?_ ?_
      · refine GX.gok ?_
        refine (cl hE fun s => ?_)
        refine GX.wTA ?_; intros
        refine GX.treeA ?_ ?_
        · refine GX.wTA ?_; intros
          refine GX.wTA ?_; intros
          refine GX.wRA ?_; intros
          exact meet ⟨_, _, _, _, _, _, _, _, _⟩ ⟨rfl, rfl, trivial⟩ ⟨rfl, rfl, rfl⟩
        refine GX.wTA ?_; intros
        refine GX.wTA ?_; intros
        refine GX.wTA ?_; intros
        refine GX.wRA ?_; intros
        exact meet ⟨_, _, _, _, _, _, _, _, _⟩ ⟨rfl, rfl, trivial⟩ ⟨rfl, rfl, rfl⟩
      refine GX.treeA ?_ ?_
      · refine GX.wTA ?_; intros
        refine GX.treeA ?_ ?_
        · refine GX.gok ?_
          refine (cl hE fun s => ?_)
          refine GX.wTA ?_; intros
          refine GX.wTA ?_; intros
          refine GX.wRA ?_; intros
          exact meet ⟨_, _, _, _, _, _, _, _, _⟩ ⟨rfl, rfl, trivial⟩ ⟨rfl, rfl, rfl⟩
        refine GX.wTA ?_; intros
        refine GX.wTA ?_; intros
        refine GX.gow ?_
        refine (cl hE fun s => ?_)
        refine GX.wTA ?_; intros
        refine GX.wRA ?_; intros
        exact meet ⟨_, _, _, _, _, _, _, _, _⟩ ⟨rfl, rfl, trivial⟩ ⟨rfl, rfl, rfl⟩
      refine GX.wTA ?_; intros
      refine GX.wTA ?_; intros
      refine GX.treeA ?_ ?_
      · refine GX.gok ?_
        refine (cl hE fun s => ?_)
        refine GX.wTA ?_; intros
        refine GX.wTA ?_; intros
        refine GX.wRA ?_; intros
        exact meet ⟨_, _, _, _, _, _, _, _, _⟩ ⟨rfl, rfl, trivial⟩ ⟨rfl, rfl, rfl⟩
      refine GX.wTA ?_; intros
      refine GX.wTA ?_; intros
      refine GX.gow ?_
      refine (cl hE fun s => ?_)
      refine GX.wTA ?_; intros
      refine GX.wRA ?_; intros
      exact meet ⟨_, _, _, _, _, _, _, _, _⟩ ⟨rfl, rfl, trivial⟩ ⟨rfl, rfl, rfl⟩
    refine GX.treeA ?_ ?_
    · refine GX.wTA ?_; intros
      refine GX.treeA ?_ ?_
      · refine GX.gok ?_
        refine (cl hE fun s => ?_)
        refine GX.wTA ?_; intros
        refine GX.treeA ?_ ?_
        · refine GX.wTA ?_; intros
          refine GX.wTA ?_; intros
          refine GX.wRA ?_; intros
          exact meet ⟨_, _, _, _, _, _, _, _, _⟩ ⟨rfl, rfl, trivial⟩ ⟨rfl, rfl, rfl⟩
        refine GX.wTA ?_; intros
        refine GX.wTA ?_; intros
        refine GX.wTA ?_; intros
        refine GX.wRA ?_; intros
        exact meet ⟨_, _, _, _, _, _, _, _, _⟩ ⟨rfl, rfl, trivial⟩ ⟨rfl, rfl, rfl⟩
      refine GX.treeA ?_ ?_
      · refine GX.wTA ?_; intros
        refine GX.treeA ?_ ?_
        · refine GX.gok ?_
          refine (cl hE fun s => ?_)
          refine GX.wTA ?_; intros
          refine GX.wTA ?_; intros
          refine GX.wRA ?_; intros
          exact meet ⟨_, _, _, _, _, _, _, _, _⟩ ⟨rfl, rfl, trivial⟩ ⟨rfl, rfl, rfl⟩
        refine GX.wTA ?_; intros
        refine GX.wTA ?_; intros
        refine GX.gow ?_
        refine (cl hE fun s => ?_)
        refine GX.wTA ?_; intros
        refine GX.wRA ?_; intros
        exact meet ⟨_, _, _, _, _, _, _, _, _⟩ ⟨rfl, rfl, trivial⟩ ⟨rfl, rfl, rfl⟩
      refine GX.wTA ?_; intros
      refine GX.wTA ?_; intros
      refine GX.treeA ?_ ?_
      · refine GX.gok ?_
        refine (cl hE fun s => ?_)
        refine GX.wTA ?_; intros
        refine GX.wTA ?_; intros
        refine GX.wRA ?_; intros
        exact meet ⟨_, _, _, _, _, _, _, _, _⟩ ⟨rfl, rfl, trivial⟩ ⟨rfl, rfl, rfl⟩
      refine GX.wTA ?_; intros
      refine GX.wTA ?_; intros
      refine GX.gow ?_
      refine (cl hE fun s => ?_)
      refine GX.wTA ?_; intros
      refine GX.wRA ?_; intros
      exact meet ⟨_, _, _, _, _, _, _, _, _⟩ ⟨rfl, rfl, trivial⟩ ⟨rfl, rfl, rfl⟩
    refine GX.wTA ?_; intros
    refine GX.wTA ?_; intros
    refine GX.treeA ?_ ?_
    · refine GX.gok ?_
      refine (cl hE fun s => ?_)
      refine GX.wTA ?_; intros
      refine GX.treeA ?_ ?_
      · refine GX.wTA ?_; intros
        refine GX.wTA ?_; intros
        refine GX.wRA ?_; intros
        exact meet ⟨_, _, _, _, _, _, _, _, _⟩ ⟨rfl, rfl, trivial⟩ ⟨rfl, rfl, rfl⟩
      refine GX.wTA ?_; intros
      refine GX.wTA ?_; intros
      refine GX.wTA ?_; intros
      refine GX.wRA ?_; intros
      exact meet ⟨_, _, _, _, _, _, _, _, _⟩ ⟨rfl, rfl, trivial⟩ ⟨rfl, rfl, rfl⟩
    refine GX.treeA ?_ ?_
    · refine GX.wTA ?_; intros
      refine GX.treeA ?_ ?_
      · refine GX.gok ?_
        refine (cl hE fun s => ?_)
        refine GX.wTA ?_; intros
        refine GX.wTA ?_; intros
        refine GX.wRA ?_; intros
        exact meet ⟨_, _, _, _, _, _, _, _, _⟩ ⟨rfl, rfl, trivial⟩ ⟨rfl, rfl, rfl⟩
      refine GX.wTA ?_; intros
      refine GX.wTA ?_; intros
      refine GX.gow ?_
      refine (cl hE fun s => ?_)
      refine GX.wTA ?_; intros
      refine GX.wRA ?_; intros
      exact meet ⟨_, _, _, _, _, _, _, _, _⟩ ⟨rfl, rfl, trivial⟩ ⟨rfl, rfl, rfl⟩
    refine GX.wTA ?_; intros
    refine GX.wTA ?_; intros
    refine GX.treeA ?_ ?_
    · refine GX.gok ?_
      refine (cl hE fun s => ?_)
      refine GX.wTA ?_; intros
      refine GX.wTA ?_; intros
      refine GX.wRA ?_; intros
      exact meet ⟨_, _, _, _, _, _, _, _, _⟩ ⟨rfl, rfl, trivial⟩ ⟨rfl, rfl, rfl⟩
    refine GX.wTA ?_; intros
    refine GX.wTA ?_; intros
    refine GX.gow ?_
    refine (cl hE fun s => ?_)
    refine GX.wTA ?_; intros
    refine GX.wRA ?_; intros
    exact meet ⟨_, _, _, _, _, _, _, _, _⟩ ⟨rfl, rfl, trivial⟩ ⟨rfl, rfl, rfl⟩
  obtain ⟨p, bm, bl, bd, aE, cE, xm, xl, xd⟩ := q
  obtain ⟨h1, h2, h3⟩ := hq
  dsimp only at *
  obtain rfl : xm = metL n (s0 n).met := h1.trans (metL_nil n).symm
  obtain rfl : xl = zs (s0 n).low := h2.trans (by simp [zs, s0])
  obtain rfl : xd = doneL n (s0 n).comps := h3.trans (doneL_nil n).symm
  refine ownNil 3 Ty.int ?_
  refine ownNil 34 (Ty.slice Ty.int) ?_
  rw [← gr_zs]
  have htop := Top.begin (gr x)
  rw [hgn] at htop
  refine GX.wR ?_; intros
  refine GX.loop (σ := CpT) (fun q => [(4, .pointer (some ⟨p, 0, none⟩)), (19, .int .i64 (n : Int)), (20, .int .i64 (q.i : Int))]) (fun _ => []) (fun q => [RowR p 49 [.slice aE n cE, .slice (some ⟨bm, 0, none⟩) n n, .slice (some ⟨bl, 0, none⟩) n n, .slice q.c.aO (zs (opn q.s)).length q.c.cO, .slice (some ⟨bd, 0, none⟩) n n, .int .i64 (q.s.met.length : Int), .slice q.c.aC (q.s.comps.map zs).length q.c.cC], GX.Own 3 Ty.int (some ⟨bm, 0, none⟩) n (metL n q.s.met), GX.Own 3 Ty.int (some ⟨bl, 0, none⟩) n (zs q.s.low), GX.Own 3 Ty.int q.c.aO q.c.cO (zs (opn q.s)), GX.Own 4 Ty.bool (some ⟨bd, 0, none⟩) n (doneL n q.s.comps), GX.Own 34 (Ty.slice Ty.int) q.c.aC q.c.cC (q.s.comps.map zs)])
    (fun q => q.i ≤ n ∧ Top (gr x) q.i q.s) (fun q => n - q.i) ⟨s0 n, ⟨none, 0, none, 0⟩, 0⟩ ⟨rfl, rfl, rfl, trivial⟩ ⟨Nat.zero_le _, htop⟩ (fun q hq => ?_)
  clear htop h1 h2 h3
  obtain ⟨s, ⟨aO, cO, aC, cC⟩, i⟩ := q
  obtain ⟨hi, htop⟩ := hq
  dsimp only at *
  have hml := Inv_metle htop.inv
  have hml2 := metL_len n s.met
  by_cases hlt : i < n
  · have hmg := metL_get (M := s.met) hlt
    by_cases hm : i ∈ s.met
    · have hnp := num_pos hm
      refine GX.wR ?_; intros
      exact again ⟨s, ⟨aO, cO, aC, cC⟩, i + 1⟩ ⟨rfl, rfl, rfl, trivial⟩ ⟨by dsimp only; omega, htop.old hm⟩ (by dsimp only; omega)
    · have hnp := num_out hm
      refine GX.wR ?_; intros
      refine GX.o (cl (from_spec p bm bl bd n aE cE (gr x) hgn (by omega) (gr_kids x) (gr_few hx.2) n ⟨aO, cO, aC, cC⟩ s [] i htop.inv hlt hm (by simp) (by omega)) fun r => ?_)
      obtain ⟨t, ⟨aO2, cO2, aC2, cC2⟩, ℓ, hp⟩ := r
      dsimp only
      refine GX.wR ?_; intros
      exact again ⟨t, ⟨aO2, cO2, aC2, cC2⟩, i + 1⟩ ⟨rfl, rfl, rfl, trivial⟩ ⟨by dsimp only; omega, htop.new hm hp⟩ (by dsimp only; omega)
  · obtain rfl : i = n := by omega
    rw [← hgn] at htop
    have hc := htop.comps
    rw [hc]
    refine GX.wR ?_; intros
    refine frz aC ?_
    exact rt1 (aC, cC) rfl
end Go.Proofs.Ytkfbchefealfoaa
