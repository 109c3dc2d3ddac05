import Derived.Test.YtkagjpkgboeaiaaR11
import Derived.Test.YtkagjpkgboeaiaaR12
import Derived.Test.YtkagjpkgboeaiaaR17
import Derived.Test.YtkagjpkgboeaiaaR19
/- The walk over solve's Points once more: what it hands back is one's own. -/
namespace Go.Proofs.Ytkagjpkgboeaiaa
open Go Go.RR Go.RX Go.GX Go.Api Go.RiseM Go.SolM Go.SetM Go.NumM
attribute [local irreducible] wpList Code.wp wpPlan Exit.then Exit.inBlock bodyPost NoPanic Went GX.Post GX.Again GX.Meet GX.RowR GX.Own GX.Owns GX.Box GX.Sl GX.Pt GX.Ag GX.MapR GX.SetR GX.Kept GX.Pin wpT GoK AtEnd Both
structure PtsO (N S W : Int) (l : List Con) where
  y : Int
  a1 : Option Addr
  c1 : Nat
  X : List (List Int)
  a2 : Option Addr
  c2 : Nat
  L : List (Option Addr × Nat × List (List Int))
  h : Fair N S W l ∧ y = 0 ∧ (⟨X, L.map (·.2.2)⟩ : Points) = pts ⟨N.toNat, S.toNat, W.toNat⟩ l ∨ ¬ Fair N S W l ∧ y = 5 ∧ X = [] ∧ L = []
  x1 : X.length = c1
  x2 : L.length = c2
local instance (priority := 2000) : UTy Try.prog 23 Ty.hdr (none, 0, 0) (.slice none 0 0) := ⟨Try.zeroValue23, fun _ _ => hdr_rd⟩
set_option maxHeartbeats 4000000 in
theorem pointsO_spec (ao : Option Addr) (cap : Nat) (l : List Con) (N S W : Int) (hln : l.length ≤ 100000) :
    Does Try.prog 8 [.int .i64 N, .int .i64 S, .int .i64 W, .slice ao l.length cap] [Sl tyCon ao cap l] [] (fun s : PtsO N S W l => .tuple #[.agg #[.slice s.a1 s.c1 s.c1, .slice s.a2 s.c2 s.c2], .int .i64 s.y]) (fun _ => [])
      (fun s => [GX.Own 35 (Ty.slice Ty.int) s.a1 s.c1 s.X, GX.Own 23 Ty.hdr s.a2 s.c2 (s.L.map GX.hd), Owns 35 (Ty.slice Ty.int) s.L]) := by
  refine enter Try.func8 rfl Try.ntmps8 rfl fun b => ?_
  refine GX.wbRA ?_; intros
  refine GX.nmP 4 ?_; rintro b4 rfl
  refine GX.nmP 5 ?_; rintro b5 rfl
  refine GX.nmP 6 ?_; rintro b6 rfl
  refine GX.nmP 8 ?_; rintro b8 rfl
  refine frzN (k := .i64) (m := N) b4 ?_
  refine frzN (k := .i64) (m := S) b5 ?_
  refine frzN (k := .i64) (m := W) b6 ?_
  refine GX.wbR ?_; intros
  refine GX.o (cl (within_spec N 70001) fun _ => ?_)
  by_cases hN : ¬ (0 ≤ N ∧ N < 70001)
  · refine GX.wbR ?_; intros
    refine GX.ownNil 35 (Ty.slice Ty.int) ?_
    refine GX.ownNil 23 Ty.hdr ?_
    refine GX.osN 35 (Ty.slice Ty.int) 0 ?_
    exact rt2R ⟨5, none, 0, [], none, 0, [], .inr ⟨fun h => hN h.1.1, rfl, rfl, rfl⟩, rfl, rfl⟩ (hv := rfl)
  have hN := Classical.not_not.1 hN
  refine GX.wbR ?_; intros
  refine GX.o (cl (within_spec S 61) fun _ => ?_)
  by_cases hS : ¬ (0 ≤ S ∧ S < 61)
  · refine GX.wbR ?_; intros
    refine GX.ownNil 35 (Ty.slice Ty.int) ?_
    refine GX.ownNil 23 Ty.hdr ?_
    refine GX.osN 35 (Ty.slice Ty.int) 0 ?_
    exact rt2R ⟨5, none, 0, [], none, 0, [], .inr ⟨fun h => hS h.1.2.1, rfl, rfl, rfl⟩, rfl, rfl⟩ (hv := rfl)
  have hS := Classical.not_not.1 hS
  refine GX.wbR ?_; intros
  refine GX.o (cl (within_spec W 9) fun _ => ?_)
  by_cases hW : ¬ (0 ≤ W ∧ W < 9)
  · refine GX.wbR ?_; intros
    refine GX.ownNil 35 (Ty.slice Ty.int) ?_
    refine GX.ownNil 23 Ty.hdr ?_
    refine GX.osN 35 (Ty.slice Ty.int) 0 ?_
    exact rt2R ⟨5, none, 0, [], none, 0, [], .inr ⟨fun h => hW h.1.2.2, rfl, rfl, rfl⟩, rfl, rfl⟩ (hv := rfl)
  have hW := Classical.not_not.1 hW
  obtain ⟨n, rfl⟩ := Int.eq_ofNat_of_zero_le hN.1
  obtain ⟨s, rfl⟩ := Int.eq_ofNat_of_zero_le hS.1
  obtain ⟨w, rfl⟩ := Int.eq_ofNat_of_zero_le hW.1
  obtain ⟨d, hd1, hd2, hd3⟩ : ∃ d : Dim, d.N = n ∧ d.S = s ∧ d.W = w := ⟨⟨n, s, w⟩, rfl, rfl, rfl⟩
  subst hd1; subst hd2; subst hd3
  have hdd : (⟨(d.N : Int).toNat, (d.S : Int).toNat, (d.W : Int).toNat⟩ : Dim) = d := by simp
  refine GX.wbR ?_; intros
  refine GX.o (cl (containsFuncC_spec _ _ l 18 [.pointer (some ⟨b4, 0, none⟩), .pointer (some ⟨b5, 0, none⟩), .pointer (some ⟨b6, 0, none⟩)] [Pt Ty.int b4 0 (d.N : Int), Pt Ty.int b5 0 (d.S : Int), Pt Ty.int b6 0 (d.W : Int)] (fun c => decide (¬ May d c)) (fun c _ cs => points1_spec b4 b5 b6 d c cs)) fun _ => ?_)
  by_cases hany : l.any (fun c => decide (¬ May d c)) = true
  · refine GX.wbR ?_; intros
    refine GX.ownNil 35 (Ty.slice Ty.int) ?_
    refine GX.ownNil 23 Ty.hdr ?_
    refine GX.osN 35 (Ty.slice Ty.int) 0 ?_
    refine rt2R ⟨5, none, 0, [], none, 0, [], .inr ⟨fun h => ?_, rfl, rfl, rfl⟩, rfl, rfl⟩ (hv := rfl)
    obtain ⟨c, hc, hn⟩ := List.any_eq_true.1 hany
    simp only [decide_eq_true_eq] at hn
    have h := h.2 c hc
    rw [hdd] at h
    exact hn h
  have hl : ∀ c ∈ l, May d c := fun c hc => Classical.byContradiction fun h => hany (List.any_eq_true.2 ⟨c, hc, by simpa using h⟩)
  have hany : l.any (fun c => decide (¬ May d c)) = false := by simpa using hany
  have hm : d.S * d.W ≤ 60 * 8 := Nat.mul_le_mul (by omega) (by omega)
  have hm1 : ((d.S : Int) * (d.W : Int)) = ((d.S * d.W : Nat) : Int) := by simp
  have hb : -9223372036854775808 ≤ (d.S : Int) * (d.W : Int) ∧ (d.S : Int) * (d.W : Int) ≤ 9223372036854775807 := by omega
  have hM : (d.N : Int) + (d.S : Int) * (d.W : Int) = (d.M : Int) := by unfold Dim.M; simp
  have hMl : d.M ≤ 100000 := by omega
  refine GX.wbR ?_; intros
  rw [hM]
  refine GX.drawnJV (t5 d) [(3, .slice ao l.length cap), (4, .pointer (some ⟨b4, 0, none⟩)), (5, .pointer (some ⟨b5, 0, none⟩)), (6, .pointer (some ⟨b6, 0, none⟩)), (8, .pointer (some ⟨b8, 0, none⟩)), (9, .int .i64 0), (11, .int .i64 (d.M : Int))] [15] (t5_loc d) (by kernel_rfl) (by kernel_rfl) ⟨rfl, rfl, rfl, rfl, rfl, rfl, rfl, trivial⟩ ?_ rfl fun v => ?_
  · refine ⟨?_, ?_, ?_, ?_, ?_, ?_, ?_, ?_, ?_, ?_, ?_, ?_, ?_, ?_, ?_, ?_, trivial⟩
    · exact kvLd (bl := b4) rfl (by simp) (fun _ => rfl) (fun _ => rfl) (fun _ => rfl) rfl rfl
    · exact kvLd (bl := b6) rfl (by simp) (fun _ => rfl) (fun _ => rfl) (fun _ => rfl) rfl rfl
    · exact kvMv rfl (fun _ => rfl) (fun _ => rfl) (fun _ => rfl) rfl rfl
    · exact kvMk (e := Ty.num .u64) (z := 0) (hz := ⟨Try.zeroValue57, fun _ _ => num_rd⟩) (j := 2) (by simp [t5]) (fun _ => rfl) (fun _ => rfl) (fun _ => rfl) (fun _ => rfl) (by omega) (by omega) rfl rfl rfl rfl
    · exact kvMv rfl (fun _ => rfl) (fun _ => rfl) (fun _ => rfl) rfl rfl
    · exact kvMk (e := Ty.hdr) (z := (none, 0, 0)) (hz := ⟨Try.zeroValue35, fun _ _ => hdr_rd⟩) (j := 4) (by simp [t5]) (fun _ => rfl) (fun _ => rfl) (fun _ => rfl) (fun _ => by rw [GX.hd_rep (α := Int)]; rfl) (by omega) (by omega) rfl rfl rfl rfl
    · exact kvMv rfl (fun _ => rfl) (fun _ => rfl) (fun _ => rfl) rfl rfl
    · exact kvMk (e := Ty.hdr) (z := (none, 0, 0)) (hz := ⟨Try.zeroValue71, fun _ _ => hdr_rd⟩) (j := 6) (by simp [t5]) (fun _ => rfl) (fun _ => rfl) (fun _ => rfl) (fun _ => by rw [GX.hd_rep (α := SolM.Ask)]; rfl) (by omega) (by omega) rfl rfl rfl rfl
    · exact kvMv rfl (fun _ => rfl) (fun _ => rfl) (fun _ => rfl) rfl rfl
    · exact kvMk (e := Ty.num .u64) (z := 0) (hz := ⟨Try.zeroValue57, fun _ _ => num_rd⟩) (j := 8) (by simp [t5]) (fun _ => rfl) (fun _ => rfl) (fun _ => rfl) (fun _ => rfl) (by omega) (by omega) rfl rfl rfl rfl
    · intro b v env ps hp K Q hn hb hps h
      exact mmS 2 fun bl => h ⟨[], none, bl⟩
    · exact kvMv rfl (fun _ => rfl) (fun _ => rfl) (fun _ => rfl) rfl rfl
    · exact kvMk (e := Ty.bool) (z := false) (j := 11) (by simp [t5]) (fun _ => rfl) (fun _ => rfl) (fun _ => rfl) (fun _ => rfl) (by omega) (by omega) rfl rfl rfl rfl
    · intro b v env ps hp K Q hn hb hps h
      exact GX.bd (pv := _) (h ⟨[], none, 0⟩) (hx := evp13 d fun j hj => (hn j hj).1)
    · intro b v env ps hp K Q hn hb hps h
      exact bxR (vs := cel d v) (fun bl => h ⟨[], none, bl⟩) (hx := (hn 13 (by simp [t5])).1)
    · exact kvAs (j := 14) (x := fun v => .pointer (some ⟨(v 14).cap, 0, none⟩)) (by simp [t5]) (fun _ => rfl) (fun _ _ => rfl) (fun _ => rfl) (fun _ => rfl) rfl rfl
  obtain ⟨v3, v5, v7, v9, v10, v12, bl, hv⟩ : ∃ v3 v5 v7 v9 v10 v12 bl : Nat, (v 3).cap = v3 ∧ (v 5).cap = v5 ∧ (v 7).cap = v7 ∧ (v 9).cap = v9 ∧ (v 10).cap = v10 ∧ (v 12).cap = v12 ∧ (v 14).cap = bl := ⟨_, _, _, _, _, _, _, rfl, rfl, rfl, rfl, rfl, rfl, rfl⟩
  obtain ⟨h3, h5, h7, h9, h10, h12, h14⟩ := hv
  have hcel : cel d v = [.int .i64 (d.N : Int), .int .i64 (d.W : Int), .slice (some ⟨v3, 0, none⟩) d.M d.M, .slice (some ⟨v5, 0, none⟩) d.M d.M, .slice (some ⟨v7, 0, none⟩) d.M d.M, .slice (some ⟨v9, 0, none⟩) d.M d.M, .map (some v10), .slice none 0 0, .slice (some ⟨v12, 0, none⟩) d.M d.M] := by unfold cel; rw [h3, h5, h7, h9, h10, h12]
  obtain ⟨vv, e3, e5, e7, e9, e10, e12⟩ : ∃ vv : VV, vv.am = v3 ∧ vv.go = v5 ∧ vv.ask = v7 ∧ vv.se = v9 ∧ vv.kn = v10 ∧ vv.wt = v12 := ⟨⟨v3, v5, v7, v9, v10, v12⟩, rfl, rfl, rfl, rfl, rfl, rfl⟩
  subst e3; subst e5; subst e7; subst e9; subst e10; subst e12
  show G _ ((12, .pointer (some ⟨(v 14).cap, 0, none⟩)) :: _) _ [Pt Ty.int b6 0 (d.W : Int), Pt Ty.int b5 0 (d.S : Int), Pt Ty.int b4 0 (d.N : Int), Sl tyCon ao cap l] [GX.Own 57 (Ty.num .u64) (some ⟨(v 3).cap, 0, none⟩) d.M (List.replicate d.M 0), GX.Own 35 Ty.hdr (some ⟨(v 5).cap, 0, none⟩) d.M ((List.replicate d.M ((none : Option Addr), 0, ([] : List Int))).map GX.hd), GX.Own 71 Ty.hdr (some ⟨(v 7).cap, 0, none⟩) d.M ((List.replicate d.M ((none : Option Addr), 0, ([] : List SolM.Ask))).map GX.hd), GX.Own 57 (Ty.num .u64) (some ⟨(v 9).cap, 0, none⟩) d.M (List.replicate d.M 0), SetR (v 10).cap 2 [], GX.Own 4 Ty.bool (some ⟨(v 12).cap, 0, none⟩) d.M (List.replicate d.M false), RowR (v 14).cap 53 (cel d v), RowR b8 26 [.slice none 0 0, .slice none 0 0]] _
  rw [hcel, h3, h5, h7, h9, h10, h12, h14, show List.replicate d.M (0 : Int) = zsI (List.replicate d.M 0) by unfold zsI; rw [List.map_replicate]; rfl]
  refine GX.osN 3 Ty.int d.M ?_
  refine GX.osN 73 tyAsk d.M ?_
  refine GX.ownNil 3 Ty.int ?_
  show G _ [(12, .pointer (some ⟨bl, 0, none⟩)), (3, .slice ao l.length cap), (4, .pointer (some ⟨b4, 0, none⟩)), (5, .pointer (some ⟨b5, 0, none⟩)), (6, .pointer (some ⟨b6, 0, none⟩)), (8, .pointer (some ⟨b8, 0, none⟩)), (9, .int .i64 0), (11, .int .i64 (d.M : Int))] _ _ [GX.Own 3 Ty.int none 0 (st0 d).xs, Owns 73 tyAsk (List.replicate d.M (none, 0, [])), Owns 3 Ty.int (List.replicate d.M (none, 0, [])), GX.Own 57 (Ty.num .u64) (some ⟨vv.am, 0, none⟩) d.M (zsI (st0 d).A), GX.Own 35 Ty.hdr (some ⟨vv.go, 0, none⟩) d.M ((List.replicate d.M ((none : Option Addr), 0, ([] : List Int))).map GX.hd), GX.Own 71 Ty.hdr (some ⟨vv.ask, 0, none⟩) d.M ((List.replicate d.M ((none : Option Addr), 0, ([] : List SolM.Ask))).map GX.hd), GX.Own 57 (Ty.num .u64) (some ⟨vv.se, 0, none⟩) d.M (zsI (st0 d).E), SetR vv.kn 2 ((st0 d).D.map key), GX.Own 4 Ty.bool (some ⟨vv.wt, 0, none⟩) d.M (st0 d).W, RowR bl 53 [.int .i64 (d.N : Int), .int .i64 (d.W : Int), .slice (some ⟨vv.am, 0, none⟩) d.M d.M, .slice (some ⟨vv.go, 0, none⟩) d.M d.M, .slice (some ⟨vv.ask, 0, none⟩) d.M d.M, .slice (some ⟨vv.se, 0, none⟩) d.M d.M, .map (some vv.kn), .slice none (st0 d).xs.length 0, .slice (some ⟨vv.wt, 0, none⟩) d.M d.M], RowR b8 26 [.slice none 0 0, .slice none 0 0]] _
  refine GX.wbR ?_; intros
  refine GX.loop (σ := Nat × SQ × KL) (fun s => [(3, .slice ao l.length cap), (4, .pointer (some ⟨b4, 0, none⟩)), (5, .pointer (some ⟨b5, 0, none⟩)), (6, .pointer (some ⟨b6, 0, none⟩)), (8, .pointer (some ⟨b8, 0, none⟩)), (11, .int .i64 (d.M : Int)), (12, .pointer (some ⟨bl, 0, none⟩)), (58, .slice ao l.length cap), (59, .int .i64 (l.length : Int)), (60, .int .i64 (s.1 : Int))]) (fun _ => []) (fun s => [RowR bl 53 [.int .i64 (d.N : Int), .int .i64 (d.W : Int), .slice (some ⟨vv.am, 0, none⟩) d.M d.M, .slice (some ⟨vv.go, 0, none⟩) d.M d.M, .slice (some ⟨vv.ask, 0, none⟩) d.M d.M, .slice (some ⟨vv.se, 0, none⟩) d.M d.M, .map (some vv.kn), .slice s.2.1.ao s.2.1.st.xs.length s.2.1.cap, .slice (some ⟨vv.wt, 0, none⟩) d.M d.M], GX.Own 57 (Ty.num .u64) (some ⟨vv.am, 0, none⟩) d.M (zsI s.2.1.st.A), GX.Own 35 Ty.hdr (some ⟨vv.go, 0, none⟩) d.M (s.2.1.L.map GX.hd), Owns 3 Ty.int s.2.1.L, GX.Own 57 (Ty.num .u64) (some ⟨vv.se, 0, none⟩) d.M (zsI s.2.1.st.E), SetR vv.kn 2 (s.2.1.st.D.map key), GX.Own 3 Ty.int s.2.1.ao s.2.1.cap s.2.1.st.xs, GX.Own 4 Ty.bool (some ⟨vv.wt, 0, none⟩) d.M s.2.1.st.W, GX.Own 71 Ty.hdr (some ⟨vv.ask, 0, none⟩) d.M (s.2.2.map GX.hd), Owns 73 tyAsk s.2.2, RowR b8 26 [.slice none 0 0, .slice none 0 0]])
    (fun s => s.1 ≤ l.length ∧ Inv d l s.2.1.st ∧ s.2.1.L.map (·.2.2) = s.2.1.st.G.map zsI ∧ Asks d l (kls s.2.2) ∧ (∀ x ∈ kls s.2.2, x.length ≤ s.1) ∧ Le d (st0 d) s.2.1.st ∧ C3 s.2.1.st (fun _ => False) ∧ ∀ c ∈ l.take s.1, Took d c (kls s.2.2) s.2.1.st) (fun s => l.length - s.1)
    (0, ⟨none, 0, List.replicate d.M (none, 0, []), st0 d⟩, List.replicate d.M (none, 0, [])) ⟨rfl, rfl, rfl, rfl, rfl, rfl, rfl, rfl, rfl, rfl, trivial⟩
    ⟨by simp, st0_inv d l, by simp [st0, zsI], by simpa [kls] using asks0 d l, fun x hx => by simp [kls] at hx; simp [hx], Le.refl _ _, st0_c3 d _, by simp⟩ (fun s hs => ?_)
  obtain ⟨i, q, k⟩ := s
  obtain ⟨hi, i1, i2, i3, i4, i5, i6, i7⟩ := hs
  dsimp only at *
  by_cases hlt : i < l.length
  · obtain ⟨c, hc⟩ := get_lt hlt
    have hcl := List.mem_of_getElem? hc
    refine GX.wbR ?_; intros
    refine GX.o (cl (begin_spec bl vv d l q k _ c i i1 i2 i3 i4 (by omega) hcl (hl c hcl) (by omega) (by omega) hMl) fun s => ?_)
    obtain ⟨q2, k2, j1, j2, j3, j4, j5, j6, j7, j8⟩ := s
    dsimp only
    refine GX.wbR ?_; intros
    refine again (i + 1, q2, k2) ⟨rfl, rfl, rfl, rfl, rfl, rfl, rfl, rfl, rfl, rfl, trivial⟩ ⟨by dsimp only; omega, j1, j3, j7, j8, i5.trans j2, j4 _ i6, fun c' hc' => ?_⟩ (by dsimp only; omega)
    rw [List.take_add_one, hc, List.mem_append] at hc'
    rcases hc' with hc' | hc'
    · exact (i7 c' hc').le j2 j6
    · simp at hc'; subst hc'; exact j5
  rw [List.take_of_length_le (by omega)] at i7
  have hc1 : C1 q.st := C1.le i5 (by rw [(st0_inv d l).lw, i1.lw]) (st0_c1 d)
  have hE : q.st.E = List.replicate d.M 0 := i5.e
  refine GX.wbR ?_; intros
  refine GX.loop (σ := Nat × Option Addr × Nat × List Bool × List Int) (fun s => [(4, .pointer (some ⟨b4, 0, none⟩)), (5, .pointer (some ⟨b5, 0, none⟩)), (6, .pointer (some ⟨b6, 0, none⟩)), (8, .pointer (some ⟨b8, 0, none⟩)), (12, .pointer (some ⟨bl, 0, none⟩)), (68, .int .i64 (d.M : Int)), (69, .int .i64 (s.1 : Int))]) (fun _ => [])
    (fun s => [RowR bl 53 [.int .i64 (d.N : Int), .int .i64 (d.W : Int), .slice (some ⟨vv.am, 0, none⟩) d.M d.M, .slice (some ⟨vv.go, 0, none⟩) d.M d.M, .slice (some ⟨vv.ask, 0, none⟩) d.M d.M, .slice (some ⟨vv.se, 0, none⟩) d.M d.M, .map (some vv.kn), .slice s.2.1 s.2.2.2.2.length s.2.2.1, .slice (some ⟨vv.wt, 0, none⟩) d.M d.M], GX.Own 57 (Ty.num .u64) (some ⟨vv.am, 0, none⟩) d.M (zsI q.st.A), GX.Own 35 Ty.hdr (some ⟨vv.go, 0, none⟩) d.M (q.L.map GX.hd), Owns 3 Ty.int q.L, GX.Own 57 (Ty.num .u64) (some ⟨vv.se, 0, none⟩) d.M (zsI q.st.E), SetR vv.kn 2 (q.st.D.map key), GX.Own 3 Ty.int s.2.1 s.2.2.1 s.2.2.2.2, GX.Own 4 Ty.bool (some ⟨vv.wt, 0, none⟩) d.M s.2.2.2.1, GX.Own 71 Ty.hdr (some ⟨vv.ask, 0, none⟩) d.M (k.map GX.hd), Owns 73 tyAsk k, RowR b8 26 [.slice none 0 0, .slice none 0 0]])
    (fun s => s.1 ≤ d.M ∧ Inv d l ⟨q.st.A, q.st.E, q.st.G, q.st.D, s.2.2.2.1, s.2.2.2.2⟩ ∧ C1 ⟨q.st.A, q.st.E, q.st.G, q.st.D, s.2.2.2.1, s.2.2.2.2⟩ ∧ C3 ⟨q.st.A, q.st.E, q.st.G, q.st.D, s.2.2.2.1, s.2.2.2.2⟩ (fun _ => False)) (fun s => d.M - s.1)
    (0, q.ao, q.cap, q.st.W, q.st.xs) ⟨rfl, rfl, rfl, rfl, rfl, rfl, rfl, trivial⟩ ⟨by simp, i1, hc1, i6⟩ (fun s hs => ?_)
  obtain ⟨n, ao2, cap2, W2, xs2⟩ := s
  obtain ⟨hn, m1, m2, m3⟩ := hs
  dsimp only at *
  by_cases hlt2 : n < d.M
  · have hlw := m1.lw
    have hql := m1.qlen
    dsimp only at hlw hql
    obtain ⟨wn, hwn⟩ := get_lt (show n < W2.length by omega)
    refine GX.wbR ?_; intros
    refine GX.o (cl (look_spec bl vv d ao2 cap2 xs2 W2 n wn hwn hlw (by omega) (by omega)) fun s => ?_)
    obtain ⟨ao3, cap3, ys, hy⟩ := s
    dsimp only
    refine GX.wbR ?_; intros
    exact again (n + 1, ao3, cap3, W2.set n true, ys) ⟨rfl, rfl, rfl, rfl, rfl, rfl, rfl, trivial⟩ ⟨by dsimp only; omega, inv_look m1 hwn hy, c1_look m2, c3_look m3⟩ (by dsimp only; omega)
  have hc2 : C2 d (kls k) ⟨q.st.A, q.st.E, q.st.G, q.st.D, W2, xs2⟩ (fun _ _ => True) := fun n' k' hk => by
    dsimp only at hk
    rw [hE] at hk
    exact absurd hk (has_rep _ _ _)
  refine GX.frzG (l := k) (to := 71) (ao' := some ⟨vv.ask, 0, none⟩) (cap' := d.M) ?_
  refine GX.wbR ?_; intros
  refine GX.o (cl (goOn_spec bl vv d l ⟨ao2, cap2, q.L, ⟨q.st.A, q.st.E, q.st.G, q.st.D, W2, xs2⟩⟩ (kls k) hl ⟨m1, i2, m2, hc2, m3⟩ i3 hMl) fun s => ?_)
  obtain ⟨q3, ⟨n1, n2, n3, n4, n5⟩, hfin, htook⟩ := s
  dsimp only
  have hT3 : ∀ c ∈ l, Took d c (kls k) q3.st := fun c hc => htook c (took_same rfl rfl (i7 c hc))
  have hall := SolM.fin n1 hl hfin hT3 n3 n4 n5
  have hzA := zsI_len q3.st.A
  have hlA := n1.la
  refine frz (some ⟨vv.am, 0, none⟩) ?_
  refine frzP bl tyS3 ((d.N : Int), (d.W : Int), zsI q3.st.A, ()) [.int .i64 (d.N : Int), .int .i64 (d.W : Int), .slice (some ⟨vv.am, 0, none⟩) d.M d.M] _ ?_ (hr := s3_rd (by omega))
  refine GX.wbR ?_; intros
  refine GX.cut (σ := Nat × Nat × Nat) (fun p => [(4, .pointer (some ⟨b4, 0, none⟩)), (5, .pointer (some ⟨b5, 0, none⟩)), (6, .pointer (some ⟨b6, 0, none⟩)), (8, .pointer (some ⟨b8, 0, none⟩)), (12, .pointer (some ⟨bl, 0, none⟩)), (16, .pointer (some ⟨p.2.2, 0, none⟩))]) (fun _ => [])
    (fun p => [GX.Own 35 (Ty.slice Ty.int) (some ⟨p.1, 0, none⟩) d.N (List.replicate d.N []), GX.Own 23 Ty.hdr (some ⟨p.2.1, 0, none⟩) d.S (List.replicate d.S (none, 0, 0)), RowR p.2.2 26 [.slice (some ⟨p.1, 0, none⟩) d.N d.N, .slice (some ⟨p.2.1, 0, none⟩) d.S d.S], RowR b8 26 [.slice none 0 0, .slice none 0 0]]) (fun _ => True) ?_ (fun p _ => ?_)
  · refine GX.drawnT (fun j => !(List.contains [6] j)) (.br [(0, true), (2, true)] (.alt 1 (.br [] (.alt 3 (.lin [(4, true), (5, false), (6, false)]) (.alt 5 (.lin [(3, false), (4, true), (6, false)]) .nil))) (.alt 3 (.br [] (.alt 1 (.lin [(4, true), (5, false), (6, false)]) (.alt 5 (.lin [(1, false), (4, true), (6, false)]) .nil))) (.alt 5 (.br [] (.alt 1 (.lin [(3, false), (4, true), (6, false)]) (.alt 3 (.lin [(1, false), (4, true), (6, false)]) .nil))) .nil)))) (by kernel_rfl) (by kernel_rfl) ?_; intro wd F hW hR
    refine GX.wbTA ?_; intros
    repeat' first
      | (refine GX.treeA ?_ ?_ <;> (refine GX.wbTA ?_; intros))
    all_goals
      refine GX.wbRA ?_; intros
      refine GX.nmB 79 ?_; rintro p1 rfl
      refine GX.nmB 81 ?_; rintro p2 rfl
      refine GX.nmP 16 ?_; rintro b16 rfl
      exact meet (p1, p2, b16) ⟨rfl, rfl, rfl, rfl, rfl, rfl, trivial⟩ trivial
  obtain ⟨p1, p2, b16⟩ := p
  dsimp only
  refine GX.wbR ?_; intros
  rw [← filled_zero (listOf d l)]
  refine GX.loop (σ := Nat) (fun i => [(5, .pointer (some ⟨b5, 0, none⟩)), (6, .pointer (some ⟨b6, 0, none⟩)), (8, .pointer (some ⟨b8, 0, none⟩)), (12, .pointer (some ⟨bl, 0, none⟩)), (16, .pointer (some ⟨b16, 0, none⟩)), (85, .int .i64 (d.N : Int)), (86, .int .i64 (i : Int))]) (fun _ => [])
    (fun i => [GX.Own 35 (Ty.slice Ty.int) (some ⟨p1, 0, none⟩) d.N (filled (listOf d l) [] d.N i), GX.Own 23 Ty.hdr (some ⟨p2, 0, none⟩) d.S (List.replicate d.S (none, 0, 0)), RowR b16 26 [.slice (some ⟨p1, 0, none⟩) d.N d.N, .slice (some ⟨p2, 0, none⟩) d.S d.S], RowR b8 26 [.slice none 0 0, .slice none 0 0]]) (fun i => i ≤ d.N) (fun i => d.N - i) 0 ⟨rfl, rfl, rfl, rfl, rfl, rfl, rfl, trivial⟩ (by simp) (fun i hi => ?_)
  by_cases hlt3 : i < d.N
  · have hdN := d.N_le
    obtain ⟨z, hz⟩ := get_lt (show i < q3.st.A.length by omega)
    have hzz := n1.wa z (List.mem_of_getElem? hz)
    have hzi := zsI_get hz
    have hsi : sitesOf z = listOf d l i := sites_in hzz (fun s => by rw [← has_some hz]; exact hall i s) hl
    have hfl := filled_len (f := listOf d l) (z := []) hi
    have hfg := filled_get (f := listOf d l) (z := []) hlt3
    refine GX.wbR ?_; intros
    refine GX.drawn1 (RowR b16 26 [.slice (some ⟨p1, 0, none⟩) d.N d.N, .slice (some ⟨p2, 0, none⟩) d.S d.S]) (fun j => !(List.contains [12] j)) [(0, true), (1, true), (2, true), (3, true), (4, true), (5, true), (6, true), (7, true), (8, true), (9, true), (10, false), (11, true), (12, false)] rfl (by kernel_rfl) (by kernel_rfl) (by first | ((repeat (first | apply Go.GX.SelR.nil | apply Go.GX.SelR.cons | (with_reducible apply Go.GX.TakeR.head) | apply Go.GX.TakeR.tail)); done) | (repeat (first | apply Go.GX.SelR.nil | apply Go.GX.SelR.cons | apply Go.GX.TakeR.head | apply Go.GX.TakeR.tail))) ?_; intro wd F hW hR
    refine GX.wbT ?_; intros
    refine GX.gow ?_
    refine (cl (list_spec z hzz) fun s => ?_)
    obtain ⟨a9, c9⟩ := s
    dsimp only
    rw [hsi]
    refine GX.wbT ?_; intros
    refine GX.unpin (RowR b16 26 [.slice (some ⟨p1, 0, none⟩) d.N d.N, .slice (some ⟨p2, 0, none⟩) d.S d.S]) ?_
    refine GX.wbR ?_; intros
    rw [filled_set hlt3]
    exact again (i + 1) ⟨rfl, rfl, rfl, rfl, rfl, rfl, rfl, trivial⟩ (by omega) (by omega)
  obtain rfl : i = d.N := by omega
  rw [filled_all]
  refine GX.wbR ?_; intros
  rw [GX.hd_rep (α := List Int)]
  refine GX.osN 35 (Ty.slice Ty.int) d.S ?_
  refine GX.loop (σ := Nat × List (Option Addr × Nat × List (List Int))) (fun s => [(6, .pointer (some ⟨b6, 0, none⟩)), (8, .pointer (some ⟨b8, 0, none⟩)), (12, .pointer (some ⟨bl, 0, none⟩)), (16, .pointer (some ⟨b16, 0, none⟩)), (104, .int .i64 (d.S : Int)), (105, .int .i64 (s.1 : Int))]) (fun _ => [])
    (fun s => [GX.Own 35 (Ty.slice Ty.int) (some ⟨p1, 0, none⟩) d.N ((List.range d.N).map (listOf d l)), GX.Own 23 Ty.hdr (some ⟨p2, 0, none⟩) d.S (s.2.map GX.hd), Owns 35 (Ty.slice Ty.int) s.2, RowR b16 26 [.slice (some ⟨p1, 0, none⟩) d.N d.N, .slice (some ⟨p2, 0, none⟩) d.S d.S], RowR b8 26 [.slice none 0 0, .slice none 0 0]]) (fun s => s.1 ≤ d.S ∧ s.2.map (·.2.2) = filled (fieldsOf d l) [] d.S s.1 ∧ ∀ j, s.1 ≤ j → j < d.S → s.2[j]? = some (none, 0, [])) (fun s => d.S - s.1) (0, List.replicate d.S (none, 0, [])) ⟨rfl, rfl, rfl, rfl, rfl, rfl, trivial⟩ ⟨by simp, by simp [filled], fun j _ hj => by simp [hj]⟩ (fun s hs => ?_)
  obtain ⟨i, L⟩ := s
  obtain ⟨hi, hL, hLn⟩ := hs
  dsimp only at *
  have hLl : L.length = d.S := by
    have := congrArg List.length hL
    rwa [List.length_map, filled_len hi] at this
  have hLl2 : (L.map GX.hd).length = d.S := by rw [List.length_map]; exact hLl
  by_cases hlt4 : i < d.S
  · have hLi := hLn i (Nat.le_refl _) hlt4
    have hLh : (L.map GX.hd)[i]? = some (none, 0, 0) := by rw [List.getElem?_map, hLi]; rfl
    refine GX.wbR ?_; intros
    refine GX.drawn1 (RowR b16 26 [.slice (some ⟨p1, 0, none⟩) d.N d.N, .slice (some ⟨p2, 0, none⟩) d.S d.S]) (fun j => !(List.contains [6] j)) [(0, true), (1, true), (2, true), (3, true), (4, false), (5, true), (6, false)] rfl (by kernel_rfl) (by kernel_rfl) (by first | ((repeat (first | apply Go.GX.SelR.nil | apply Go.GX.SelR.cons | (with_reducible apply Go.GX.TakeR.head) | apply Go.GX.TakeR.tail)); done) | (repeat (first | apply Go.GX.SelR.nil | apply Go.GX.SelR.cons | apply Go.GX.TakeR.head | apply Go.GX.TakeR.tail))) ?_; intro wd F hW hR
    refine GX.wbT ?_; intros
    refine GX.unpin (RowR b16 26 [.slice (some ⟨p1, 0, none⟩) d.N d.N, .slice (some ⟨p2, 0, none⟩) d.S d.S]) ?_
    refine GX.wbR ?_; intros
    refine GX.nmB 112 ?_; rintro x rfl
    rw [← filled_zero (fun f => listOf d l (d.fld i f))]
    have hget : ((L.map GX.hd).set i (some ⟨x, 0, none⟩, d.W, d.W))[i]? = some (some ⟨x, 0, none⟩, d.W, d.W) := List.getElem?_set_self (by omega)
    have hLs : ((L.map GX.hd).set i (some (⟨x, 0, none⟩ : Addr), d.W, d.W)).length = d.S := by rw [List.length_set]; exact hLl2
    refine GX.loop (σ := Nat) (fun f => [(6, .pointer (some ⟨b6, 0, none⟩)), (8, .pointer (some ⟨b8, 0, none⟩)), (12, .pointer (some ⟨bl, 0, none⟩)), (16, .pointer (some ⟨b16, 0, none⟩)), (104, .int .i64 (d.S : Int)), (105, .int .i64 (i : Int)), (18, .int .i64 (i : Int)), (114, .int .i64 (d.W : Int)), (115, .int .i64 (f : Int))]) (fun _ => [])
      (fun f => [GX.Own 35 (Ty.slice Ty.int) (some ⟨p1, 0, none⟩) d.N ((List.range d.N).map (listOf d l)), GX.Own 23 Ty.hdr (some ⟨p2, 0, none⟩) d.S ((L.map GX.hd).set i (some ⟨x, 0, none⟩, d.W, d.W)), GX.Own 35 (Ty.slice Ty.int) (some ⟨x, 0, none⟩) d.W (filled (fun f => listOf d l (d.fld i f)) [] d.W f), Owns 35 (Ty.slice Ty.int) L, RowR b16 26 [.slice (some ⟨p1, 0, none⟩) d.N d.N, .slice (some ⟨p2, 0, none⟩) d.S d.S], RowR b8 26 [.slice none 0 0, .slice none 0 0]]) (fun f => f ≤ d.W) (fun f => d.W - f) 0 ⟨rfl, rfl, rfl, rfl, rfl, rfl, rfl, rfl, rfl, trivial⟩ (by simp) (fun f hf => ?_)
    by_cases hlt5 : f < d.W
    · have hfld := Dim.fld_lt hlt4 hlt5
      obtain ⟨z, hz⟩ := get_lt (show d.fld i f < q3.st.A.length by omega)
      have hzz := n1.wa z (List.mem_of_getElem? hz)
      have hzi := zsI_get hz
      have hsi : sitesOf z = listOf d l (d.fld i f) := sites_in hzz (fun s => by rw [← has_some hz]; exact hall _ s) hl
      have hfl := filled_len (f := fun f => listOf d l (d.fld i f)) (z := []) hf
      have hfg := filled_get (f := fun f => listOf d l (d.fld i f)) (z := []) hlt5
      have hfs := filled_set (f := fun f => listOf d l (d.fld i f)) (z := []) hlt5
      refine GX.wbR ?_; intros
      refine GX.drawn2 (RowR b16 26 [.slice (some ⟨p1, 0, none⟩) d.N d.N, .slice (some ⟨p2, 0, none⟩) d.S d.S]) (GX.Own 23 Ty.hdr (some ⟨p2, 0, none⟩) d.S ((L.map GX.hd).set i (some ⟨x, 0, none⟩, d.W, d.W))) (fun j => !(List.contains [18] j)) [(0, true), (1, true), (2, true), (3, true), (4, true), (5, true), (6, true), (7, true), (8, true), (9, true), (10, true), (11, true), (12, true), (13, false), (14, true), (15, true), (16, false), (17, true), (18, false)] rfl (by kernel_rfl) (by kernel_rfl) (by first | ((repeat (first | apply Go.GX.SelR.nil | apply Go.GX.SelR.cons | (with_reducible apply Go.GX.TakeR.head) | apply Go.GX.TakeR.tail)); done) | (repeat (first | apply Go.GX.SelR.nil | apply Go.GX.SelR.cons | apply Go.GX.TakeR.head | apply Go.GX.TakeR.tail))) ?_; intro wd F hW hR
      refine GX.wbT ?_; intros
      refine GX.gow ?_
      refine (cl (fieldF_spec bl d ((d.N : Int), (d.W : Int), zsI q3.st.A, ()) i f rfl rfl hlt4 hlt5 hMl) fun _ => ?_)
      refine GX.wbT ?_; intros
      refine GX.gow ?_
      refine (cl (list_spec z hzz) fun s => ?_)
      obtain ⟨a9, c9⟩ := s
      dsimp only
      rw [hsi]
      refine GX.wbT ?_; intros
      refine GX.unpin (RowR b16 26 [.slice (some ⟨p1, 0, none⟩) d.N d.N, .slice (some ⟨p2, 0, none⟩) d.S d.S]) ?_
      refine GX.unpin (GX.Own 23 Ty.hdr (some ⟨p2, 0, none⟩) d.S ((L.map GX.hd).set i (some ⟨x, 0, none⟩, d.W, d.W))) ?_
      refine GX.wbR ?_; intros
      rw [hfs]
      exact again (f + 1) ⟨rfl, rfl, rfl, rfl, rfl, rfl, rfl, rfl, rfl, trivial⟩ (by omega) (by omega)
    obtain rfl : f = d.W := by omega
    rw [filled_all, show (List.range d.W).map (fun f => listOf d l (d.fld i f)) = fieldsOf d l i from rfl]
    have hfW : (fieldsOf d l i).length = d.W := by unfold fieldsOf; simp
    rw [show ((L.map GX.hd).set i (some ⟨x, 0, none⟩, d.W, d.W)) = (L.set i (some ⟨x, 0, none⟩, d.W, fieldsOf d l i)).map GX.hd by rw [← GX.hd_set, hfW]]
    refine GX.osP (ao := some ⟨x, 0, none⟩) (cap := d.W) (xs := fieldsOf d l i) i ?_ hLi
    refine GX.wbR ?_; intros
    refine again (i + 1, L.set i (some ⟨x, 0, none⟩, d.W, fieldsOf d l i)) ⟨rfl, rfl, rfl, rfl, rfl, rfl, trivial⟩ ⟨by dsimp only; omega, ?_, fun j hj hj2 => ?_⟩ (by dsimp only; omega)
    · dsimp only
      rw [List.map_set, hL]
      exact filled_set hlt4
    · dsimp only at hj ⊢
      rw [List.getElem?_set_ne (by omega)]
      exact hLn j (by omega) hj2
  obtain rfl : i = d.S := by omega
  rw [filled_all] at hL
  have hXl : ((List.range d.N).map (listOf d l)).length = d.N := by simp
  refine GX.wbRA ?_; intros
  have hfin : Fair (d.N : Int) (d.S : Int) (d.W : Int) l ∧ (0 : Int) = 0 ∧ (⟨(List.range d.N).map (listOf d l), L.map (·.2.2)⟩ : Points) = pts ⟨(d.N : Int).toNat, (d.S : Int).toNat, (d.W : Int).toNat⟩ l ∨ ¬ Fair (d.N : Int) (d.S : Int) (d.W : Int) l ∧ (0 : Int) = 5 ∧ (List.range d.N).map (listOf d l) = [] ∧ L = [] :=
    .inl ⟨⟨⟨hN, hS, hW⟩, by rw [hdd]; exact hl⟩, rfl, by rw [hdd, hL]; rfl⟩
  exact rt2R (⟨0, some ⟨p1, 0, none⟩, d.N, (List.range d.N).map (listOf d l), some ⟨p2, 0, none⟩, d.S, L, hfin, hXl, hLl⟩ : PtsO (d.N : Int) (d.S : Int) (d.W : Int) l) (hv := rfl)
end Go.Proofs.Ytkagjpkgboeaiaa

/- slices.IndexFunc over lists of ints that stay. -/
namespace Go.Proofs.Ytkagjpkgboeaiaa
open Go Go.RR Go.RX Go.GX
attribute [local irreducible] wpList Code.wp wpPlan Exit.then Exit.inBlock bodyPost NoPanic Went GX.Post GX.Again GX.Meet GX.RowR GX.Own GX.Owns GX.Box GX.Sl GX.Pt GX.Ag GX.MapR GX.Kept GX.Pin

theorem indexFunc_spec (ao : Option Addr) (cap : Nat) (xs : List Int) (fid : Nat) (caps : List Value) (psC : List Pf) (hpC : List Res) (p : Int → Bool) [UFunc Try.prog fid]
    (hf : ∀ x ∈ xs, Does Try.prog fid (.int .i64 x :: caps) psC hpC (fun _ : Unit => .bool (p x)) (fun _ => []) (fun _ => hpC)) :
    Does Try.prog 56 [.slice ao xs.length cap, .func (.func fid) #[] caps.toArray] (Sl Ty.int ao cap xs :: psC) hpC (fun _ : Unit => .int .i64 (idxF p xs)) (fun _ => []) (fun _ => hpC) := by
  refine enter Try.func56 rfl Try.ntmps56 rfl fun b => ?_
  refine sln ao fun hl1 hl2 _ => ?_
  repeat (first | (apply GX.s_list; first | apply GX.nil | (refine GX.o ?_; first | (apply GX.k_load; first | refine GX.lr ?_ | refine GX.lrA ?_ | refine GX.ln ?_ | refine GX.lb ?_ | refine GX.lh ?_ | (refine GX.ls ?_; intro ao cap _ _) | (refine GX.lA ?_; intro cs) | (refine GX.l0 ?_; intro cs) | refine GX.o1n ?_ | refine GX.o1b ?_ | refine GX.o1h ?_ | (refine GX.o1s ?_; intro ao cap _ _) | refine GX.omn ?_ | refine GX.omb ?_ | refine GX.omh ?_ | (refine GX.oms ?_; intro ao cap _ _) | refine GX.ofn ?_ | refine GX.ofb ?_ | refine GX.ofh ?_ | (refine GX.ofs ?_; intro ao cap _ _) | (refine GX.oA ?_; intro cs)) | (apply GX.k_move; refine GX.m ?_) | (apply GX.k_indexAddr; first | refine GX.io1 ?_ | refine GX.ioh ?_ | refine GX.i1 ?_ | refine GX.ih ?_ | (refine GX.ix ?_; intro bl o)) | (apply GX.k_binOp_lss; refine GX.b_lss ?_) | (apply GX.k_binOp_add; first | refine GX.b_inc ?_ | refine GX.b_add ?_ | refine GX.b_addw ?_) | (apply GX.k_assign; refine GX.a ?_) | (apply GX.k_call; refine GX.c_len ?_)) | refine GX.gt ?_ | refine GX.gf ?_ | refine GX.gbt ?_ | refine GX.gbf ?_ | refine GX.un ?_ | refine GX.un0 ?_) | apply GX.then_normal | apply GX.seq | apply GX.region | (apply GX.s_cond; first | refine GX.ct ?_ | refine GX.cf ?_ | refine GX.cdf ?_ | refine GX.cdt ?_ | refine GX.cbt ?_ | refine GX.cbf ?_) | apply GX.skip | apply GX.block | apply GX.inBlock_normal | apply GX.exit | apply GX.then_exit | apply GX.inBlock_exit | refine GX.ibo ?_ | apply GX.ret | apply GX.then_ret | apply GX.inBlock_ret)
  refine GX.loop (σ := Nat) (fun i => [(0, .slice ao xs.length cap), (1, .func (.func fid) #[] caps.toArray), (7, .int .i64 (xs.length : Int)), (8, .int .i64 (i : Int))]) (fun _ => []) (fun _ => hpC)
    (fun i => i ≤ xs.length ∧ ∀ y ∈ xs.take i, p y = false) (fun i => xs.length - i) 0 ⟨rfl, rfl, rfl, rfl, trivial⟩ ⟨by omega, by simp⟩ (fun i hi => ?_) (h2 := SelR.all _)
  obtain ⟨hi, hn⟩ := hi
  by_cases hlt : i < xs.length
  · obtain ⟨x, hx⟩ := get_lt hlt
    repeat (first | (apply GX.s_list; first | apply GX.nil | (refine GX.o ?_; first | (apply GX.k_load; first | refine GX.lr ?_ | refine GX.lrA ?_ | refine GX.ln ?_ | refine GX.lb ?_ | refine GX.lh ?_ | (refine GX.ls ?_; intro ao cap _ _) | (refine GX.lA ?_; intro cs) | (refine GX.l0 ?_; intro cs) | refine GX.o1n ?_ | refine GX.o1b ?_ | refine GX.o1h ?_ | (refine GX.o1s ?_; intro ao cap _ _) | refine GX.omn ?_ | refine GX.omb ?_ | refine GX.omh ?_ | (refine GX.oms ?_; intro ao cap _ _) | refine GX.ofn ?_ | refine GX.ofb ?_ | refine GX.ofh ?_ | (refine GX.ofs ?_; intro ao cap _ _) | (refine GX.oA ?_; intro cs)) | (apply GX.k_move; refine GX.m ?_) | (apply GX.k_indexAddr; first | refine GX.io1 ?_ | refine GX.ioh ?_ | refine GX.i1 ?_ | refine GX.ih ?_ | (refine GX.ix ?_; intro bl o)) | (apply GX.k_binOp_lss; refine GX.b_lss ?_) | (apply GX.k_binOp_add; first | refine GX.b_inc ?_ | refine GX.b_add ?_ | refine GX.b_addw ?_) | (apply GX.k_assign; refine GX.a ?_) | (apply GX.k_call; refine GX.c_len ?_)) | refine GX.gt ?_ | refine GX.gf ?_ | refine GX.gbt ?_ | refine GX.gbf ?_ | refine GX.un ?_ | refine GX.un0 ?_) | apply GX.then_normal | apply GX.seq | apply GX.region | (apply GX.s_cond; first | refine GX.ct ?_ | refine GX.cf ?_ | refine GX.cdf ?_ | refine GX.cdt ?_ | refine GX.cbt ?_ | refine GX.cbf ?_) | apply GX.skip | apply GX.block | apply GX.inBlock_normal | apply GX.exit | apply GX.then_exit | apply GX.inBlock_exit | refine GX.ibo ?_ | apply GX.ret | apply GX.then_ret | apply GX.inBlock_ret)
    refine GX.o (clvA (fs := []) (vs := [.int .i64 x]) (cs := caps) (hf x (List.mem_of_getElem? hx)) fun _ => ?_)
    by_cases hp : p x = true
    · repeat (first | (apply GX.s_list; first | apply GX.nil | (refine GX.o ?_; first | (apply GX.k_load; first | refine GX.lr ?_ | refine GX.lrA ?_ | refine GX.ln ?_ | refine GX.lb ?_ | refine GX.lh ?_ | (refine GX.ls ?_; intro ao cap _ _) | (refine GX.lA ?_; intro cs) | (refine GX.l0 ?_; intro cs) | refine GX.o1n ?_ | refine GX.o1b ?_ | refine GX.o1h ?_ | (refine GX.o1s ?_; intro ao cap _ _) | refine GX.omn ?_ | refine GX.omb ?_ | refine GX.omh ?_ | (refine GX.oms ?_; intro ao cap _ _) | refine GX.ofn ?_ | refine GX.ofb ?_ | refine GX.ofh ?_ | (refine GX.ofs ?_; intro ao cap _ _) | (refine GX.oA ?_; intro cs)) | (apply GX.k_move; refine GX.m ?_) | (apply GX.k_indexAddr; first | refine GX.io1 ?_ | refine GX.ioh ?_ | refine GX.i1 ?_ | refine GX.ih ?_ | (refine GX.ix ?_; intro bl o)) | (apply GX.k_binOp_lss; refine GX.b_lss ?_) | (apply GX.k_binOp_add; first | refine GX.b_inc ?_ | refine GX.b_add ?_ | refine GX.b_addw ?_) | (apply GX.k_assign; refine GX.a ?_) | (apply GX.k_call; refine GX.c_len ?_)) | refine GX.gt ?_ | refine GX.gf ?_ | refine GX.gbt ?_ | refine GX.gbf ?_ | refine GX.un ?_ | refine GX.un0 ?_) | apply GX.then_normal | apply GX.seq | apply GX.region | (apply GX.s_cond; first | refine GX.ct ?_ | refine GX.cf ?_ | refine GX.cdf ?_ | refine GX.cdt ?_ | refine GX.cbt ?_ | refine GX.cbf ?_) | apply GX.skip | apply GX.block | apply GX.inBlock_normal | apply GX.exit | apply GX.then_exit | apply GX.inBlock_exit | refine GX.ibo ?_ | apply GX.ret | apply GX.then_ret | apply GX.inBlock_ret)
      exact rt1 () (congrArg (Value.int .i64) (idxF_some hx hp hn)) (h2 := SelR.all _)
    · have hp : p x = false := by simpa using hp
      repeat (first | (apply GX.s_list; first | apply GX.nil | (refine GX.o ?_; first | (apply GX.k_load; first | refine GX.lr ?_ | refine GX.lrA ?_ | refine GX.ln ?_ | refine GX.lb ?_ | refine GX.lh ?_ | (refine GX.ls ?_; intro ao cap _ _) | (refine GX.lA ?_; intro cs) | (refine GX.l0 ?_; intro cs) | refine GX.o1n ?_ | refine GX.o1b ?_ | refine GX.o1h ?_ | (refine GX.o1s ?_; intro ao cap _ _) | refine GX.omn ?_ | refine GX.omb ?_ | refine GX.omh ?_ | (refine GX.oms ?_; intro ao cap _ _) | refine GX.ofn ?_ | refine GX.ofb ?_ | refine GX.ofh ?_ | (refine GX.ofs ?_; intro ao cap _ _) | (refine GX.oA ?_; intro cs)) | (apply GX.k_move; refine GX.m ?_) | (apply GX.k_indexAddr; first | refine GX.io1 ?_ | refine GX.ioh ?_ | refine GX.i1 ?_ | refine GX.ih ?_ | (refine GX.ix ?_; intro bl o)) | (apply GX.k_binOp_lss; refine GX.b_lss ?_) | (apply GX.k_binOp_add; first | refine GX.b_inc ?_ | refine GX.b_add ?_ | refine GX.b_addw ?_) | (apply GX.k_assign; refine GX.a ?_) | (apply GX.k_call; refine GX.c_len ?_)) | refine GX.gt ?_ | refine GX.gf ?_ | refine GX.gbt ?_ | refine GX.gbf ?_ | refine GX.un ?_ | refine GX.un0 ?_) | apply GX.then_normal | apply GX.seq | apply GX.region | (apply GX.s_cond; first | refine GX.ct ?_ | refine GX.cf ?_ | refine GX.cdf ?_ | refine GX.cdt ?_ | refine GX.cbt ?_ | refine GX.cbf ?_) | apply GX.skip | apply GX.block | apply GX.inBlock_normal | apply GX.exit | apply GX.then_exit | apply GX.inBlock_exit | refine GX.ibo ?_ | apply GX.ret | apply GX.then_ret | apply GX.inBlock_ret)
      exact again (i + 1) ⟨rfl, rfl, rfl, rfl, trivial⟩ ⟨by omega, take_all_succ hx hp hn⟩ (by omega) (h2 := SelR.all _)
  · have hil : i = xs.length := by omega
    subst hil
    repeat (first | (apply GX.s_list; first | apply GX.nil | (refine GX.o ?_; first | (apply GX.k_load; first | refine GX.lr ?_ | refine GX.lrA ?_ | refine GX.ln ?_ | refine GX.lb ?_ | refine GX.lh ?_ | (refine GX.ls ?_; intro ao cap _ _) | (refine GX.lA ?_; intro cs) | (refine GX.l0 ?_; intro cs) | refine GX.o1n ?_ | refine GX.o1b ?_ | refine GX.o1h ?_ | (refine GX.o1s ?_; intro ao cap _ _) | refine GX.omn ?_ | refine GX.omb ?_ | refine GX.omh ?_ | (refine GX.oms ?_; intro ao cap _ _) | refine GX.ofn ?_ | refine GX.ofb ?_ | refine GX.ofh ?_ | (refine GX.ofs ?_; intro ao cap _ _) | (refine GX.oA ?_; intro cs)) | (apply GX.k_move; refine GX.m ?_) | (apply GX.k_indexAddr; first | refine GX.io1 ?_ | refine GX.ioh ?_ | refine GX.i1 ?_ | refine GX.ih ?_ | (refine GX.ix ?_; intro bl o)) | (apply GX.k_binOp_lss; refine GX.b_lss ?_) | (apply GX.k_binOp_add; first | refine GX.b_inc ?_ | refine GX.b_add ?_ | refine GX.b_addw ?_) | (apply GX.k_assign; refine GX.a ?_) | (apply GX.k_call; refine GX.c_len ?_)) | refine GX.gt ?_ | refine GX.gf ?_ | refine GX.gbt ?_ | refine GX.gbf ?_ | refine GX.un ?_ | refine GX.un0 ?_) | apply GX.then_normal | apply GX.seq | apply GX.region | (apply GX.s_cond; first | refine GX.ct ?_ | refine GX.cf ?_ | refine GX.cdf ?_ | refine GX.cdt ?_ | refine GX.cbt ?_ | refine GX.cbf ?_) | apply GX.skip | apply GX.block | apply GX.inBlock_normal | apply GX.exit | apply GX.then_exit | apply GX.inBlock_exit | refine GX.ibo ?_ | apply GX.ret | apply GX.then_ret | apply GX.inBlock_ret)
    rw [List.take_length] at hn
    exact rt1 () (congrArg (Value.int .i64) (idxF_none hn)) (h2 := SelR.all _)
end Go.Proofs.Ytkagjpkgboeaiaa

/- slices.ContainsFunc over lists of ints. -/
namespace Go.Proofs.Ytkagjpkgboeaiaa
open Go Go.RR Go.RX Go.GX
attribute [local irreducible] wpList Code.wp wpPlan Exit.then Exit.inBlock bodyPost NoPanic Went GX.Post GX.Again GX.Meet GX.RowR GX.Own GX.Owns GX.Box GX.Sl GX.Pt GX.Ag GX.MapR GX.Kept GX.Pin

theorem containsFunc_spec (ao : Option Addr) (cap : Nat) (xs : List Int) (fid : Nat) (caps : List Value) (psC : List Pf) (hpC : List Res) (p : Int → Bool) [UFunc Try.prog fid]
    (hf : ∀ x ∈ xs, Does Try.prog fid (.int .i64 x :: caps) psC hpC (fun _ : Unit => .bool (p x)) (fun _ => []) (fun _ => hpC)) :
    Does Try.prog 54 [.slice ao xs.length cap, .func (.func fid) #[] caps.toArray] (Sl Ty.int ao cap xs :: psC) hpC (fun _ : Unit => .bool (xs.any p)) (fun _ => []) (fun _ => hpC) := by
  refine enter Try.func54 rfl Try.ntmps54 rfl fun b => ?_
  repeat (first | (apply GX.s_list; first | apply GX.nil | (refine GX.o ?_; first | (apply GX.k_move; refine GX.m ?_) | (apply GX.k_assign; refine GX.a ?_) | (apply GX.k_binOp_geq; refine GX.b_geq ?_)) | refine GX.gt ?_ | refine GX.gf ?_ | refine GX.gbt ?_ | refine GX.gbf ?_ | refine GX.un ?_ | refine GX.un0 ?_) | apply GX.then_normal | apply GX.seq | apply GX.region | (apply GX.s_cond; first | refine GX.ct ?_ | refine GX.cf ?_ | refine GX.cdf ?_ | refine GX.cdt ?_ | refine GX.cbt ?_ | refine GX.cbf ?_) | apply GX.skip | apply GX.block | apply GX.inBlock_normal | apply GX.exit | apply GX.then_exit | apply GX.inBlock_exit | refine GX.ibo ?_ | apply GX.ret | apply GX.then_ret | apply GX.inBlock_ret)
  refine GX.o (clA (indexFunc_spec ao cap xs fid caps psC hpC p hf) fun _ => ?_)
  rw [← idxF_any]
  repeat (first | (apply GX.s_list; first | apply GX.nil | (refine GX.o ?_; first | (apply GX.k_move; refine GX.m ?_) | (apply GX.k_assign; refine GX.a ?_) | (apply GX.k_binOp_geq; refine GX.b_geq ?_)) | refine GX.gt ?_ | refine GX.gf ?_ | refine GX.gbt ?_ | refine GX.gbf ?_ | refine GX.un ?_ | refine GX.un0 ?_) | apply GX.then_normal | apply GX.seq | apply GX.region | (apply GX.s_cond; first | refine GX.ct ?_ | refine GX.cf ?_ | refine GX.cdf ?_ | refine GX.cdt ?_ | refine GX.cbt ?_ | refine GX.cbf ?_) | apply GX.skip | apply GX.block | apply GX.inBlock_normal | apply GX.exit | apply GX.then_exit | apply GX.inBlock_exit | refine GX.ibo ?_ | apply GX.ret | apply GX.then_ret | apply GX.inBlock_ret)
  exact rt1 () rfl (h2 := SelR.all _)
end Go.Proofs.Ytkagjpkgboeaiaa
