import Derived.Test.YtkagjpkgboeaiaaR9
import Derived.Test.YtkagjpkgboeaiaaR12
import Derived.Test.YtkagjpkgboeaiaaR14
import Derived.Test.YtkagjpkgboeaiaaR16
/- The walk over solve's begin. -/
namespace Go.SolM
open Go.Api Go.RiseM
theorem fit1 {d : Dim} {X : Nat → Nat → Prop} {c : Con} (h : Fit d X c) (e : c.kind = 1) : X c.a.toNat c.b.toNat := by unfold Fit at h; rwa [if_pos e] at h
theorem fit2 {d : Dim} {X : Nat → Nat → Prop} {c : Con} (h : Fit d X c) (e : c.kind = 2) : ∀ s, X c.b.toNat s → X c.a.toNat s := by unfold Fit at h; rwa [if_neg (by omega), if_pos e] at h
theorem fit3 {d : Dim} {X : Nat → Nat → Prop} {c : Con} (h : Fit d X c) (e : c.kind = 3) : ∀ k s, X c.b.toNat k → X (d.fld k c.f.toNat) s → X c.a.toNat s := by unfold Fit at h; rwa [if_neg (by omega), if_neg (by omega), if_pos e] at h
theorem fit4 {d : Dim} {X : Nat → Nat → Prop} {c : Con} (h : Fit d X c) (e : c.kind = 4) : ∀ k s, X c.a.toNat k → X c.b.toNat s → X (d.fld k c.f.toNat) s := by unfold Fit at h; rwa [if_neg (by omega), if_neg (by omega), if_neg (by omega), if_pos e] at h
theorem fit5 {d : Dim} {X : Nat → Nat → Prop} {c : Con} (h : Fit d X c) (e : c.kind = 5) : ∀ f, f < d.W → ∀ s, X (d.fld c.a.toNat f) s ↔ X (d.fld c.b.toNat f) s := by unfold Fit at h; rwa [if_neg (by omega), if_neg (by omega), if_neg (by omega), if_neg (by omega)] at h
abbrev KL := List (Option Addr × Nat × List Ask)
abbrev kls (k : KL) : List (List Ask) := k.map (·.2.2)
theorem kls_set {k : KL} {i : Nat} {a : Option Addr} {c : Nat} {ks ks' : List Ask} (h : (kls k)[i]? = some ks) (hs : ∀ q ∈ ks, q ∈ ks') : ∀ (n : Nat) x, (kls k)[n]? = some x → ∃ x', (kls (k.set i (a, c, ks')))[n]? = some x' ∧ ∀ q ∈ x, q ∈ x' := by
  intro n x hx
  have hi := (List.getElem?_eq_some_iff.1 h).1
  unfold kls
  rw [List.map_set]
  by_cases e : i = n
  · subst e
    rw [h] at hx; cases hx
    exact ⟨ks', List.getElem?_set_self (by simpa [kls] using hi), hs⟩
  · rw [List.getElem?_set_ne e]; exact ⟨x, hx, fun _ h => h⟩
theorem asks_set {d : Dim} {l : List Con} {k : KL} (h : Asks d l (kls k)) {i : Nat} {a : Option Addr} {c : Nat} {ks : List Ask} (hk : (kls k)[i]? = some ks) {q : Ask} (hq : AskOk d l i q) : Asks d l (kls (k.set i (a, c, ks ++ [q]))) := by
  have hi := (List.getElem?_eq_some_iff.1 hk).1
  unfold kls
  rw [List.map_set]
  refine ⟨by rw [List.length_set]; exact h.1, fun n x hx y hy => ?_⟩
  by_cases e : i = n
  · subst e
    rw [List.getElem?_set_self (by simpa [kls] using hi)] at hx
    cases hx
    rw [List.mem_append, List.mem_singleton] at hy
    rcases hy with hy | rfl
    · exact h.2 i ks hk y hy
    · exact hq
  · rw [List.getElem?_set_ne e] at hx; exact h.2 n x hx y hy
end Go.SolM
namespace Go.Proofs.Ytkagjpkgboeaiaa
open Go Go.RR Go.RX Go.GX Go.Api Go.RiseM Go.SolM Go.SetM Go.NumM
attribute [local irreducible] wpList Code.wp wpPlan Exit.then Exit.inBlock bodyPost NoPanic Went GX.Post GX.Again GX.Meet GX.RowR GX.Own GX.Owns GX.Box GX.Sl GX.Pt GX.Ag GX.MapR GX.SetR GX.Kept GX.Pin wpT GoK AtEnd Both
structure BegR (d : Dim) (l : List Con) (q : SQ) (k : KL) (c : Con) (m : Nat) where
  q' : SQ
  k' : KL
  inv : Inv d l q'.st
  le : Le d q.st q'.st
  L : q'.L.map (·.2.2) = q'.st.G.map zsI
  c3 : ∀ ex, C3 q.st ex → C3 q'.st ex
  took : Took d c (kls k') q'.st
  mono : ∀ (n : Nat) x, (kls k)[n]? = some x → ∃ x', (kls k')[n]? = some x' ∧ ∀ q ∈ x, q ∈ x'
  asks : Asks d l (kls k')
  len : ∀ x ∈ kls k', x.length ≤ m + 1
theorem len_set {k : KL} {m i : Nat} (h : ∀ x ∈ kls k, x.length ≤ m) {a : Option Addr} {c : Nat} {ks : List SolM.Ask} (hk : (kls k)[i]? = some ks) (q : SolM.Ask) : ∀ x ∈ kls (k.set i (a, c, ks ++ [q])), x.length ≤ m + 1 := by
  intro x hx
  unfold kls at hx
  rw [List.map_set] at hx
  rcases List.mem_or_eq_of_mem_set hx with hx | rfl
  · have := h x hx; omega
  · have := h ks (List.mem_of_getElem? hk); simp; omega
set_option maxHeartbeats 4000000 in
theorem begin_spec (bl : Nat) (v : VV) (d : Dim) (l : List Con) (q : SQ) (k : KL) (cs : List Value) (c : Con) (m : Nat) (hI : Inv d l q.st) (hL : q.L.map (·.2.2) = q.st.G.map zsI) (hK : Asks d l (kls k)) (hkm : ∀ x ∈ kls k, x.length ≤ m) (hm : m ≤ 100000) (hc : c ∈ l) (hl : May d c) (hS : d.S ≤ 60) (hW : d.W ≤ 8) (hM : d.M ≤ 100000) :
    Does Try.prog 20 [.pointer (some ⟨bl, 0, none⟩), .agg cs.toArray] [Ag tyCon cs c] [RowR bl 53 [.int .i64 (d.N : Int), .int .i64 (d.W : Int), .slice (some ⟨v.am, 0, none⟩) d.M d.M, .slice (some ⟨v.go, 0, none⟩) d.M d.M, .slice (some ⟨v.ask, 0, none⟩) d.M d.M, .slice (some ⟨v.se, 0, none⟩) d.M d.M, .map (some v.kn), .slice q.ao q.st.xs.length q.cap, .slice (some ⟨v.wt, 0, none⟩) d.M d.M], GX.Own 57 (Ty.num .u64) (some ⟨v.am, 0, none⟩) d.M (zsI q.st.A), GX.Own 35 Ty.hdr (some ⟨v.go, 0, none⟩) d.M (q.L.map GX.hd), Owns 3 Ty.int q.L, GX.Own 57 (Ty.num .u64) (some ⟨v.se, 0, none⟩) d.M (zsI q.st.E), SetR v.kn 2 (q.st.D.map key), GX.Own 3 Ty.int q.ao q.cap q.st.xs, GX.Own 4 Ty.bool (some ⟨v.wt, 0, none⟩) d.M q.st.W, GX.Own 71 Ty.hdr (some ⟨v.ask, 0, none⟩) d.M (k.map GX.hd), Owns 73 tyAsk k]
      (fun _ : BegR d l q k c m => .tuple #[]) (fun _ => []) (fun s => [RowR bl 53 [.int .i64 (d.N : Int), .int .i64 (d.W : Int), .slice (some ⟨v.am, 0, none⟩) d.M d.M, .slice (some ⟨v.go, 0, none⟩) d.M d.M, .slice (some ⟨v.ask, 0, none⟩) d.M d.M, .slice (some ⟨v.se, 0, none⟩) d.M d.M, .map (some v.kn), .slice s.q'.ao s.q'.st.xs.length s.q'.cap, .slice (some ⟨v.wt, 0, none⟩) d.M d.M], GX.Own 57 (Ty.num .u64) (some ⟨v.am, 0, none⟩) d.M (zsI s.q'.st.A), GX.Own 35 Ty.hdr (some ⟨v.go, 0, none⟩) d.M (s.q'.L.map GX.hd), Owns 3 Ty.int s.q'.L, GX.Own 57 (Ty.num .u64) (some ⟨v.se, 0, none⟩) d.M (zsI s.q'.st.E), SetR v.kn 2 (s.q'.st.D.map key), GX.Own 3 Ty.int s.q'.ao s.q'.cap s.q'.st.xs, GX.Own 4 Ty.bool (some ⟨v.wt, 0, none⟩) d.M s.q'.st.W, GX.Own 71 Ty.hdr (some ⟨v.ask, 0, none⟩) d.M (s.k'.map GX.hd), Owns 73 tyAsk s.k']) := by
  refine enter Try.func20 rfl Try.ntmps20 rfl fun b => ?_
  have hF := in_closed d l c hc
  have hN := d.N_le
  have hkm1 : ∀ x ∈ kls k, x.length ≤ m + 1 := fun x hx => by have := hkm x hx; omega
  have hmono : ∀ (n : Nat) x, (kls k)[n]? = some x → ∃ x', (kls k)[n]? = some x' ∧ ∀ q ∈ x, q ∈ x' := fun n x hx => ⟨x, hx, fun _ h => h⟩
  obtain ⟨kd, ca, cb, cf⟩ := c
  unfold May at hl
  dsimp only at hl
  refine GX.wbR ?_; intros
  refine GX.nmP 3 ?_; rintro b3 rfl
  by_cases e1 : kd = 1
  · rw [if_pos e1] at hl
    obtain ⟨⟨a0, a1⟩, b0, b1⟩ := hl
    obtain ⟨a, rfl⟩ := Int.eq_ofNat_of_zero_le a0
    obtain ⟨c, rfl⟩ := Int.eq_ofNat_of_zero_le b0
    have hin := fit1 hF e1
    simp only [Int.toNat_natCast] at hin
    obtain ⟨hsh, hlt⟩ := shlW (show c < 64 by omega)
    refine GX.wbR ?_; intros
    refine GX.drawn0  (fun j => !(List.contains [6] j)) [(0, true), (1, true), (2, true), (3, true), (4, true), (5, true), (6, false)] rfl (by kernel_rfl) (by kernel_rfl) (by first | ((repeat (first | apply Go.GX.SelR.nil | apply Go.GX.SelR.cons | (with_reducible apply Go.GX.TakeR.head) | apply Go.GX.TakeR.tail)); done) | (repeat (first | apply Go.GX.SelR.nil | apply Go.GX.SelR.cons | apply Go.GX.TakeR.head | apply Go.GX.TakeR.tail))) ?_; intro wd F hW hR
    refine GX.wbT ?_; intros
    rw [hsh]
    refine GX.gow ?_
    refine (cl (join_spec bl v d l q a (2 ^ c) hI (by omega) hlt (fun s hs => by rw [Nat.testBit_two_pow] at hs; simp at hs; subst hs; exact hin) (by omega)) fun s => ?_)
    obtain ⟨ao2, cap2, A2, W2, xs2, j1, j2, j6, j7⟩ := s
    dsimp only
    refine GX.wbT ?_; intros
    refine GX.wbR ?_; intros
    refine en0 ⟨⟨ao2, cap2, q.L, ⟨A2, q.st.E, q.st.G, q.st.D, W2, xs2⟩⟩, k, j1, j2, hL, fun ex h => h.le j2 rfl, ?_, hmono, hK, hkm1⟩
    unfold Took
    rw [if_pos e1]
    simp only [Int.toNat_natCast]
    exact j6 c (by rw [Nat.testBit_two_pow]; simp)
  by_cases e2 : kd = 2
  · rw [if_neg e1, if_pos e2] at hl
    obtain ⟨⟨a0, a1⟩, b0, b1⟩ := hl
    obtain ⟨a, rfl⟩ := Int.eq_ofNat_of_zero_le a0
    obtain ⟨c, rfl⟩ := Int.eq_ofNat_of_zero_le b0
    have hin := fit2 hF e2
    simp only [Int.toNat_natCast] at hin
    refine GX.wbR ?_; intros
    refine GX.o (cl (edge_spec bl v d l q c a hI hL (by omega) (by omega) hin (by omega)) fun s => ?_)
    obtain ⟨q2, j1, j2, j3, j4, j5⟩ := s
    dsimp only
    refine GX.wbR ?_; intros
    refine en0 ⟨q2, k, j1, j2, j3, j5, ?_, hmono, hK, hkm1⟩
    unfold Took
    rw [if_neg e1, if_pos e2]
    simp only [Int.toNat_natCast]
    exact j4
  by_cases e3 : kd = 3
  · rw [if_neg e1, if_neg e2, if_pos (.inl e3)] at hl
    obtain ⟨⟨a0, a1⟩, ⟨b0, b1⟩, f0, f1⟩ := hl
    obtain ⟨a, rfl⟩ := Int.eq_ofNat_of_zero_le a0
    obtain ⟨c, rfl⟩ := Int.eq_ofNat_of_zero_le b0
    have hin := fit3 hF e3
    simp only [Int.toNat_natCast] at hin
    obtain ⟨ks, hks⟩ := get_lt (show c < (kls k).length by rw [hK.1]; omega)
    have hksl := hkm ks (List.mem_of_getElem? hks)
    obtain ⟨ag, cg, hkx, hkh⟩ := snd_get (show k.map (·.2.2) = kls k from rfl) hks
    have hkl := (List.getElem?_eq_some_iff.1 hkh).1
    have hkl2 := (List.getElem?_eq_some_iff.1 hkx).1
    refine GX.wbR ?_; intros
    refine GX.osT c ?_
    refine GX.drawn2 (RowR bl 53 [.int .i64 (d.N : Int), .int .i64 (d.W : Int), .slice (some ⟨v.am, 0, none⟩) d.M d.M, .slice (some ⟨v.go, 0, none⟩) d.M d.M, .slice (some ⟨v.ask, 0, none⟩) d.M d.M, .slice (some ⟨v.se, 0, none⟩) d.M d.M, .map (some v.kn), .slice q.ao q.st.xs.length q.cap, .slice (some ⟨v.wt, 0, none⟩) d.M d.M]) (GX.Own 71 Ty.hdr (some ⟨v.ask, 0, none⟩) d.M (k.map GX.hd)) (fun j => !(List.contains [24] j)) [(0, true), (1, true), (2, true), (3, true), (4, true), (5, true), (6, true), (7, true), (8, true), (9, true), (10, true), (11, true), (12, true), (13, true), (14, true), (15, true), (16, true), (17, true), (18, true), (19, true), (20, true), (21, false), (22, false), (23, true), (24, false)] rfl (by kernel_rfl) (by kernel_rfl) (by first | ((repeat (first | apply Go.GX.SelR.nil | apply Go.GX.SelR.cons | (with_reducible apply Go.GX.TakeR.head) | apply Go.GX.TakeR.tail)); done) | (repeat (first | apply Go.GX.SelR.nil | apply Go.GX.SelR.cons | apply Go.GX.TakeR.head | apply Go.GX.TakeR.tail))) ?_; intro wd F hW hR
    refine GX.wbT ?_; intros
    refine GX.nmS 48 ?_; rintro a48 c48 rfl rfl
    refine GX.unpin (RowR bl 53 [.int .i64 (d.N : Int), .int .i64 (d.W : Int), .slice (some ⟨v.am, 0, none⟩) d.M d.M, .slice (some ⟨v.go, 0, none⟩) d.M d.M, .slice (some ⟨v.ask, 0, none⟩) d.M d.M, .slice (some ⟨v.se, 0, none⟩) d.M d.M, .map (some v.kn), .slice q.ao q.st.xs.length q.cap, .slice (some ⟨v.wt, 0, none⟩) d.M d.M]) ?_
    refine GX.unpin (GX.Own 71 Ty.hdr (some ⟨v.ask, 0, none⟩) d.M (k.map GX.hd)) ?_
    refine GX.wbT ?_; intros
    rw [hd_set]
    refine GX.osP c ?_ (List.getElem?_set_self hkl2)
    rw [List.set_set]
    refine GX.wbR ?_; intros
    refine en0 ⟨q, k.set c (a48, c48, ks ++ [⟨kd, a, cf⟩]), hI, Le.refl _ _, hL, fun _ h => h, ?_, kls_set hks (fun q hq => by simp [hq]), asks_set hK hks ⟨.inl e3, ⟨a0, a1⟩, ⟨f0, f1⟩, fun k2 hk2 s hs => ?_⟩, len_set hkm hks _⟩
    · unfold Took
      rw [if_neg e1, if_neg e2, if_pos e3]
      simp only [Int.toNat_natCast]
      subst e3
      exact ⟨_, by unfold kls; rw [List.map_set]; exact List.getElem?_set_self (by simpa using hkl2), by simp⟩
    · unfold askEdge at hs ⊢
      rw [if_pos e3] at hs ⊢
      simp only [Int.toNat_natCast]
      exact hin k2 s hk2 hs
  by_cases e4 : kd = 4
  · rw [if_neg e1, if_neg e2, if_pos (.inr e4)] at hl
    obtain ⟨⟨a0, a1⟩, ⟨b0, b1⟩, f0, f1⟩ := hl
    obtain ⟨a, rfl⟩ := Int.eq_ofNat_of_zero_le a0
    obtain ⟨c, rfl⟩ := Int.eq_ofNat_of_zero_le b0
    have hin := fit4 hF e4
    simp only [Int.toNat_natCast] at hin
    obtain ⟨ks, hks⟩ := get_lt (show a < (kls k).length by rw [hK.1]; omega)
    have hksl := hkm ks (List.mem_of_getElem? hks)
    obtain ⟨ag, cg, hkx, hkh⟩ := snd_get (show k.map (·.2.2) = kls k from rfl) hks
    have hkl := (List.getElem?_eq_some_iff.1 hkh).1
    have hkl2 := (List.getElem?_eq_some_iff.1 hkx).1
    refine GX.wbR ?_; intros
    refine GX.osT a ?_
    refine GX.drawn2 (RowR bl 53 [.int .i64 (d.N : Int), .int .i64 (d.W : Int), .slice (some ⟨v.am, 0, none⟩) d.M d.M, .slice (some ⟨v.go, 0, none⟩) d.M d.M, .slice (some ⟨v.ask, 0, none⟩) d.M d.M, .slice (some ⟨v.se, 0, none⟩) d.M d.M, .map (some v.kn), .slice q.ao q.st.xs.length q.cap, .slice (some ⟨v.wt, 0, none⟩) d.M d.M]) (GX.Own 71 Ty.hdr (some ⟨v.ask, 0, none⟩) d.M (k.map GX.hd)) (fun j => !(List.contains [24] j)) [(0, true), (1, true), (2, true), (3, true), (4, true), (5, true), (6, true), (7, true), (8, true), (9, true), (10, true), (11, true), (12, true), (13, true), (14, true), (15, true), (16, true), (17, true), (18, true), (19, true), (20, true), (21, false), (22, false), (23, true), (24, false)] rfl (by kernel_rfl) (by kernel_rfl) (by first | ((repeat (first | apply Go.GX.SelR.nil | apply Go.GX.SelR.cons | (with_reducible apply Go.GX.TakeR.head) | apply Go.GX.TakeR.tail)); done) | (repeat (first | apply Go.GX.SelR.nil | apply Go.GX.SelR.cons | apply Go.GX.TakeR.head | apply Go.GX.TakeR.tail))) ?_; intro wd F hW hR
    refine GX.wbT ?_; intros
    refine GX.nmS 74 ?_; rintro a48 c48 rfl rfl
    refine GX.unpin (RowR bl 53 [.int .i64 (d.N : Int), .int .i64 (d.W : Int), .slice (some ⟨v.am, 0, none⟩) d.M d.M, .slice (some ⟨v.go, 0, none⟩) d.M d.M, .slice (some ⟨v.ask, 0, none⟩) d.M d.M, .slice (some ⟨v.se, 0, none⟩) d.M d.M, .map (some v.kn), .slice q.ao q.st.xs.length q.cap, .slice (some ⟨v.wt, 0, none⟩) d.M d.M]) ?_
    refine GX.unpin (GX.Own 71 Ty.hdr (some ⟨v.ask, 0, none⟩) d.M (k.map GX.hd)) ?_
    refine GX.wbT ?_; intros
    rw [hd_set]
    refine GX.osP a ?_ (List.getElem?_set_self hkl2)
    rw [List.set_set]
    refine GX.wbR ?_; intros
    refine en0 ⟨q, k.set a (a48, c48, ks ++ [⟨kd, c, cf⟩]), hI, Le.refl _ _, hL, fun _ h => h, ?_, kls_set hks (fun q hq => by simp [hq]), asks_set hK hks ⟨.inr e4, ⟨b0, b1⟩, ⟨f0, f1⟩, fun k2 hk2 s hs => ?_⟩, len_set hkm hks _⟩
    · unfold Took
      rw [if_neg e1, if_neg e2, if_neg e3, if_pos e4]
      simp only [Int.toNat_natCast]
      subst e4
      exact ⟨_, by unfold kls; rw [List.map_set]; exact List.getElem?_set_self (by simpa using hkl2), by simp⟩
    · unfold askEdge at hs ⊢
      rw [if_neg e3] at hs ⊢
      simp only [Int.toNat_natCast] at hs
      exact hin k2 s hk2 hs
  · rw [if_neg e1, if_neg e2, if_neg (by omega)] at hl
    by_cases e5 : kd = 5
    · rw [if_pos e5] at hl
      obtain ⟨⟨a0, a1⟩, b0, b1⟩ := hl
      obtain ⟨a, rfl⟩ := Int.eq_ofNat_of_zero_le a0
      obtain ⟨c, rfl⟩ := Int.eq_ofNat_of_zero_le b0
      have hin := fit5 hF e5
      simp only [Int.toNat_natCast] at hin
      refine GX.wbR ?_; intros
      refine GX.loop (σ := Nat × SQ) (fun s => [(0, .pointer (some ⟨bl, 0, none⟩)), (3, .pointer (some ⟨b3, 0, none⟩)), (81, .int .i64 (d.W : Int)), (82, .int .i64 (s.1 : Int))]) (fun _ => []) (fun s => [RowR bl 53 [.int .i64 (d.N : Int), .int .i64 (d.W : Int), .slice (some ⟨v.am, 0, none⟩) d.M d.M, .slice (some ⟨v.go, 0, none⟩) d.M d.M, .slice (some ⟨v.ask, 0, none⟩) d.M d.M, .slice (some ⟨v.se, 0, none⟩) d.M d.M, .map (some v.kn), .slice s.2.ao s.2.st.xs.length s.2.cap, .slice (some ⟨v.wt, 0, none⟩) d.M d.M], GX.Own 57 (Ty.num .u64) (some ⟨v.am, 0, none⟩) d.M (zsI s.2.st.A), GX.Own 35 Ty.hdr (some ⟨v.go, 0, none⟩) d.M (s.2.L.map GX.hd), Owns 3 Ty.int s.2.L, GX.Own 57 (Ty.num .u64) (some ⟨v.se, 0, none⟩) d.M (zsI s.2.st.E), SetR v.kn 2 (s.2.st.D.map key), GX.Own 3 Ty.int s.2.ao s.2.cap s.2.st.xs, GX.Own 4 Ty.bool (some ⟨v.wt, 0, none⟩) d.M s.2.st.W, GX.Own 71 Ty.hdr (some ⟨v.ask, 0, none⟩) d.M (k.map GX.hd), Owns 73 tyAsk k])
        (fun s => s.1 ≤ d.W ∧ Inv d l s.2.st ∧ Le d q.st s.2.st ∧ s.2.L.map (·.2.2) = s.2.st.G.map zsI ∧ (∀ f, f < s.1 → EdgeOk s.2.st (d.fld a f) (d.fld c f) ∧ EdgeOk s.2.st (d.fld c f) (d.fld a f)) ∧ ∀ ex, C3 q.st ex → C3 s.2.st ex) (fun s => d.W - s.1) (0, q) ⟨rfl, rfl, rfl, rfl, trivial⟩ ⟨by simp, hI, Le.refl _ _, hL, (fun f hf => absurd hf (Nat.not_lt_zero _)), fun _ h => h⟩ (fun s hs => ?_)
      obtain ⟨f, q2⟩ := s
      obtain ⟨hf0, h1, h2, h3, h4, h5⟩ := hs
      dsimp only at *
      by_cases hlt : f < d.W
      · have l1 := Dim.fld_lt (d := d) (s := a) (f := f) (by omega) hlt
        have l2 := Dim.fld_lt (d := d) (s := c) (f := f) (by omega) hlt
        refine GX.wbR ?_; intros
        refine GX.drawn0  (fun j => !(List.contains [10, 11] j)) [(0, true), (1, true), (2, true), (3, true), (4, true), (6, true), (7, true), (8, true), (9, true), (5, false), (10, false), (11, false)] rfl (by kernel_rfl) (by kernel_rfl) (by first | ((repeat (first | apply Go.GX.SelR.nil | apply Go.GX.SelR.cons | (with_reducible apply Go.GX.TakeR.head) | apply Go.GX.TakeR.tail)); done) | (repeat (first | apply Go.GX.SelR.nil | apply Go.GX.SelR.cons | apply Go.GX.TakeR.head | apply Go.GX.TakeR.tail))) ?_; intro wd F hW hR
        refine GX.wbT ?_; intros
        refine GX.gow ?_
        refine (cl (field_spec bl _ d a f rfl rfl (by omega) hlt hM) fun _ => ?_)
        refine GX.wbT ?_; intros
        refine GX.gow ?_
        refine (cl (field_spec bl _ d c f rfl rfl (by omega) hlt hM) fun _ => ?_)
        refine GX.wbT ?_; intros
        refine GX.gow ?_
        refine (cl (edge_spec bl v d l q2 (d.fld a f) (d.fld c f) h1 h3 l1 l2 (fun s hs => (hin f hlt s).1 hs) (by omega)) fun s => ?_)
        obtain ⟨q3, j1, j2, j3, j4, j5⟩ := s
        dsimp only
        refine GX.wbT ?_; intros
        refine GX.wbR ?_; intros
        refine GX.drawn0  (fun j => !(List.contains [10, 11] j)) [(0, true), (1, true), (2, true), (3, true), (4, true), (6, true), (7, true), (8, true), (9, true), (5, false), (10, false), (11, false)] rfl (by kernel_rfl) (by kernel_rfl) (by first | ((repeat (first | apply Go.GX.SelR.nil | apply Go.GX.SelR.cons | (with_reducible apply Go.GX.TakeR.head) | apply Go.GX.TakeR.tail)); done) | (repeat (first | apply Go.GX.SelR.nil | apply Go.GX.SelR.cons | apply Go.GX.TakeR.head | apply Go.GX.TakeR.tail))) ?_; intro wd F hW hR
        refine GX.wbT ?_; intros
        refine GX.gow ?_
        refine (cl (field_spec bl _ d c f rfl rfl (by omega) hlt hM) fun _ => ?_)
        refine GX.wbT ?_; intros
        refine GX.gow ?_
        refine (cl (field_spec bl _ d a f rfl rfl (by omega) hlt hM) fun _ => ?_)
        refine GX.wbT ?_; intros
        refine GX.gow ?_
        refine (cl (edge_spec bl v d l q3 (d.fld c f) (d.fld a f) j1 j3 l2 l1 (fun s hs => (hin f hlt s).2 hs) (by omega)) fun s => ?_)
        obtain ⟨q4, i1, i2, i3, i4, i5⟩ := s
        dsimp only
        refine GX.wbT ?_; intros
        refine GX.wbR ?_; intros
        refine again (f + 1, q4) ⟨rfl, rfl, rfl, rfl, trivial⟩ ⟨by dsimp only; omega, i1, (h2.trans j2).trans i2, i3, fun g hg => ?_, fun ex h => i5 ex (j5 ex (h5 ex h))⟩ (by dsimp only; omega)
        rcases Nat.lt_succ_iff_lt_or_eq.1 hg with hg | rfl
        · exact ⟨((h4 g hg).1.le j2).le i2, ((h4 g hg).2.le j2).le i2⟩
        · exact ⟨j4.le i2, i4⟩
      · have hfe : f = d.W := by omega
        subst hfe
        refine GX.wbR ?_; intros
        refine en0 ⟨q2, k, h1, h2, h3, h5, ?_, hmono, hK, hkm1⟩
        unfold Took
        rw [if_neg e1, if_neg e2, if_neg e3, if_neg e4]
        simp only [Int.toNat_natCast]
        exact h4
    · rw [if_neg e5] at hl; exact hl.elim
end Go.Proofs.Ytkagjpkgboeaiaa

/- The walk over solve's goOn. -/
namespace Go.Proofs.Ytkagjpkgboeaiaa
open Go Go.RR Go.RX Go.GX Go.Api Go.RiseM Go.SolM Go.SetM Go.NumM
attribute [local irreducible] wpList Code.wp wpPlan Exit.then Exit.inBlock bodyPost NoPanic Went GX.Post GX.Again GX.Meet GX.RowR GX.Own GX.Owns GX.Box GX.Sl GX.Pt GX.Ag GX.MapR GX.SetR GX.Kept GX.Pin wpT GoK AtEnd Both
/-- How a solver stands between two rounds. -/
structure Stands (d : Dim) (l : List Con) (K : List (List SolM.Ask)) (q : SQ) : Prop where
  inv : Inv d l q.st
  L : q.L.map (·.2.2) = q.st.G.map zsI
  c1 : C1 q.st
  c2 : C2 d K q.st fun _ _ => True
  c3 : C3 q.st fun _ => False
/-- What turns while a node's sites go on. -/
structure JS where
  ao : Option Addr
  cap : Nat
  A : List Nat
  W : List Bool
  xs : List Int
abbrev JS.sv (s : JS) (st : Sv) : Sv := ⟨s.A, st.E, st.G, st.D, s.W, s.xs⟩
theorem set_same {α : Type} {l : List α} {i : Nat} {x : α} (h : l[i]? = some x) : l.set i x = l := by
  obtain ⟨h1, h2⟩ := List.getElem?_eq_some_iff.1 h
  rw [← h2]; exact List.set_getElem_self h1
structure GoR (d : Dim) (l : List Con) (K : List (List SolM.Ask)) (q : SQ) where
  q' : SQ
  st : Stands d l K q'
  fin : q'.st.xs = []
  took : ∀ c, Took d c K q.st → Took d c K q'.st
theorem took_same {d : Dim} {c : Con} {K : List (List SolM.Ask)} {a b : Sv} (h1 : b.A = a.A) (h2 : b.D = a.D) (h : Took d c K a) : Took d c K b := by
  obtain ⟨A, E, G, D, W, xs⟩ := a
  obtain ⟨A', E', G', D', W', xs'⟩ := b
  dsimp only at h1 h2
  subst h1; subst h2
  exact h
theorem bits63 {z i : Nat} (hz : z < 18446744073709551616) (h : z.testBit i = true) : i < 64 := Classical.byContradiction fun h2 => by
  rw [Nat.testBit_lt_two_pow (Nat.lt_of_lt_of_le hz (Nat.pow_le_pow_right (n := 2) (i := 64) (by omega) (by omega)))] at h
  cases h
set_option maxHeartbeats 4000000 in
theorem goOn_spec (bl : Nat) (v : VV) (d : Dim) (l : List Con) (q : SQ) (K : List (List SolM.Ask)) (hl : ∀ c ∈ l, May d c) (hq : Stands d l K q) (hK : Asks d l K) (hM : d.M ≤ 100000) :
    Does Try.prog 22 [.pointer (some ⟨bl, 0, none⟩)] [Sl (Ty.slice tyAsk) (some ⟨v.ask, 0, none⟩) d.M K] [RowR bl 53 [.int .i64 (d.N : Int), .int .i64 (d.W : Int), .slice (some ⟨v.am, 0, none⟩) d.M d.M, .slice (some ⟨v.go, 0, none⟩) d.M d.M, .slice (some ⟨v.ask, 0, none⟩) d.M d.M, .slice (some ⟨v.se, 0, none⟩) d.M d.M, .map (some v.kn), .slice q.ao q.st.xs.length q.cap, .slice (some ⟨v.wt, 0, none⟩) d.M d.M], GX.Own 57 (Ty.num .u64) (some ⟨v.am, 0, none⟩) d.M (zsI q.st.A), GX.Own 35 Ty.hdr (some ⟨v.go, 0, none⟩) d.M (q.L.map GX.hd), Owns 3 Ty.int q.L, GX.Own 57 (Ty.num .u64) (some ⟨v.se, 0, none⟩) d.M (zsI q.st.E), SetR v.kn 2 (q.st.D.map key), GX.Own 3 Ty.int q.ao q.cap q.st.xs, GX.Own 4 Ty.bool (some ⟨v.wt, 0, none⟩) d.M q.st.W]
      (fun _ : GoR d l K q => .tuple #[]) (fun _ => []) (fun s => [RowR bl 53 [.int .i64 (d.N : Int), .int .i64 (d.W : Int), .slice (some ⟨v.am, 0, none⟩) d.M d.M, .slice (some ⟨v.go, 0, none⟩) d.M d.M, .slice (some ⟨v.ask, 0, none⟩) d.M d.M, .slice (some ⟨v.se, 0, none⟩) d.M d.M, .map (some v.kn), .slice s.q'.ao s.q'.st.xs.length s.q'.cap, .slice (some ⟨v.wt, 0, none⟩) d.M d.M], GX.Own 57 (Ty.num .u64) (some ⟨v.am, 0, none⟩) d.M (zsI s.q'.st.A), GX.Own 35 Ty.hdr (some ⟨v.go, 0, none⟩) d.M (s.q'.L.map GX.hd), Owns 3 Ty.int s.q'.L, GX.Own 57 (Ty.num .u64) (some ⟨v.se, 0, none⟩) d.M (zsI s.q'.st.E), SetR v.kn 2 (s.q'.st.D.map key), GX.Own 3 Ty.int s.q'.ao s.q'.cap s.q'.st.xs, GX.Own 4 Ty.bool (some ⟨v.wt, 0, none⟩) d.M s.q'.st.W]) := by
  refine enter Try.func22 rfl Try.ntmps22 rfl fun b => ?_
  refine GX.wbR ?_; intros
  refine GX.loop (σ := SQ) (fun q => [(0, .pointer (some ⟨bl, 0, none⟩))]) (fun _ => []) (fun q => [RowR bl 53 [.int .i64 (d.N : Int), .int .i64 (d.W : Int), .slice (some ⟨v.am, 0, none⟩) d.M d.M, .slice (some ⟨v.go, 0, none⟩) d.M d.M, .slice (some ⟨v.ask, 0, none⟩) d.M d.M, .slice (some ⟨v.se, 0, none⟩) d.M d.M, .map (some v.kn), .slice q.ao q.st.xs.length q.cap, .slice (some ⟨v.wt, 0, none⟩) d.M d.M], GX.Own 57 (Ty.num .u64) (some ⟨v.am, 0, none⟩) d.M (zsI q.st.A), GX.Own 35 Ty.hdr (some ⟨v.go, 0, none⟩) d.M (q.L.map GX.hd), Owns 3 Ty.int q.L, GX.Own 57 (Ty.num .u64) (some ⟨v.se, 0, none⟩) d.M (zsI q.st.E), SetR v.kn 2 (q.st.D.map key), GX.Own 3 Ty.int q.ao q.cap q.st.xs, GX.Own 4 Ty.bool (some ⟨v.wt, 0, none⟩) d.M q.st.W]) (fun q2 => Stands d l K q2 ∧ ∀ c, Took d c K q.st → Took d c K q2.st) (fun q => left d q.st) q ⟨rfl, trivial⟩ ⟨hq, fun _ h => h⟩ (fun q2 hq2 => ?_)
  obtain ⟨ao, cap, L, st⟩ := q2
  obtain ⟨⟨hI, hL, c1, c2, c3⟩, hT⟩ := hq2
  dsimp only at *
  have hxl := hI.qlen
  refine GX.wbR ?_; intros
  refine GX.o (cl (qlen_spec ao st.xs.length cap) fun _ => ?_)
  by_cases hx0 : st.xs.length = 0
  · refine GX.wbR ?_; intros
    exact en0 ⟨⟨ao, cap, L, st⟩, ⟨hI, hL, c1, c2, c3⟩, List.length_eq_zero_iff.1 hx0, hT⟩
  obtain ⟨m, hm⟩ : ∃ m, st.xs.length = m + 1 := ⟨st.xs.length - 1, by omega⟩
  refine GX.opn ao fun _ _ h3 => ?_
  obtain ⟨h3, _⟩ | ⟨g, rfl⟩ := h3
  · rw [h3] at hx0; exact absurd rfl hx0
  refine GX.wbR ?_; intros
  refine GX.o (mki ?_)
  refine GX.wbR ?_; intros
  refine GX.o (cl (hpop_spec bl 7 g cap [.int .i64 (d.N : Int), .int .i64 (d.W : Int), .slice (some ⟨v.am, 0, none⟩) d.M d.M, .slice (some ⟨v.go, 0, none⟩) d.M d.M, .slice (some ⟨v.ask, 0, none⟩) d.M d.M, .slice (some ⟨v.se, 0, none⟩) d.M d.M, .map (some v.kn), .slice (some ⟨g, 0, none⟩) st.xs.length cap, .slice (some ⟨v.wt, 0, none⟩) d.M d.M] st.xs m rfl hm (by omega)) fun s => ?_)
  obtain ⟨⟨y, ys⟩, hp⟩ := s
  simp only [List.set_cons_zero, List.set_cons_succ]
  dsimp only at hp
  obtain ⟨i, rfl, hiM, hpop⟩ := hI.pop hp
  have hpl := hp.length_eq
  rw [List.length_cons] at hpl
  obtain ⟨a, ha⟩ := get_lt (show i < st.A.length by rw [hI.la]; exact hiM)
  obtain ⟨e, he⟩ := get_lt (show i < st.E.length by rw [hI.le]; exact hiM)
  obtain ⟨wi, hwi⟩ := get_lt (show i < st.W.length by rw [hI.lw]; exact hiM)
  have haz := hI.wa a (List.mem_of_getElem? ha)
  have hez := hI.we e (List.mem_of_getElem? he)
  have hai := zsI_get ha
  have hei := zsI_get he
  obtain ⟨fr, hfr, hfz, hfb⟩ := notW haz hez
  obtain ⟨hor, horz⟩ := orW hez hfz
  have hzE := zsI_len st.E
  have hlE := hI.le
  have hlW := hI.lw
  refine GX.wbR ?_; intros
  refine GX.o (tas ?_)
  refine GX.wbR ?_; intros
  refine GX.drawn3 (RowR bl 53 [.int .i64 (d.N : Int), .int .i64 (d.W : Int), .slice (some ⟨v.am, 0, none⟩) d.M d.M, .slice (some ⟨v.go, 0, none⟩) d.M d.M, .slice (some ⟨v.ask, 0, none⟩) d.M d.M, .slice (some ⟨v.se, 0, none⟩) d.M d.M, .map (some v.kn), .slice (some ⟨g, 0, none⟩) ys.length cap, .slice (some ⟨v.wt, 0, none⟩) d.M d.M]) (GX.Own 57 (Ty.num .u64) (some ⟨v.am, 0, none⟩) d.M (zsI st.A)) (GX.Own 57 (Ty.num .u64) (some ⟨v.se, 0, none⟩) d.M (zsI st.E)) (fun j => !(List.contains [] j)) [(0, true), (1, true), (2, true), (3, true), (4, true), (5, true), (6, true), (7, true), (8, true), (9, true), (10, true), (11, true), (12, true), (13, true), (14, true), (15, true)] rfl (by kernel_rfl) (by kernel_rfl) (by first | ((repeat (first | apply Go.GX.SelR.nil | apply Go.GX.SelR.cons | (with_reducible apply Go.GX.TakeR.head) | apply Go.GX.TakeR.tail)); done) | (repeat (first | apply Go.GX.SelR.nil | apply Go.GX.SelR.cons | apply Go.GX.TakeR.head | apply Go.GX.TakeR.tail))) ?_; intro wd F hW hR
  refine GX.wbT ?_; intros
  refine GX.unpin (RowR bl 53 [.int .i64 (d.N : Int), .int .i64 (d.W : Int), .slice (some ⟨v.am, 0, none⟩) d.M d.M, .slice (some ⟨v.go, 0, none⟩) d.M d.M, .slice (some ⟨v.ask, 0, none⟩) d.M d.M, .slice (some ⟨v.se, 0, none⟩) d.M d.M, .map (some v.kn), .slice (some ⟨g, 0, none⟩) ys.length cap, .slice (some ⟨v.wt, 0, none⟩) d.M d.M]) ?_
  refine GX.unpin (GX.Own 57 (Ty.num .u64) (some ⟨v.am, 0, none⟩) d.M (zsI st.A)) ?_
  refine GX.unpin (GX.Own 57 (Ty.num .u64) (some ⟨v.se, 0, none⟩) d.M (zsI st.E)) ?_
  rw [hfr]
  refine GX.wbR ?_; intros
  rw [hor, zsI_set]
  have hwb : ∀ s, (e ||| fr).testBit s = true ↔ e.testBit s = true ∨ a.testBit s = true := fun s => by
    rw [Nat.testBit_or, Bool.or_eq_true]
    by_cases hs : s < 64
    · rw [hfb s hs]; cases e.testBit s <;> cases a.testBit s <;> simp
    · have h1 : fr.testBit s = false := by
        cases h2 : fr.testBit s with
        | false => rfl
        | true => exact absurd (bits63 hfz h2) hs
      have h3 : a.testBit s = false := by
        cases h2 : a.testBit s with
        | false => rfl
        | true => exact absurd (bits63 haz h2) hs
      rw [h1, h3]
  have hI1 := hpop e a (e ||| fr) he ha horz hwb
  obtain ⟨st1, hst1⟩ : ∃ st1 : Sv, st1 = ⟨st.A, st.E.set i (e ||| fr), st.G, st.D, st.W.set i false, ys⟩ := ⟨_, rfl⟩
  rw [← hst1] at hI1
  have hieE := (List.getElem?_eq_some_iff.1 he).1
  have hiW := (List.getElem?_eq_some_iff.1 hwi).1
  have hW1 : ∀ n : Nat, n ≠ i → st1.W[n]? = st.W[n]? := fun n hn => by rw [hst1]; exact List.getElem?_set_ne (Ne.symm hn)
  have hE1 : ∀ n s, has st1.E n s ↔ if n = i then (e.testBit s = true ∨ a.testBit s = true) else has st.E n s := fun n s => by
    rw [hst1]
    dsimp only
    rw [has_set hieE]
    split
    · exact hwb s
    · exact Iff.rfl
  have c11 : C1 st1 := fun n hn s hs => by
    rw [hE1]
    by_cases hni : n = i
    · subst hni
      rw [if_pos rfl]
      rw [hst1] at hs
      exact .inr ((has_some ha s).1 hs)
    · rw [if_neg hni]
      rw [hW1 n hni] at hn
      rw [hst1] at hs
      exact c1 n hn s hs
  have hD1 : st1.D = st.D := by rw [hst1]
  have hA1 : st1.A = st.A := by rw [hst1]
  have hG1 : st1.G = st.G := by rw [hst1]
  have c31 : C3 st1 fun x => x = i := fun x y hxy hx => by
    rw [hD1] at hxy
    rw [hW1 x hx, hA1]
    exact c3 x y hxy (fun h => h)
  have hleft : left d st1 < left d st := by
    rw [hst1]; unfold left; dsimp only; omega
  have hT1 : ∀ c, Took d c K q.st → Took d c K st1 := fun c hc => took_same hA1 hD1 (hT c hc)
  have c21 : C2 d K st1 fun n k => ¬ (n = i ∧ (k : Int) ∈ (sitesOf fr).drop 0) := fun n k hk ho ks hks b hb => by
    have hb2 : has st.E n k := by
      rw [hE1] at hk
      by_cases hni : n = i
      · subst hni
        rw [if_pos rfl] at hk
        refine (has_some he k).2 ?_
        rcases hk with hk | hk
        · exact hk
        · refine Classical.byContradiction fun h2 => ho ⟨rfl, ?_⟩
          rw [List.drop_zero, sites_mem hfz]
          refine ⟨k, rfl, ?_⟩
          rw [hfb k (bits63 haz hk), hk]
          simpa using h2
      · rw [if_neg hni] at hk; exact hk
    have := c2 n k hb2 trivial ks hks b hb
    unfold EdgeOk at this ⊢
    rw [hD1]; exact this
  refine GX.o (cl (list_spec fr hfz) fun s => ?_)
  obtain ⟨aS, cS⟩ := s
  dsimp only
  have hsl := sites_len fr
  refine GX.wbR ?_; intros
  rw [show ys = st1.xs by rw [hst1], show st.W.set i false = st1.W by rw [hst1], show st.E.set i (e ||| fr) = st1.E by rw [hst1], ← hA1, ← hD1]
  refine GX.loop (σ := Nat × SQ) (fun s => [(0, .pointer (some ⟨bl, 0, none⟩)), (2, .int .i64 (i : Int)), (52, .slice aS (sitesOf fr).length cS), (53, .int .i64 ((sitesOf fr).length : Int)), (54, .int .i64 (s.1 : Int))]) (fun _ => []) (fun s => [RowR bl 53 [.int .i64 (d.N : Int), .int .i64 (d.W : Int), .slice (some ⟨v.am, 0, none⟩) d.M d.M, .slice (some ⟨v.go, 0, none⟩) d.M d.M, .slice (some ⟨v.ask, 0, none⟩) d.M d.M, .slice (some ⟨v.se, 0, none⟩) d.M d.M, .map (some v.kn), .slice s.2.ao s.2.st.xs.length s.2.cap, .slice (some ⟨v.wt, 0, none⟩) d.M d.M], GX.Own 57 (Ty.num .u64) (some ⟨v.am, 0, none⟩) d.M (zsI s.2.st.A), GX.Own 35 Ty.hdr (some ⟨v.go, 0, none⟩) d.M (s.2.L.map GX.hd), Owns 3 Ty.int s.2.L, GX.Own 57 (Ty.num .u64) (some ⟨v.se, 0, none⟩) d.M (zsI s.2.st.E), SetR v.kn 2 (s.2.st.D.map key), GX.Own 3 Ty.int s.2.ao s.2.cap s.2.st.xs, GX.Own 4 Ty.bool (some ⟨v.wt, 0, none⟩) d.M s.2.st.W])
    (fun s => s.1 ≤ (sitesOf fr).length ∧ Inv d l s.2.st ∧ Le d st1 s.2.st ∧ s.2.L.map (·.2.2) = s.2.st.G.map zsI ∧ C2 d K s.2.st (fun n k => ¬ (n = i ∧ (k : Int) ∈ (sitesOf fr).drop s.1)) ∧ C3 s.2.st fun x => x = i) (fun s => (sitesOf fr).length - s.1) (0, ⟨some ⟨g, 0, none⟩, cap, L, st1⟩) ⟨rfl, rfl, rfl, rfl, rfl, trivial⟩ ⟨by simp, hI1, Le.refl _ _, by dsimp only; rw [hG1]; exact hL, c21, c31⟩ (fun s hs => ?_)
  obtain ⟨k, q2⟩ := s
  obtain ⟨hk0, i1, i2, i3, i4, i5⟩ := hs
  dsimp only at *
  by_cases hlt : k < (sitesOf fr).length
  · obtain ⟨x, hx⟩ := get_lt hlt
    obtain ⟨sn, rfl, hsn⟩ := (sites_mem hfz).1 (List.mem_of_getElem? hx)
    have hin : In d l i sn := by
      refine hI.snd i sn ((has_some ha sn).2 ?_)
      rw [hfb sn (bits63 hfz hsn)] at hsn
      rw [Bool.and_eq_true] at hsn; exact hsn.1
    obtain ⟨_, hsS⟩ := in_lt hl hin
    obtain ⟨ks, hks⟩ := get_lt (show i < K.length by rw [hK.1]; exact hiM)
    refine GX.wbR ?_; intros
    refine GX.o (cl (answers_spec bl v d l q2 K i sn ks i1 i3 hK hks hsS hin hM) fun s => ?_)
    obtain ⟨q3, j1, j2, j3, j4, j5⟩ := s
    dsimp only
    refine GX.wbR ?_; intros
    refine again (k + 1, q3) ⟨rfl, rfl, rfl, rfl, rfl, trivial⟩ ⟨by dsimp only; omega, j1, i2.trans j2, j3, fun n k' hk' ho ks' hks' b' hb' => ?_, j5 _ i5⟩ (by dsimp only; omega)
    by_cases hni : n = i ∧ k' = sn
    · obtain ⟨rfl, rfl⟩ := hni
      rw [hks] at hks'; cases hks'
      exact j4 b' hb'
    · refine (i4 n k' (by rwa [j2.e] at hk') (fun h => ho ⟨h.1, ?_⟩) ks' hks' b' hb').le j2
      have h6 := h.2
      rw [List.drop_eq_getElem_cons hlt, List.mem_cons] at h6
      rcases h6 with h6 | h6
      · exfalso
        rw [(List.getElem?_eq_some_iff.1 hx).2] at h6
        exact hni ⟨h.1, by omega⟩
      · exact h6
  have hke : (sitesOf fr).drop k = [] := List.drop_of_length_le (by omega)
  rw [hke] at i4
  obtain ⟨ao2, cap2, L2, st2⟩ := q2
  dsimp only at *
  obtain ⟨gi, hgi⟩ := get_lt (show i < st2.G.length by rw [i1.lg]; exact hiM)
  obtain ⟨hgl, hgm⟩ := i1.glen hgi
  have hgz := zsI_len gi
  obtain ⟨ag, cg, hLx, hLh⟩ := snd_get i3 (show (st2.G.map zsI)[i]? = some (zsI gi) by rw [List.getElem?_map, hgi]; rfl)
  have hLl := (List.getElem?_eq_some_iff.1 hLh).1
  have hLs := (List.getElem?_eq_some_iff.1 hLx).1
  have hLlen : L2.length = d.M := by
    have := congrArg List.length i3
    simp only [List.length_map] at this
    rw [this]; exact i1.lg
  have hLlen2 : (L2.map GX.hd).length = d.M := by rw [List.length_map]; exact hLlen
  refine GX.wbR ?_; intros
  refine GX.osT i ?_
  dsimp only
  refine GX.loop (σ := Nat × JS) (fun s => [(0, .pointer (some ⟨bl, 0, none⟩)), (2, .int .i64 (i : Int)), (69, .slice ag (zsI gi).length cg), (70, .int .i64 ((zsI gi).length : Int)), (71, .int .i64 (s.1 : Int))]) (fun _ => [])
    (fun s => [GX.Own 3 Ty.int ag cg (zsI gi), Owns 3 Ty.int (L2.set i (none, 0, [])), GX.Own 35 Ty.hdr (some ⟨v.go, 0, none⟩) d.M (L2.map GX.hd), RowR bl 53 [.int .i64 (d.N : Int), .int .i64 (d.W : Int), .slice (some ⟨v.am, 0, none⟩) d.M d.M, .slice (some ⟨v.go, 0, none⟩) d.M d.M, .slice (some ⟨v.ask, 0, none⟩) d.M d.M, .slice (some ⟨v.se, 0, none⟩) d.M d.M, .map (some v.kn), .slice s.2.ao s.2.xs.length s.2.cap, .slice (some ⟨v.wt, 0, none⟩) d.M d.M], GX.Own 57 (Ty.num .u64) (some ⟨v.am, 0, none⟩) d.M (zsI s.2.A), GX.Own 57 (Ty.num .u64) (some ⟨v.se, 0, none⟩) d.M (zsI st2.E), SetR v.kn 2 (st2.D.map key), GX.Own 3 Ty.int s.2.ao s.2.cap s.2.xs, GX.Own 4 Ty.bool (some ⟨v.wt, 0, none⟩) d.M s.2.W])
    (fun s => s.1 ≤ gi.length ∧ Inv d l (s.2.sv st2) ∧ Le d st2 (s.2.sv st2) ∧ C3 (s.2.sv st2) (fun x => x = i) ∧ ∀ y ∈ gi.take s.1, s.2.W[i]? = some true ∨ ∀ s', has s.2.A i s' → has s.2.A y s') (fun s => gi.length - s.1) (0, ⟨ao2, cap2, st2.A, st2.W, st2.xs⟩) ⟨rfl, rfl, rfl, rfl, rfl, trivial⟩ ⟨by simp, i1, Le.refl _ _, i5, by simp⟩ (fun s hs => ?_)
  obtain ⟨k2, ao3, cap3, A3, W3, xs3⟩ := s
  obtain ⟨hk2, m1, m2, m3, m4⟩ := hs
  dsimp only at *
  by_cases hlt2 : k2 < (zsI gi).length
  · obtain ⟨y, hy⟩ := get_lt (show k2 < gi.length by omega)
    obtain ⟨hyM, hyi⟩ := hgm y (List.mem_of_getElem? hy)
    have hyz := zsI_get hy
    obtain ⟨a3, ha3⟩ := get_lt (show i < A3.length by rw [m1.la]; exact hiM)
    have ha3z := m1.wa a3 (List.mem_of_getElem? ha3)
    have ha3i := zsI_get ha3
    have hflow := (m1.flow i y ((m1.goes i y).2 ⟨gi, hgi, List.mem_of_getElem? hy⟩)).2.2.2
    have hA3l := zsI_len A3
    have hA3m := m1.la
    refine GX.opn ag fun _ _ h9 => ?_
    obtain ⟨h9, _⟩ | ⟨gg, rfl⟩ := h9
    · rw [h9] at hlt2; exact absurd hlt2 (by simp)
    refine GX.wbR ?_; intros
    refine GX.o (cl (join_spec bl v d l ⟨ao3, cap3, L2, ⟨A3, st2.E, st2.G, st2.D, W3, xs3⟩⟩ y a3 m1 hyM ha3z (fun s hs => hflow s (m1.snd i s ((has_some ha3 s).2 hs))) (by omega)) fun s => ?_)
    obtain ⟨ao4, cap4, A4, W4, xs4, j1, j2, j6, j7⟩ := s
    dsimp only at *
    refine GX.wbR ?_; intros
    refine again (k2 + 1, ⟨ao4, cap4, A4, W4, xs4⟩) ⟨rfl, rfl, rfl, rfl, rfl, trivial⟩ ⟨by dsimp only; omega, j1, m2.trans j2, m3.le j2 rfl, fun y' hy' => ?_⟩ (by dsimp only; omega)
    rw [List.take_add_one, hy, List.mem_append] at hy'
    rcases hy' with hy' | hy'
    · exact sub_le j2 (m4 y' hy')
    · simp at hy'; subst hy'
      exact .inr fun s hs => j6 s ((has_some ha3 s).1 ((j7 i s (Ne.symm hyi)).1 hs))
  · rw [List.take_of_length_le (by omega)] at m4
    refine GX.osP i ?_ (List.getElem?_set_self hLs)
    rw [List.set_set, set_same hLx]
    refine GX.wbR ?_; intros
    refine again ⟨ao3, cap3, L2, ⟨A3, st2.E, st2.G, st2.D, W3, xs3⟩⟩ ⟨rfl, trivial⟩ ⟨⟨m1, i3, c11.le (i2.trans m2) (by rw [hI1.lw]; exact m1.lw.symm), fun n k' hk' _ ks' hks' b' hb' => ((i4 n k' (by rwa [m2.e] at hk') (fun h => by simp at h) ks' hks' b' hb').le m2), fun x y hxy _ => ?_⟩, fun c hc => ((hT1 c hc).le (i2.trans m2) fun n ks h => ⟨ks, h, fun _ h => h⟩)⟩ ?_
    · by_cases hxi : x = i
      · subst hxi
        obtain ⟨g', hg', hy'⟩ := (m1.goes x y).1 hxy
        rw [show (⟨A3, st2.E, st2.G, st2.D, W3, xs3⟩ : Sv).G = st2.G from rfl, hgi] at hg'
        cases hg'
        exact m4 y hy'
      · exact m3 x y hxy hxi
    · have h1 := i2.l
      have h2 : left d ⟨A3, st2.E, st2.G, st2.D, W3, xs3⟩ ≤ left d st2 := m2.l
      dsimp only
      omega
end Go.Proofs.Ytkagjpkgboeaiaa

/- Where the first one of a list is. No program in sight. -/
namespace Go.Proofs.Ytkagjpkgboeaiaa
/-- Where the first one is; -1: there is none. -/
def idxF (p : Int → Bool) (xs : List Int) : Int := match xs.findIdx? p with | some i => (i : Int) | none => -1
theorem idxF_some {p : Int → Bool} {xs : List Int} {i : Nat} {x : Int} (hx : xs[i]? = some x) (hp : p x = true) (hn : ∀ y ∈ xs.take i, p y = false) : idxF p xs = i := by
  have hl := (List.getElem?_eq_some_iff.1 hx).1
  have : xs.findIdx? p = some i := by
    rw [List.findIdx?_eq_some_iff_getElem]
    refine ⟨hl, by rw [(List.getElem?_eq_some_iff.1 hx).2]; exact hp, fun j hj => ?_⟩
    have := hn (xs[j]'(by omega)) (List.mem_take_iff_getElem.2 ⟨j, by omega, rfl⟩)
    simp [this]
  unfold idxF; rw [this]
theorem idxF_none {p : Int → Bool} {xs : List Int} (hn : ∀ y ∈ xs, p y = false) : idxF p xs = -1 := by
  have : xs.findIdx? p = none := List.findIdx?_eq_none_iff.2 hn
  unfold idxF; rw [this]
theorem idxF_any (p : Int → Bool) (xs : List Int) : decide (0 ≤ idxF p xs) = xs.any p := by
  unfold idxF
  cases h : xs.findIdx? p with
  | none =>
    have := List.findIdx?_eq_none_iff.1 h
    have e : xs.any p = false := List.any_eq_false.2 fun x hx => by simp [this x hx]
    rw [e]; rfl
  | some i =>
    obtain ⟨hl, hp, _⟩ := List.findIdx?_eq_some_iff_getElem.1 h
    have e : xs.any p = true := List.any_eq_true.2 ⟨_, List.getElem_mem hl, hp⟩
    rw [e]; simp
theorem take_all_succ {p : Int → Bool} {xs : List Int} {i : Nat} {x : Int} (hx : xs[i]? = some x) (hp : p x = false) (hn : ∀ y ∈ xs.take i, p y = false) : ∀ y ∈ xs.take (i + 1), p y = false := by
  intro y hy
  rw [List.take_add_one, hx, List.mem_append] at hy
  rcases hy with hy | hy
  · exact hn y hy
  · simp at hy; subst hy; exact hp

end Go.Proofs.Ytkagjpkgboeaiaa

/- slices.IndexFunc and ContainsFunc over constraints that stay. -/
namespace Go.GX
open Go Go.RowKit Go.RR Go.RX
section
variable {P : Program} {n : Nat} {env : Env} {b : Base} {ps : List Pf} {hp : List Res} {Q : Exit → Act → World → Prop} {K : Act → World → Prop}
/-- A call of a value whose facts are among ours; nothing of one's own is handed on. -/
theorem clvS {d : Nat} {f : FuncId} {x : Operand} {xs : List Operand} {ts : Array TypeId} {ty : TypeId} {pos : String} {aft : Array Edge} {gd : Option (Nat × Bool)} {vs fs cs : List Value} [hf : UFunc P f] {ps1 : List Pf} {σ : Type} {val : σ → Value}
    (hc : Does P f (fs ++ (vs ++ cs)) ps1 [] val (fun _ => []) (fun _ => [])) (hps : ∀ p ∈ ps1, p ∈ ps) (h : ∀ s, G n ((d, val s) :: env) b ps hp K)
    (hx : ev env x = some (.func (.func f) fs.toArray cs.toArray) := by exact rfl) (hxs : evs env xs = some vs := by exact rfl) (hd : Nat.blt d n = true := by exact rfl) :
    GO P n env b ps hp ⟨some d, .call { callee := .value x, args := xs.toArray, argTypes := ts }, ty, pos, aft, gd⟩ K Q :=
  callvG (rest := hp) hc hx hxs hps (by rw [List.nil_append]) hd (fun s => by rw [List.nil_append, List.nil_append]; exact h s)
end
end Go.GX
namespace Go.Proofs.Ytkagjpkgboeaiaa
open Go Go.RR Go.RX Go.GX Go.Api
attribute [local irreducible] wpList Code.wp wpPlan Exit.then Exit.inBlock bodyPost NoPanic Went GX.Post GX.Again GX.Meet GX.RowR GX.Own GX.Owns GX.Box GX.Sl GX.Pt GX.Ag GX.MapR GX.Kept GX.Pin wpT GoK AtEnd Both
theorem take_all_succC {p : Con → Bool} {xs : List Con} {i : Nat} {x : Con} (hx : xs[i]? = some x) (hp : p x = false) (hn : ∀ y ∈ xs.take i, p y = false) : ∀ y ∈ xs.take (i + 1), p y = false := by
  intro y hy
  rw [List.take_add_one, hx, List.mem_append] at hy
  rcases hy with hy | hy
  · exact hn y hy
  · simp at hy; subst hy; exact hp
/-- What is known of a place. -/
structure IdxR (xs : List Con) (p : Con → Bool) where
  j : Int
  h : 0 ≤ j ↔ xs.any p = true
theorem indexFuncC_spec (ao : Option Addr) (cap : Nat) (xs : List Con) (fid : Nat) (caps : List Value) (psC : List Pf) (p : Con → Bool) [UFunc Try.prog fid]
    (hf : ∀ x ∈ xs, ∀ cs : List Value, Does Try.prog fid (.agg cs.toArray :: caps) (Ag tyCon cs x :: psC) [] (fun _ : Unit => .bool (p x)) (fun _ => []) (fun _ => [])) :
    Does Try.prog 33 [.slice ao xs.length cap, .func (.func fid) #[] caps.toArray] (Sl tyCon ao cap xs :: psC) [] (fun s : IdxR xs p => .int .i64 s.j) (fun _ => []) (fun _ => []) := by
  refine enter Try.func33 rfl Try.ntmps33 rfl fun b => ?_
  refine sln ao fun hl1 hl2 _ => ?_
  refine GX.wbR ?_; intros
  refine GX.loop (σ := Nat) (fun i => [(0, .slice ao xs.length cap), (1, .func (.func fid) #[] caps.toArray), (7, .int .i64 (xs.length : Int)), (8, .int .i64 (i : Int))]) (fun _ => []) (fun _ => [])
    (fun i => i ≤ xs.length ∧ ∀ y ∈ xs.take i, p y = false) (fun i => xs.length - i) 0 ⟨rfl, rfl, rfl, rfl, trivial⟩ ⟨by omega, by simp⟩ (fun i hi => ?_) (h2 := SelR.all _)
  obtain ⟨hi, hn⟩ := hi
  by_cases hlt : i < xs.length
  · obtain ⟨x, hx⟩ := get_lt hlt
    refine GX.wbR ?_; intros
    refine GX.o (clvS (fs := []) (cs := caps) (hf x (List.mem_of_getElem? hx) _) ?_ fun _ => ?_)
    · intro p hp
      simp only [List.mem_cons] at hp ⊢
      rcases hp with hp | hp <;> simp [hp]
    by_cases hp : p x = true
    · refine GX.wbR ?_; intros
      exact rt1 ⟨(i : Int), ⟨fun _ => List.any_eq_true.2 ⟨x, List.mem_of_getElem? hx, hp⟩, fun _ => by omega⟩⟩ rfl (h2 := SelR.all _)
    · have hp : p x = false := by simpa using hp
      refine GX.wbR ?_; intros
      exact again (i + 1) ⟨rfl, rfl, rfl, rfl, trivial⟩ ⟨by omega, take_all_succC hx hp hn⟩ (by omega) (h2 := SelR.all _)
  · have hil : i = xs.length := by omega
    subst hil
    refine GX.wbR ?_; intros
    rw [List.take_length] at hn
    exact rt1 ⟨-1, ⟨fun h => by omega, fun h => by obtain ⟨y, hy, h2⟩ := List.any_eq_true.1 h; rw [hn y hy] at h2; cases h2⟩⟩ rfl (h2 := SelR.all _)
theorem containsFuncC_spec (ao : Option Addr) (cap : Nat) (xs : List Con) (fid : Nat) (caps : List Value) (psC : List Pf) (p : Con → Bool) [UFunc Try.prog fid]
    (hf : ∀ x ∈ xs, ∀ cs : List Value, Does Try.prog fid (.agg cs.toArray :: caps) (Ag tyCon cs x :: psC) [] (fun _ : Unit => .bool (p x)) (fun _ => []) (fun _ => [])) :
    Does Try.prog 17 [.slice ao xs.length cap, .func (.func fid) #[] caps.toArray] (Sl tyCon ao cap xs :: psC) [] (fun _ : Unit => .bool (xs.any p)) (fun _ => []) (fun _ => []) := by
  refine enter Try.func17 rfl Try.ntmps17 rfl fun b => ?_
  refine GX.wbR ?_; intros
  refine GX.o (clA (indexFuncC_spec ao cap xs fid caps psC p hf) fun s => ?_)
  obtain ⟨j, hj⟩ := s
  dsimp only
  have e : decide (0 ≤ j) = xs.any p := by rw [Bool.eq_iff_iff, decide_eq_true_iff]; exact hj
  refine GX.wbR ?_; intros
  exact rt1 () (congrArg Value.bool e.symm) (h2 := SelR.all _)
end Go.Proofs.Ytkagjpkgboeaiaa

/- Structs' cells: how many, stored over a row, one part otherwise. No program in sight. -/
namespace Go.GX
open Go Go.RowKit Go.RR Go.RX
section
variable {P : Program} {n : Nat} {env : Env} {b : Base} {ps : List Pf} {hp : List Res} {Q : Exit → Act → World → Prop} {K : Act → World → Prop}
end
end Go.GX

/- Target programs and units as structs: their cells, brought up. No program in sight. -/
namespace Go.GX
open Go Go.RowKit Go.RR Go.RX Go.Api
section
variable {n : Nat} {env : Env} {b : Base} {ps : List Pf} {hp : List Res} {K : Act → World → Prop}
end
end Go.GX
