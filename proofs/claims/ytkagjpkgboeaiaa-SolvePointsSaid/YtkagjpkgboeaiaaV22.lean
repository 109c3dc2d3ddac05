import Derived.Test.YtkagjpkgboeaiaaV17
import Derived.Test.YtkagjpkgboeaiaaV20
import Derived.Test.YtkagjpkgboeaiaaV21
/- Sets as lists of bits, and rounds over constraints. No program in sight. -/
namespace Go.SolM
open Go.Api Go.RiseM
abbrev Bits := List (List Bool)
def bitB (B : Bits) (n s : Nat) : Bool := (B.getD n []).getD s false
def XB (B : Bits) (n s : Nat) : Prop := bitB B n s = true
structure BShape (d : Dim) (B : Bits) : Prop where
  len : B.length = d.M
  row : ∀ r ∈ B, r.length = d.S
def ones (r : List Bool) : Nat := (r.filter id).length
def cntB (B : Bits) : Nat := (B.map ones).sum
theorem ones_le (r : List Bool) : ones r ≤ r.length := List.length_filter_le _ _
theorem cnt_le {d : Dim} {B : Bits} (h : BShape d B) : cntB B ≤ d.M * d.S := by
  obtain ⟨h1, h2⟩ := h
  rw [← h1]
  unfold cntB
  clear h1
  induction B with
  | nil => simp
  | cons r B ih =>
    have := ones_le r
    have e := h2 r (by simp)
    have := ih fun x hx => h2 x (by simp [hx])
    simp only [List.map_cons, List.sum_cons, List.length_cons, Nat.add_mul]
    omega
theorem bitB_some {B : Bits} {n : Nat} {r : List Bool} (h : B[n]? = some r) (s : Nat) : bitB B n s = r.getD s false := by unfold bitB; rw [show B.getD n [] = r by rw [List.getD_eq_getElem?_getD, h]; rfl]
theorem bitB_set {B : Bits} {n : Nat} {r : List Bool} (hn : n < B.length) (m s : Nat) : bitB (B.set n r) m s = if m = n then r.getD s false else bitB B m s := by
  unfold bitB
  rw [List.getD_eq_getElem?_getD (l := B.set n r)]
  by_cases e : m = n
  · subst e; rw [List.getElem?_set_self hn, if_pos rfl]; rfl
  · rw [List.getElem?_set_ne (fun h => e h.symm), if_neg e, ← List.getD_eq_getElem?_getD]
theorem ones_set {r : List Bool} {i : Nat} (h : r[i]? = some false) : ones (r.set i true) = ones r + 1 := by
  unfold ones
  induction r generalizing i with
  | nil => simp at h
  | cons b r ih =>
    cases i with
    | zero => simp at h; subst h; simp
    | succ i =>
      have := ih (i := i) (by simpa using h)
      rw [List.set_cons_succ, List.filter_cons, List.filter_cons]
      cases b
      · simpa using this
      · simp only [id, if_true, List.length_cons]; omega
theorem cnt_set {B : Bits} {n : Nat} {r r' : List Bool} (h : B[n]? = some r) : cntB (B.set n r') + ones r = cntB B + ones r' := by
  unfold cntB
  induction B generalizing n with
  | nil => simp at h
  | cons a B ih =>
    cases n with
    | zero => simp at h; subst h; simp only [List.set_cons_zero, List.map_cons, List.sum_cons]; omega
    | succ n => have := ih (n := n) (by simpa using h); simp only [List.set_cons_succ, List.map_cons, List.sum_cons]; omega
/-- What a step leaves. -/
structure StepB (d : Dim) (l : List Con) (B : Bits) (t : Bool) (B' : Bits) (t' : Bool) : Prop where
  shape : BShape d B'
  snd : ∀ n s, XB B' n s → In d l n s
  mono : ∀ n s, XB B n s → XB B' n s
  same : t' = false → t = false ∧ B' = B
  more : t' = true → t = true ∨ cntB B < cntB B'
  le : cntB B ≤ cntB B'
theorem StepB.refl {d : Dim} {l : List Con} {B : Bits} (t : Bool) (h1 : BShape d B) (h2 : ∀ n s, XB B n s → In d l n s) : StepB d l B t B t := ⟨h1, h2, fun _ _ h => h, fun h => ⟨h, rfl⟩, .inl, Nat.le_refl _⟩
theorem StepB.trans {d : Dim} {l : List Con} {B B1 B2 : Bits} {t t1 t2 : Bool} (h1 : StepB d l B t B1 t1) (h2 : StepB d l B1 t1 B2 t2) : StepB d l B t B2 t2 := by
  refine ⟨h2.shape, h2.snd, fun n s h => h2.mono n s (h1.mono n s h), fun h => ?_, fun h => ?_, Nat.le_trans h1.le h2.le⟩
  · obtain ⟨e1, e2⟩ := h2.same h
    obtain ⟨e3, e4⟩ := h1.same e1
    exact ⟨e3, e2.trans e4⟩
  · rcases h2.more h with h3 | h3
    · rcases h1.more h3 with h4 | h4
      · exact .inl h4
      · exact .inr (Nat.lt_of_lt_of_le h4 h2.le)
    · exact .inr (Nat.lt_of_le_of_lt h1.le h3)
end Go.SolM

/- The walks over the reference's join and list. -/
namespace Go.Proofs.Ytkagjpkgboeaiaa
open Go Go.RR Go.RX Go.GX Go.Api Go.RiseM Go.SolM
attribute [local irreducible] wpList Code.wp wpPlan Exit.then Exit.inBlock bodyPost NoPanic Went GX.Post GX.Again GX.Meet GX.RowR GX.Own GX.Owns GX.Box GX.Sl GX.Pt GX.Ag GX.MapR GX.Kept GX.Pin wpT GoK AtEnd Both
/-- One row joins another. -/
structure JnR (a b : List Bool) (t : Bool) where
  r : List Bool
  t' : Bool
  len : r.length = a.length
  bit : ∀ s : Nat, r.getD s false = (a.getD s false || b.getD s false)
  same : t' = false → t = false ∧ r = a
  more : t' = true → t = true ∨ ones a < ones r
  le : ones a ≤ ones r
theorem set_sameO {α : Type} {l : List α} {i : Nat} {x : α} (h : l[i]? = some x) : l.set i x = l := by
  obtain ⟨h1, h2⟩ := List.getElem?_eq_some_iff.1 h
  rw [← h2]; exact List.set_getElem_self h1
set_option maxHeartbeats 2000000 in
theorem rjoinL_spec (bl : Nat) (v0 v1 : Value) (t : Bool) (an bn : Option Addr) (ca cb : Nat) (a b : List Bool) (L : List (Option Addr × Nat × List Bool)) (n m : Nat) (hn : L[n]? = some (an, ca, a)) (hm : L[m]? = some (bn, cb, b)) (hl : b.length = a.length) :
    Does Try.prog 41 [.pointer (some ⟨bl, 0, none⟩), .slice an a.length ca, .slice bn b.length cb] [] [RowR bl 64 [v0, v1, .bool t], Owns 4 Ty.bool L]
      (fun _ : JnR a b t => .tuple #[]) (fun _ => []) (fun s => [RowR bl 64 [v0, v1, .bool s.t'], Owns 4 Ty.bool (L.set n (an, ca, s.r))]) := by
  refine enter Try.func41 rfl Try.ntmps41 rfl fun bb => ?_
  refine GX.wbR ?_; intros
  by_cases hnm : n = m
  · subst hnm
    rw [hn] at hm
    cases hm
    refine GX.osT n ?_ hn
    refine GX.loop (σ := Nat) (fun i => [(0, .pointer (some ⟨bl, 0, none⟩)), (1, .slice an a.length ca), (2, .slice an a.length ca), (6, .int .i64 (i : Int))]) (fun _ => []) (fun _ => [RowR bl 64 [v0, v1, .bool t], GX.Own 4 Ty.bool an ca a, Owns 4 Ty.bool (L.set n (none, 0, []))])
      (fun i => i ≤ a.length) (fun i => a.length - i) 0 ⟨rfl, rfl, rfl, rfl, trivial⟩ (by omega) (fun i hi => ?_)
    by_cases hlt : i < a.length
    · obtain ⟨x, hx⟩ := get_lt hlt
      refine GX.opn an fun _ _ ha => ?_
      obtain ⟨h9, _⟩ | ⟨ga, rfl⟩ := ha
      · rw [h9] at hx; simp at hx
      cases x with
      | false =>
        refine GX.wbR ?_; intros
        exact again (i + 1) ⟨rfl, rfl, rfl, rfl, trivial⟩ (by omega) (by omega)
      | true =>
        refine GX.wbR ?_; intros
        exact again (i + 1) ⟨rfl, rfl, rfl, rfl, trivial⟩ (by omega) (by omega)
    · refine GX.wbR ?_; intros
      refine GX.osP n ?_ (List.getElem?_set_self (List.getElem?_eq_some_iff.1 hn).1)
      rw [List.set_set]
      exact en0 ⟨a, t, rfl, fun k => by simp, fun h => ⟨h, rfl⟩, fun h => .inl h, Nat.le_refl _⟩
  have hmn : (L.set n (none, 0, []))[m]? = some (bn, cb, b) := by rw [List.getElem?_set_ne hnm]; exact hm
  refine GX.osT n ?_ hn
  refine GX.osT m ?_ hmn
  refine GX.loop (σ := Nat × List Bool × Bool) (fun s => [(0, .pointer (some ⟨bl, 0, none⟩)), (1, .slice an a.length ca), (2, .slice bn b.length cb), (6, .int .i64 (s.1 : Int))]) (fun _ => []) (fun s => [RowR bl 64 [v0, v1, .bool s.2.2], GX.Own 4 Ty.bool an ca s.2.1, GX.Own 4 Ty.bool bn cb b, Owns 4 Ty.bool ((L.set n (none, 0, [])).set m (none, 0, []))])
    (fun s => s.1 ≤ a.length ∧ s.2.1.length = a.length ∧ (∀ k : Nat, s.2.1.getD k false = if k < s.1 then (a.getD k false || b.getD k false) else a.getD k false) ∧ (s.2.2 = false → t = false ∧ s.2.1 = a) ∧ (s.2.2 = true → t = true ∨ ones a < ones s.2.1) ∧ ones a ≤ ones s.2.1) (fun s => a.length - s.1)
    (0, a, t) ⟨rfl, rfl, rfl, rfl, trivial⟩ ⟨by simp, rfl, fun k => by simp, fun h => ⟨h, rfl⟩, fun h => .inl h, Nat.le_refl _⟩ (fun s hs => ?_)
  obtain ⟨i, r, t'⟩ := s
  obtain ⟨hi, hr, hb, hsm, hmo, hle⟩ := hs
  dsimp only at *
  by_cases hlt : i < a.length
  · obtain ⟨x, hx⟩ := get_lt (show i < r.length by omega)
    obtain ⟨y, hy⟩ := get_lt (show i < b.length by omega)
    refine GX.opn an fun _ _ ha => ?_
    obtain ⟨h9, _⟩ | ⟨ga, rfl⟩ := ha
    · rw [h9] at hx; simp at hx
    refine GX.opn bn fun _ _ ha => ?_
    obtain ⟨h9, _⟩ | ⟨gb, rfl⟩ := ha
    · rw [h9] at hy; simp at hy
    have hri : r.getD i false = x := getD_some hx
    have hyi : b.getD i false = y := getD_some hy
    have hai : a.getD i false = x := by rw [← hri, hb i, if_neg (by omega)]
    have hstep : ∀ r' : List Bool, (∀ k : Nat, r'.getD k false = if k = i then (x || y) else r.getD k false) → ∀ k : Nat, r'.getD k false = if k < i + 1 then (a.getD k false || b.getD k false) else a.getD k false := fun r' h k => by
      rw [h k]
      by_cases e : k = i
      · subst e; rw [if_pos rfl, if_pos (by omega), hai, hyi]
      · rw [if_neg e, hb k]
        by_cases e2 : k < i
        · rw [if_pos e2, if_pos (by omega)]
        · rw [if_neg e2, if_neg (by omega)]
    cases y with
    | false =>
      refine GX.wbR ?_; intros
      exact again (i + 1, r, t') ⟨rfl, rfl, rfl, rfl, trivial⟩ ⟨by dsimp only; omega, hr, hstep r fun k => by split <;> simp_all, hsm, hmo, hle⟩ (by dsimp only; omega)
    | true =>
      cases x with
      | true =>
        refine GX.wbR ?_; intros
        exact again (i + 1, r, t') ⟨rfl, rfl, rfl, rfl, trivial⟩ ⟨by dsimp only; omega, hr, hstep r fun k => by split <;> simp_all, hsm, hmo, hle⟩ (by dsimp only; omega)
      | false =>
        have ho := ones_set hx
        refine GX.wbR ?_; intros
        refine again (i + 1, r.set i true, true) ⟨rfl, rfl, rfl, rfl, trivial⟩ ⟨by dsimp only; omega, by dsimp only; rw [List.length_set]; exact hr, hstep _ fun k => ?_, fun h => by simp at h, fun _ => .inr (by dsimp only; omega), by dsimp only; omega⟩ (by dsimp only; omega)
        by_cases e : k = i
        · subst e; rw [if_pos rfl, List.getD_eq_getElem?_getD, List.getElem?_set_self (by omega)]; rfl
        · rw [if_neg e, List.getD_eq_getElem?_getD, List.getElem?_set_ne (fun h => e h.symm), ← List.getD_eq_getElem?_getD]
  · obtain rfl : i = a.length := by omega
    refine GX.wbR ?_; intros
    refine GX.osP (l := (L.set n (none, 0, [])).set m (none, 0, [])) (ao := bn) (cap := cb) (xs := b) m ?_ (List.getElem?_set_self (by rw [List.length_set]; exact (List.getElem?_eq_some_iff.1 hm).1))
    rw [List.set_set, set_sameO hmn]
    refine GX.osP (l := L.set n (none, 0, [])) (ao := an) (cap := ca) (xs := r) n ?_ (List.getElem?_set_self (List.getElem?_eq_some_iff.1 hn).1)
    rw [List.set_set]
    refine en0 ⟨r, t', hr, fun k => ?_, hsm, hmo, hle⟩
    rw [hb k]
    split
    · rfl
    · rename_i hk
      have h1 : a.getD k false = false := by rw [List.getD_eq_getElem?_getD, List.getElem?_eq_none (by omega)]; rfl
      have h2 : b.getD k false = false := by rw [List.getD_eq_getElem?_getD, List.getElem?_eq_none (by omega)]; rfl
      rw [h1, h2]; rfl
end Go.Proofs.Ytkagjpkgboeaiaa

/- Steps of the reference's sets, plainly. -/
namespace Go.Proofs.Ytkagjpkgboeaiaa
open Go Go.RR Go.RX Go.GX Go.Api Go.RiseM Go.SolM
theorem set_sameB {B : Bits} {n : Nat} {a : List Bool} (h : B[n]? = some a) : B.set n a = B := set_sameO h
theorem step_join {d : Dim} {l : List Con} {B : Bits} {t : Bool} {n m : Nat} {a b : List Bool} (hB : BShape d B) (hs : ∀ n s, XB B n s → In d l n s) (hn : B[n]? = some a) (hm : B[m]? = some b) (j : JnR a b t) (hin : ∀ s, In d l m s → In d l n s) :
    StepB d l B t (B.set n j.r) j.t' ∧ (j.t' = false → ∀ s, XB B m s → XB B n s) := by
  have hnl := (List.getElem?_eq_some_iff.1 hn).1
  have hbit : ∀ k s, bitB (B.set n j.r) k s = if k = n then (bitB B n s || bitB B m s) else bitB B k s := fun k s => by
    rw [bitB_set hnl]
    split
    · rw [j.bit s, bitB_some hn, bitB_some hm]
    · rfl
  have hc := cnt_set (r' := j.r) hn
  have hle := j.le
  refine ⟨⟨⟨by rw [List.length_set]; exact hB.len, fun r hr => ?_⟩, fun k s h => ?_, fun k s h => ?_, fun h => ?_, fun h => ?_, by omega⟩, fun h s hb => ?_⟩
  · rcases List.mem_or_eq_of_mem_set hr with hr | rfl
    · exact hB.row r hr
    · rw [j.len]; exact hB.row a (List.mem_of_getElem? hn)
  · unfold XB at h
    rw [hbit] at h
    split at h
    · rename_i e; subst e
      rw [Bool.or_eq_true] at h
      rcases h with h | h
      · exact hs _ _ h
      · exact hin s (hs _ _ h)
    · exact hs _ _ h
  · unfold XB at h ⊢
    rw [hbit]
    split
    · rename_i e; subst e; rw [h]; rfl
    · exact h
  · obtain ⟨h1, h2⟩ := j.same h
    refine ⟨h1, ?_⟩
    rw [h2]; exact set_sameB hn
  · rcases j.more h with h1 | h1
    · exact .inl h1
    · right; omega
  · obtain ⟨_, h2⟩ := j.same h
    have := j.bit s
    rw [h2, ← bitB_some hn, ← bitB_some hm, show bitB B m s = true from hb] at this
    unfold XB
    rw [this]; simp
/-- One bit more. -/
theorem step_one {d : Dim} {l : List Con} {B : Bits} {n k : Nat} {a : List Bool} (t : Bool) (hB : BShape d B) (hs : ∀ n s, XB B n s → In d l n s) (hn : B[n]? = some a) (hk : a[k]? = some false) (hin : In d l n k) :
    StepB d l B t (B.set n (a.set k true)) true := by
  have hnl := (List.getElem?_eq_some_iff.1 hn).1
  have hkl := (List.getElem?_eq_some_iff.1 hk).1
  have hc := cnt_set (r' := a.set k true) hn
  have ho := ones_set hk
  have hg : ∀ s, (a.set k true).getD s false = if s = k then true else a.getD s false := fun s => by
    by_cases e : s = k
    · subst e; rw [if_pos rfl, List.getD_eq_getElem?_getD, List.getElem?_set_self hkl]; rfl
    · rw [if_neg e, List.getD_eq_getElem?_getD, List.getElem?_set_ne (fun h => e h.symm), ← List.getD_eq_getElem?_getD]
  refine ⟨⟨by rw [List.length_set]; exact hB.len, fun r hr => ?_⟩, fun m s h => ?_, fun m s h => ?_, fun h => by simp at h, fun _ => .inr (by omega), by omega⟩
  · rcases List.mem_or_eq_of_mem_set hr with hr | rfl
    · exact hB.row r hr
    · rw [List.length_set]; exact hB.row a (List.mem_of_getElem? hn)
  · unfold XB at h
    rw [bitB_set hnl] at h
    split at h
    · rename_i e; subst e
      rw [hg] at h
      split at h
      · rename_i e; subst e; exact hin
      · exact hs _ _ (by unfold XB; rw [bitB_some hn]; exact h)
    · exact hs _ _ h
  · unfold XB at h ⊢
    rw [bitB_set hnl]
    split
    · rename_i e; subst e
      rw [hg]
      split
      · rfl
      · rwa [bitB_some hn] at h
    · exact h
/-- All fits: what is marked is the least. -/
theorem bits_in {d : Dim} {l : List Con} {B : Bits} (hs : ∀ n s, XB B n s → In d l n s) (hc : Closed d l (XB B)) (n s : Nat) : XB B n s ↔ In d l n s := ⟨hs n s, fun h => in_least hc h⟩
end Go.Proofs.Ytkagjpkgboeaiaa

/- The walk over the reference's do. -/
namespace Go.Proofs.Ytkagjpkgboeaiaa
open Go Go.RR Go.RX Go.GX Go.Api Go.RiseM Go.SolM
attribute [local irreducible] wpList Code.wp wpPlan Exit.then Exit.inBlock bodyPost NoPanic Went GX.Post GX.Again GX.Meet GX.RowR GX.Own GX.Owns GX.Box GX.Sl GX.Pt GX.Ag GX.MapR GX.Kept GX.Pin wpT GoK AtEnd Both
abbrev BL := List (Option Addr × Nat × List Bool)
abbrev HD := Option Addr × Nat × Nat
def bitsL (L : BL) : Bits := L.map (·.2.2)
/-- Where the sets' bits lie. -/
structure Heads (d : Dim) (L : BL) (H : List HD) (FH : List (List HD)) : Prop where
  n : H.length = d.N
  s : FH.length = d.S
  w : ∀ r ∈ FH, r.length = d.W
  hn : ∀ i, i < d.N → ∀ q, L[i]? = some q → H[i]? = some (GX.hd q)
  hf : ∀ s f, s < d.S → f < d.W → ∀ r q, FH[s]? = some r → L[d.fld s f]? = some q → r[f]? = some (GX.hd q)
theorem Heads.congr {d : Dim} {L L' : BL} {H : List HD} {FH : List (List HD)} (h : Heads d L H FH) (e : L'.map GX.hd = L.map GX.hd) : Heads d L' H FH := by
  have key : ∀ (i : Nat) q', L'[i]? = some q' → ∃ q, L[i]? = some q ∧ GX.hd q = GX.hd q' := fun i q' hq' => by
    have : (L'.map GX.hd)[i]? = some (GX.hd q') := by rw [List.getElem?_map, hq']; rfl
    rw [e, List.getElem?_map] at this
    obtain ⟨q, h1, h2⟩ := Option.map_eq_some_iff.1 this
    exact ⟨q, h1, h2⟩
  refine ⟨h.n, h.s, h.w, fun i hi q' hq' => ?_, fun s f hs hf r q' hr hq' => ?_⟩
  · obtain ⟨q, h1, h2⟩ := key i q' hq'
    rw [← h2]; exact h.hn i hi q h1
  · obtain ⟨q, h1, h2⟩ := key _ q' hq'
    rw [← h2]; exact h.hf s f hs hf r q hr h1
theorem hd_set_same {L : BL} {n : Nat} {an : Option Addr} {ca : Nat} {a r : List Bool} (h : L[n]? = some (an, ca, a)) (hl : r.length = a.length) : (L.set n (an, ca, r)).map GX.hd = L.map GX.hd := by
  rw [List.map_set]
  refine set_sameO ?_
  rw [List.getElem?_map, h]
  show some (an, a.length, ca) = some (an, r.length, ca)
  rw [hl]
theorem bitsL_set (L : BL) (n : Nat) (an : Option Addr) (ca : Nat) (r : List Bool) : bitsL (L.set n (an, ca, r)) = (bitsL L).set n r := by unfold bitsL; rw [List.map_set]
theorem bitsL_get {L : BL} {n : Nat} {q : Option Addr × Nat × List Bool} (h : L[n]? = some q) : (bitsL L)[n]? = some q.2.2 := by unfold bitsL; rw [List.getElem?_map, h]; rfl
structure DoR (d : Dim) (l : List Con) (L : BL) (t : Bool) (c : Con) where
  L' : BL
  t' : Bool
  hd : L'.map GX.hd = L.map GX.hd
  st : StepB d l (bitsL L) t (bitsL L') t'
  fit : t' = false → Fit d (XB (bitsL L)) c
theorem mkFit1 {d : Dim} {X : Nat → Nat → Prop} {c : Con} (e : c.kind = 1) (h : X c.a.toNat c.b.toNat) : Fit d X c := by unfold Fit; rwa [if_pos e]
theorem mkFit2 {d : Dim} {X : Nat → Nat → Prop} {c : Con} (e : c.kind = 2) (h : ∀ s, X c.b.toNat s → X c.a.toNat s) : Fit d X c := by unfold Fit; rwa [if_neg (by omega), if_pos e]
theorem mkFit3 {d : Dim} {X : Nat → Nat → Prop} {c : Con} (e : c.kind = 3) (h : ∀ k s, X c.b.toNat k → X (d.fld k c.f.toNat) s → X c.a.toNat s) : Fit d X c := by unfold Fit; rwa [if_neg (by omega), if_neg (by omega), if_pos e]
theorem mkFit4 {d : Dim} {X : Nat → Nat → Prop} {c : Con} (e : c.kind = 4) (h : ∀ k s, X c.a.toNat k → X c.b.toNat s → X (d.fld k c.f.toNat) s) : Fit d X c := by unfold Fit; rwa [if_neg (by omega), if_neg (by omega), if_neg (by omega), if_pos e]
theorem mkFit5 {d : Dim} {X : Nat → Nat → Prop} {c : Con} (e : c.kind = 5) (h : ∀ f, f < d.W → ∀ s, X (d.fld c.a.toNat f) s ↔ X (d.fld c.b.toNat f) s) : Fit d X c := by unfold Fit; rwa [if_neg (by omega), if_neg (by omega), if_neg (by omega), if_neg (by omega)]
theorem stepSame {d : Dim} {l : List Con} {B B' : Bits} {t t' : Bool} (h : StepB d l B t B' t') (e : t' = false) : B' = B := (h.same e).2
set_option maxHeartbeats 4000000 in
theorem rdo_spec (bl : Nat) (a0 a1 : Option Addr) (c0 c1 : Nat) (d : Dim) (H : List HD) (FH : List (List HD)) (L : BL) (t : Bool) (l : List Con) (cs : List Value) (c : Con) (hH : Heads d L H FH) (hB : BShape d (bitsL L)) (hs : ∀ n s, XB (bitsL L) n s → In d l n s) (hc : c ∈ l) (hl : ∀ c ∈ l, May d c) (hM : d.M ≤ 100000) (hS : d.S ≤ 60) :
    Does Try.prog 26 [.pointer (some ⟨bl, 0, none⟩), .agg cs.toArray] [Ag tyCon cs c, Sl Ty.hdr a0 c0 H, Sl (Ty.slice Ty.hdr) a1 c1 FH] [RowR bl 64 [.slice a0 d.N c0, .slice a1 d.S c1, .bool t], Owns 4 Ty.bool L]
      (fun _ : DoR d l L t c => .tuple #[]) (fun _ => []) (fun s => [RowR bl 64 [.slice a0 d.N c0, .slice a1 d.S c1, .bool s.t'], Owns 4 Ty.bool s.L']) := by
  refine enter Try.func26 rfl Try.ntmps26 rfl fun b => ?_
  have hF := in_closed d l c hc
  have hm := hl c hc
  have hN := d.N_le
  have hLl : L.length = d.M := by have := hB.len; unfold bitsL at this; rwa [List.length_map] at this
  obtain ⟨kd, ca, cb, cf⟩ := c
  unfold May at hm
  dsimp only at hm
  have hHn := hH.n
  have hHs := hH.s
  refine GX.wbR ?_; intros
  refine GX.nmP 3 ?_; rintro b3 rfl
  by_cases e1 : kd = 1
  · rw [if_pos e1] at hm
    obtain ⟨⟨p0, p1⟩, q0, q1⟩ := hm
    obtain ⟨a, rfl⟩ := Int.eq_ofNat_of_zero_le p0
    obtain ⟨k, rfl⟩ := Int.eq_ofNat_of_zero_le q0
    have hin := fit1 hF e1
    simp only [Int.toNat_natCast] at hin
    obtain ⟨q, hq⟩ := get_lt (show a < L.length by omega)
    obtain ⟨an, cn, r⟩ := q
    have hx := hH.hn a (by omega) _ hq
    have hx : H[a]? = some (an, r.length, cn) := hx
    have hrl : r.length = d.S := hB.row r (List.mem_of_getElem? (bitsL_get hq))
    obtain ⟨y, hy⟩ := get_lt (show k < r.length by omega)
    have hyb : bitB (bitsL L) a k = y := by rw [bitB_some (bitsL_get hq)]; exact getD_some hy
    refine GX.osT a ?_ hq
    refine GX.opn an fun _ _ ha => ?_
    obtain ⟨h9, _⟩ | ⟨ga, rfl⟩ := ha
    · rw [h9] at hy; simp at hy
    cases y with
    | true =>
      refine GX.wbR ?_; intros
      refine GX.drawn2 (RowR bl 64 [.slice a0 d.N c0, .slice a1 d.S c1, .bool t]) (GX.Own 4 Ty.bool (some ⟨ga, 0, none⟩) cn r) (fun j => !(List.contains [] j)) [(0, true), (1, true), (2, true), (3, true), (4, true), (5, true), (6, true), (7, true), (8, true), (9, true), (10, true), (11, true), (12, true)] rfl (by kernel_rfl) (by kernel_rfl) (by first | ((repeat (first | apply Go.GX.SelR.nil | apply Go.GX.SelR.cons | (with_reducible apply Go.GX.TakeR.head) | apply Go.GX.TakeR.tail)); done) | (repeat (first | apply Go.GX.SelR.nil | apply Go.GX.SelR.cons | apply Go.GX.TakeR.head | apply Go.GX.TakeR.tail))) ?_; intro wd F hW hR
      refine GX.wbT ?_; intros
      refine GX.unpin (RowR bl 64 [.slice a0 d.N c0, .slice a1 d.S c1, .bool t]) ?_
      refine GX.unpin (GX.Own 4 Ty.bool (some ⟨ga, 0, none⟩) cn r) ?_
      refine GX.wbR ?_; intros
      refine GX.osP (l := L.set a (none, 0, [])) (ao := some ⟨ga, 0, none⟩) (cap := cn) (xs := r) a ?_ (List.getElem?_set_self (List.getElem?_eq_some_iff.1 hq).1)
      rw [List.set_set, set_sameO hq]
      exact en0 ⟨L, t, rfl, StepB.refl t hB hs, fun _ => mkFit1 e1 (by simpa [XB] using hyb)⟩
    | false =>
      refine GX.wbR ?_; intros
      refine GX.drawn2 (RowR bl 64 [.slice a0 d.N c0, .slice a1 d.S c1, .bool t]) (GX.Own 4 Ty.bool (some ⟨ga, 0, none⟩) cn r) (fun j => !(List.contains [] j)) [(0, true), (1, true), (2, true), (3, true), (4, true), (5, true), (6, true), (7, true), (8, true), (9, true), (10, true), (11, true), (12, true)] rfl (by kernel_rfl) (by kernel_rfl) (by first | ((repeat (first | apply Go.GX.SelR.nil | apply Go.GX.SelR.cons | (with_reducible apply Go.GX.TakeR.head) | apply Go.GX.TakeR.tail)); done) | (repeat (first | apply Go.GX.SelR.nil | apply Go.GX.SelR.cons | apply Go.GX.TakeR.head | apply Go.GX.TakeR.tail))) ?_; intro wd F hW hR
      refine GX.wbT ?_; intros
      refine GX.unpin (RowR bl 64 [.slice a0 d.N c0, .slice a1 d.S c1, .bool t]) ?_
      refine GX.unpin (GX.Own 4 Ty.bool (some ⟨ga, 0, none⟩) cn r) ?_
      refine GX.wbR ?_; intros
      refine GX.drawn1 (RowR bl 64 [.slice a0 d.N c0, .slice a1 d.S c1, .bool t]) (fun j => !(List.contains [11] j)) [(0, true), (1, true), (2, true), (3, true), (4, true), (5, true), (6, true), (7, true), (8, true), (9, true), (10, true), (11, false)] rfl (by kernel_rfl) (by kernel_rfl) (by first | ((repeat (first | apply Go.GX.SelR.nil | apply Go.GX.SelR.cons | (with_reducible apply Go.GX.TakeR.head) | apply Go.GX.TakeR.tail)); done) | (repeat (first | apply Go.GX.SelR.nil | apply Go.GX.SelR.cons | apply Go.GX.TakeR.head | apply Go.GX.TakeR.tail))) ?_; intro wd F hW hR
      refine GX.wbT ?_; intros
      refine GX.unpin (RowR bl 64 [.slice a0 d.N c0, .slice a1 d.S c1, .bool t]) ?_
      refine GX.wbR ?_; intros
      refine GX.osP (l := L.set a (none, 0, [])) (ao := some ⟨ga, 0, none⟩) (cap := cn) (xs := r.set k true) a ?_ (List.getElem?_set_self (List.getElem?_eq_some_iff.1 hq).1)
      rw [List.set_set]
      exact en0 ⟨L.set a (some ⟨ga, 0, none⟩, cn, r.set k true), true, hd_set_same hq (by rw [List.length_set]), by rw [bitsL_set]; exact step_one t hB hs (bitsL_get hq) hy hin, fun h => by simp at h⟩
  by_cases e2 : kd = 2
  · rw [if_neg e1, if_pos e2] at hm
    obtain ⟨⟨p0, p1⟩, q0, q1⟩ := hm
    obtain ⟨a, rfl⟩ := Int.eq_ofNat_of_zero_le p0
    obtain ⟨m, rfl⟩ := Int.eq_ofNat_of_zero_le q0
    have hin := fit2 hF e2
    simp only [Int.toNat_natCast] at hin
    obtain ⟨qA, hqA⟩ := get_lt (show a < L.length by omega)
    obtain ⟨nA, kA, rA⟩ := qA
    have hxA : H[a]? = some (nA, rA.length, kA) := hH.hn a (by omega) _ hqA
    have hlA : rA.length = d.S := hB.row rA (List.mem_of_getElem? (bitsL_get hqA))
    obtain ⟨qB, hqB⟩ := get_lt (show m < L.length by omega)
    obtain ⟨nB, kB, rB⟩ := qB
    have hxB : H[m]? = some (nB, rB.length, kB) := hH.hn m (by omega) _ hqB
    have hlB : rB.length = d.S := hB.row rB (List.mem_of_getElem? (bitsL_get hqB))
    refine GX.wbR ?_; intros
    refine GX.drawn1 (RowR bl 64 [.slice a0 d.N c0, .slice a1 d.S c1, .bool t]) (fun j => !(List.contains [17] j)) [(0, true), (1, true), (2, true), (3, true), (4, true), (5, true), (6, true), (7, true), (8, true), (9, true), (10, true), (11, true), (12, true), (13, true), (14, true), (15, true), (16, true), (17, false)] rfl (by kernel_rfl) (by kernel_rfl) (by first | ((repeat (first | apply Go.GX.SelR.nil | apply Go.GX.SelR.cons | (with_reducible apply Go.GX.TakeR.head) | apply Go.GX.TakeR.tail)); done) | (repeat (first | apply Go.GX.SelR.nil | apply Go.GX.SelR.cons | apply Go.GX.TakeR.head | apply Go.GX.TakeR.tail))) ?_; intro wd F hW hR
    refine GX.wbT ?_; intros
    refine GX.unpin (RowR bl 64 [.slice a0 d.N c0, .slice a1 d.S c1, .bool t]) ?_
    refine GX.gow ?_
    refine (cl (rjoinL_spec bl _ _ t nA nB kA kB rA rB L a m hqA hqB (by omega)) fun j => ?_)
    refine GX.wbT ?_; intros
    refine GX.wbR ?_; intros
    obtain ⟨hst, hft⟩ := step_join hB hs (bitsL_get hqA) (bitsL_get hqB) j hin
    exact en0 ⟨L.set a (nA, kA, j.r), j.t', hd_set_same hqA j.len, by rw [bitsL_set]; exact hst, fun h => mkFit2 e2 (by simpa using hft h)⟩
  by_cases e3 : kd = 3
  · rw [if_neg e1, if_neg e2, if_pos (.inl e3)] at hm
    obtain ⟨⟨p0, p1⟩, ⟨q0, q1⟩, f0, f1⟩ := hm
    obtain ⟨a, rfl⟩ := Int.eq_ofNat_of_zero_le p0
    obtain ⟨m, rfl⟩ := Int.eq_ofNat_of_zero_le q0
    obtain ⟨f, rfl⟩ := Int.eq_ofNat_of_zero_le f0
    have hin := fit3 hF e3
    simp only [Int.toNat_natCast] at hin
    refine GX.wbR ?_; intros
    refine GX.loop (σ := Nat × BL × Bool) (fun s => [(0, .pointer (some ⟨bl, 0, none⟩)), (3, .pointer (some ⟨b3, 0, none⟩)), (4, .int .i64 (s.1 : Int))]) (fun _ => []) (fun s => [RowR bl 64 [.slice a0 d.N c0, .slice a1 d.S c1, .bool s.2.2], Owns 4 Ty.bool s.2.1])
      (fun s => s.1 ≤ d.S ∧ s.2.1.map GX.hd = L.map GX.hd ∧ StepB d l (bitsL L) t (bitsL s.2.1) s.2.2 ∧ (s.2.2 = false → ∀ x, x < s.1 → ∀ s', XB (bitsL L) m x → XB (bitsL L) (d.fld x f) s' → XB (bitsL L) a s')) (fun s => d.S - s.1) (0, L, t) ⟨rfl, rfl, rfl, trivial⟩ ⟨by simp, rfl, StepB.refl t hB hs, fun _ x hx => by simp at hx⟩ (fun s hs2 => ?_)
    obtain ⟨i, L2, t2⟩ := s
    obtain ⟨hi, hd2, st2, ft2⟩ := hs2
    dsimp only at *
    have hH2 := hH.congr hd2
    have hB2 := st2.shape
    have hL2 : L2.length = d.M := by have := hB2.len; unfold bitsL at this; rwa [List.length_map] at this
    by_cases hlt : i < d.S
    · skip
      obtain ⟨qT, hqT⟩ := get_lt (show m < L2.length by omega)
      obtain ⟨nT, kT, rT⟩ := qT
      have hxT : H[m]? = some (nT, rT.length, kT) := hH2.hn m (by omega) _ hqT
      have hlT : rT.length = d.S := hB2.row rT (List.mem_of_getElem? (bitsL_get hqT))
      obtain ⟨y, hy⟩ := get_lt (show i < rT.length by omega)
      have hyb : bitB (bitsL L2) m i = y := by rw [bitB_some (bitsL_get hqT)]; exact getD_some hy
      refine GX.osT m ?_ hqT
      refine GX.opn nT fun _ _ ha => ?_
      obtain ⟨h9, _⟩ | ⟨gT, rfl⟩ := ha
      · rw [h9] at hy; simp at hy
      refine GX.wbR ?_; intros
      refine GX.drawn2 (RowR bl 64 [.slice a0 d.N c0, .slice a1 d.S c1, .bool t2]) (GX.Own 4 Ty.bool (some ⟨gT, 0, none⟩) kT rT) (fun j => !(List.contains [] j)) [(0, true), (1, true), (2, true), (3, true), (4, true), (5, true), (6, true), (7, true), (8, true), (9, true), (10, true)] rfl (by kernel_rfl) (by kernel_rfl) (by first | ((repeat (first | apply Go.GX.SelR.nil | apply Go.GX.SelR.cons | (with_reducible apply Go.GX.TakeR.head) | apply Go.GX.TakeR.tail)); done) | (repeat (first | apply Go.GX.SelR.nil | apply Go.GX.SelR.cons | apply Go.GX.TakeR.head | apply Go.GX.TakeR.tail))) ?_; intro wd F hW hR
      refine GX.wbT ?_; intros
      refine GX.unpin (RowR bl 64 [.slice a0 d.N c0, .slice a1 d.S c1, .bool t2]) ?_
      refine GX.unpin (GX.Own 4 Ty.bool (some ⟨gT, 0, none⟩) kT rT) ?_
      refine GX.osP (l := L2.set m (none, 0, [])) (ao := some ⟨gT, 0, none⟩) (cap := kT) (xs := rT) m ?_ (List.getElem?_set_self (List.getElem?_eq_some_iff.1 hqT).1)
      rw [List.set_set, set_sameO hqT]
      cases y with
      | false =>
        refine GX.wbR ?_; intros
        refine again (i + 1, L2, t2) ⟨rfl, rfl, rfl, trivial⟩ ⟨by dsimp only; omega, hd2, st2, fun h x hx s' h1 h2 => ?_⟩ (by dsimp only; omega)
        by_cases e : x = i
        · subst e
          rw [stepSame st2 h] at hyb
          unfold XB at h1
          rw [hyb] at h1; cases h1
        · exact ft2 h x (by dsimp only at hx; omega) s' h1 h2
      | true =>
        have hT : In d l m i := st2.snd _ _ hyb
        obtain ⟨qA, hqA⟩ := get_lt (show a < L2.length by omega)
        obtain ⟨nA, kA, rA⟩ := qA
        have hxA : H[a]? = some (nA, rA.length, kA) := hH2.hn a (by omega) _ hqA
        have hlA : rA.length = d.S := hB2.row rA (List.mem_of_getElem? (bitsL_get hqA))
        have hltF := Dim.fld_lt (d := d) (s := i) (f := f) (by omega) (by omega)
        obtain ⟨qF, hqF⟩ := get_lt (show d.fld i f < L2.length by omega)
        obtain ⟨nF, kF, rF⟩ := qF
        obtain ⟨wF, hwF⟩ := get_lt (show i < FH.length by omega)
        have hwlF : wF.length = d.W := hH.w wF (List.mem_of_getElem? hwF)
        have hxF : wF[f]? = some (nF, rF.length, kF) := hH2.hf i f (by omega) (by omega) _ _ hwF hqF
        have hlF : rF.length = d.S := hB2.row rF (List.mem_of_getElem? (bitsL_get hqF))
        refine GX.wbR ?_; intros
        refine GX.drawn1 (RowR bl 64 [.slice a0 d.N c0, .slice a1 d.S c1, .bool t2]) (fun j => !(List.contains [20] j)) [(0, true), (1, true), (2, true), (3, true), (4, true), (5, true), (6, true), (7, true), (8, true), (9, true), (10, true), (11, true), (12, true), (13, true), (14, true), (15, true), (16, true), (17, true), (18, true), (19, true), (20, false)] rfl (by kernel_rfl) (by kernel_rfl) (by first | ((repeat (first | apply Go.GX.SelR.nil | apply Go.GX.SelR.cons | (with_reducible apply Go.GX.TakeR.head) | apply Go.GX.TakeR.tail)); done) | (repeat (first | apply Go.GX.SelR.nil | apply Go.GX.SelR.cons | apply Go.GX.TakeR.head | apply Go.GX.TakeR.tail))) ?_; intro wd F hW hR
        refine GX.wbT ?_; intros
        refine GX.unpin (RowR bl 64 [.slice a0 d.N c0, .slice a1 d.S c1, .bool t2]) ?_
        refine GX.gow ?_
        refine (cl (rjoinL_spec bl _ _ t2 nA nF kA kF rA rF L2 a (d.fld i f) hqA hqF (by omega)) fun j => ?_)
        refine GX.wbT ?_; intros
        refine GX.wbR ?_; intros
        obtain ⟨hst, hft⟩ := step_join hB2 st2.snd (bitsL_get hqA) (bitsL_get hqF) j (fun s => hin i s hT)
        refine again (i + 1, L2.set a (nA, kA, j.r), j.t') ⟨rfl, rfl, rfl, trivial⟩ ⟨by dsimp only; omega, (hd_set_same hqA j.len).trans hd2, by dsimp only; rw [bitsL_set]; exact st2.trans hst, fun h x hx s' h1 h2 => ?_⟩ (by dsimp only; omega)
        have ht2 := (hst.same h).1
        by_cases e : x = i
        · subst e
          have := hft h s'
          rw [stepSame st2 ht2] at this
          exact this h2
        · exact ft2 ht2 x (by dsimp only at hx; omega) s' h1 h2
    · obtain rfl : i = d.S := by omega
      refine GX.wbR ?_; intros
      refine en0 ⟨L2, t2, hd2, st2, fun h => mkFit3 e3 fun x s' h1 h2 => ?_⟩
      simp only [Int.toNat_natCast] at h1 h2 ⊢
      exact ft2 h x (in_lt hl (hs _ _ h1)).2 s' h1 h2
  by_cases e4 : kd = 4
  · rw [if_neg e1, if_neg e2, if_pos (.inr e4)] at hm
    obtain ⟨⟨p0, p1⟩, ⟨q0, q1⟩, f0, f1⟩ := hm
    obtain ⟨a, rfl⟩ := Int.eq_ofNat_of_zero_le p0
    obtain ⟨m, rfl⟩ := Int.eq_ofNat_of_zero_le q0
    obtain ⟨f, rfl⟩ := Int.eq_ofNat_of_zero_le f0
    have hin := fit4 hF e4
    simp only [Int.toNat_natCast] at hin
    refine GX.wbR ?_; intros
    refine GX.loop (σ := Nat × BL × Bool) (fun s => [(0, .pointer (some ⟨bl, 0, none⟩)), (3, .pointer (some ⟨b3, 0, none⟩)), (5, .int .i64 (s.1 : Int))]) (fun _ => []) (fun s => [RowR bl 64 [.slice a0 d.N c0, .slice a1 d.S c1, .bool s.2.2], Owns 4 Ty.bool s.2.1])
      (fun s => s.1 ≤ d.S ∧ s.2.1.map GX.hd = L.map GX.hd ∧ StepB d l (bitsL L) t (bitsL s.2.1) s.2.2 ∧ (s.2.2 = false → ∀ x, x < s.1 → ∀ s', XB (bitsL L) a x → XB (bitsL L) m s' → XB (bitsL L) (d.fld x f) s')) (fun s => d.S - s.1) (0, L, t) ⟨rfl, rfl, rfl, trivial⟩ ⟨by simp, rfl, StepB.refl t hB hs, fun _ x hx => by simp at hx⟩ (fun s hs2 => ?_)
    obtain ⟨i, L2, t2⟩ := s
    obtain ⟨hi, hd2, st2, ft2⟩ := hs2
    dsimp only at *
    have hH2 := hH.congr hd2
    have hB2 := st2.shape
    have hL2 : L2.length = d.M := by have := hB2.len; unfold bitsL at this; rwa [List.length_map] at this
    by_cases hlt : i < d.S
    · skip
      obtain ⟨qT, hqT⟩ := get_lt (show a < L2.length by omega)
      obtain ⟨nT, kT, rT⟩ := qT
      have hxT : H[a]? = some (nT, rT.length, kT) := hH2.hn a (by omega) _ hqT
      have hlT : rT.length = d.S := hB2.row rT (List.mem_of_getElem? (bitsL_get hqT))
      obtain ⟨y, hy⟩ := get_lt (show i < rT.length by omega)
      have hyb : bitB (bitsL L2) a i = y := by rw [bitB_some (bitsL_get hqT)]; exact getD_some hy
      refine GX.osT a ?_ hqT
      refine GX.opn nT fun _ _ ha => ?_
      obtain ⟨h9, _⟩ | ⟨gT, rfl⟩ := ha
      · rw [h9] at hy; simp at hy
      refine GX.wbR ?_; intros
      refine GX.drawn2 (RowR bl 64 [.slice a0 d.N c0, .slice a1 d.S c1, .bool t2]) (GX.Own 4 Ty.bool (some ⟨gT, 0, none⟩) kT rT) (fun j => !(List.contains [] j)) [(0, true), (1, true), (2, true), (3, true), (4, true), (5, true), (6, true), (7, true), (8, true), (9, true), (10, true)] rfl (by kernel_rfl) (by kernel_rfl) (by first | ((repeat (first | apply Go.GX.SelR.nil | apply Go.GX.SelR.cons | (with_reducible apply Go.GX.TakeR.head) | apply Go.GX.TakeR.tail)); done) | (repeat (first | apply Go.GX.SelR.nil | apply Go.GX.SelR.cons | apply Go.GX.TakeR.head | apply Go.GX.TakeR.tail))) ?_; intro wd F hW hR
      refine GX.wbT ?_; intros
      refine GX.unpin (RowR bl 64 [.slice a0 d.N c0, .slice a1 d.S c1, .bool t2]) ?_
      refine GX.unpin (GX.Own 4 Ty.bool (some ⟨gT, 0, none⟩) kT rT) ?_
      refine GX.osP (l := L2.set a (none, 0, [])) (ao := some ⟨gT, 0, none⟩) (cap := kT) (xs := rT) a ?_ (List.getElem?_set_self (List.getElem?_eq_some_iff.1 hqT).1)
      rw [List.set_set, set_sameO hqT]
      cases y with
      | false =>
        refine GX.wbR ?_; intros
        refine again (i + 1, L2, t2) ⟨rfl, rfl, rfl, trivial⟩ ⟨by dsimp only; omega, hd2, st2, fun h x hx s' h1 h2 => ?_⟩ (by dsimp only; omega)
        by_cases e : x = i
        · subst e
          rw [stepSame st2 h] at hyb
          unfold XB at h1
          rw [hyb] at h1; cases h1
        · exact ft2 h x (by dsimp only at hx; omega) s' h1 h2
      | true =>
        have hT : In d l a i := st2.snd _ _ hyb
        have hltF := Dim.fld_lt (d := d) (s := i) (f := f) (by omega) (by omega)
        obtain ⟨qF, hqF⟩ := get_lt (show d.fld i f < L2.length by omega)
        obtain ⟨nF, kF, rF⟩ := qF
        obtain ⟨wF, hwF⟩ := get_lt (show i < FH.length by omega)
        have hwlF : wF.length = d.W := hH.w wF (List.mem_of_getElem? hwF)
        have hxF : wF[f]? = some (nF, rF.length, kF) := hH2.hf i f (by omega) (by omega) _ _ hwF hqF
        have hlF : rF.length = d.S := hB2.row rF (List.mem_of_getElem? (bitsL_get hqF))
        obtain ⟨qA, hqA⟩ := get_lt (show m < L2.length by omega)
        obtain ⟨nA, kA, rA⟩ := qA
        have hxA : H[m]? = some (nA, rA.length, kA) := hH2.hn m (by omega) _ hqA
        have hlA : rA.length = d.S := hB2.row rA (List.mem_of_getElem? (bitsL_get hqA))
        refine GX.wbR ?_; intros
        refine GX.drawn1 (RowR bl 64 [.slice a0 d.N c0, .slice a1 d.S c1, .bool t2]) (fun j => !(List.contains [20] j)) [(0, true), (1, true), (2, true), (3, true), (4, true), (5, true), (6, true), (7, true), (8, true), (9, true), (10, true), (11, true), (12, true), (13, true), (14, true), (15, true), (16, true), (17, true), (18, true), (19, true), (20, false)] rfl (by kernel_rfl) (by kernel_rfl) (by first | ((repeat (first | apply Go.GX.SelR.nil | apply Go.GX.SelR.cons | (with_reducible apply Go.GX.TakeR.head) | apply Go.GX.TakeR.tail)); done) | (repeat (first | apply Go.GX.SelR.nil | apply Go.GX.SelR.cons | apply Go.GX.TakeR.head | apply Go.GX.TakeR.tail))) ?_; intro wd F hW hR
        refine GX.wbT ?_; intros
        refine GX.unpin (RowR bl 64 [.slice a0 d.N c0, .slice a1 d.S c1, .bool t2]) ?_
        refine GX.gow ?_
        refine (cl (rjoinL_spec bl _ _ t2 nF nA kF kA rF rA L2 (d.fld i f) m hqF hqA (by omega)) fun j => ?_)
        refine GX.wbT ?_; intros
        refine GX.wbR ?_; intros
        obtain ⟨hst, hft⟩ := step_join hB2 st2.snd (bitsL_get hqF) (bitsL_get hqA) j (fun s => hin i s hT)
        refine again (i + 1, L2.set (d.fld i f) (nF, kF, j.r), j.t') ⟨rfl, rfl, rfl, trivial⟩ ⟨by dsimp only; omega, (hd_set_same hqF j.len).trans hd2, by dsimp only; rw [bitsL_set]; exact st2.trans hst, fun h x hx s' h1 h2 => ?_⟩ (by dsimp only; omega)
        have ht2 := (hst.same h).1
        by_cases e : x = i
        · subst e
          have := hft h s'
          rw [stepSame st2 ht2] at this
          exact this h2
        · exact ft2 ht2 x (by dsimp only at hx; omega) s' h1 h2
    · obtain rfl : i = d.S := by omega
      refine GX.wbR ?_; intros
      refine en0 ⟨L2, t2, hd2, st2, fun h => mkFit4 e4 fun x s' h1 h2 => ?_⟩
      simp only [Int.toNat_natCast] at h1 h2 ⊢
      exact ft2 h x (in_lt hl (hs _ _ h1)).2 s' h1 h2
  rw [if_neg e1, if_neg e2, if_neg (by omega)] at hm
  by_cases e5 : kd = 5
  · rw [if_pos e5] at hm
    obtain ⟨⟨p0, p1⟩, q0, q1⟩ := hm
    obtain ⟨a, rfl⟩ := Int.eq_ofNat_of_zero_le p0
    obtain ⟨m, rfl⟩ := Int.eq_ofNat_of_zero_le q0
    have hin := fit5 hF e5
    simp only [Int.toNat_natCast] at hin
    refine GX.wbR ?_; intros
    refine GX.loop (σ := Nat × BL × Bool) (fun s => [(0, .pointer (some ⟨bl, 0, none⟩)), (3, .pointer (some ⟨b3, 0, none⟩)), (6, .int .i64 (s.1 : Int))]) (fun _ => []) (fun s => [RowR bl 64 [.slice a0 d.N c0, .slice a1 d.S c1, .bool s.2.2], Owns 4 Ty.bool s.2.1])
      (fun s => s.1 ≤ d.W ∧ s.2.1.map GX.hd = L.map GX.hd ∧ StepB d l (bitsL L) t (bitsL s.2.1) s.2.2 ∧ (s.2.2 = false → ∀ x, x < s.1 → ∀ s', XB (bitsL L) (d.fld a x) s' ↔ XB (bitsL L) (d.fld m x) s')) (fun s => d.W - s.1) (0, L, t) ⟨rfl, rfl, rfl, trivial⟩ ⟨by simp, rfl, StepB.refl t hB hs, fun _ x hx => by simp at hx⟩ (fun s hs2 => ?_)
    obtain ⟨f, L2, t2⟩ := s
    obtain ⟨hi, hd2, st2, ft2⟩ := hs2
    dsimp only at *
    have hH2 := hH.congr hd2
    have hB2 := st2.shape
    have hL2 : L2.length = d.M := by have := hB2.len; unfold bitsL at this; rwa [List.length_map] at this
    obtain ⟨w0, hw0⟩ := get_lt (show a < FH.length by omega)
    have hwl0 : w0.length = d.W := hH.w w0 (List.mem_of_getElem? hw0)
    refine GX.wbR ?_; intros
    refine GX.drawn1 (RowR bl 64 [.slice a0 d.N c0, .slice a1 d.S c1, .bool t2]) (fun j => !(List.contains [] j)) [(0, true), (1, true), (2, true), (3, true), (4, true), (5, true), (6, true), (7, true), (8, true), (9, true), (10, true)] rfl (by kernel_rfl) (by kernel_rfl) (by first | ((repeat (first | apply Go.GX.SelR.nil | apply Go.GX.SelR.cons | (with_reducible apply Go.GX.TakeR.head) | apply Go.GX.TakeR.tail)); done) | (repeat (first | apply Go.GX.SelR.nil | apply Go.GX.SelR.cons | apply Go.GX.TakeR.head | apply Go.GX.TakeR.tail))) ?_; intro wd F hW hR
    refine GX.wbT ?_; intros
    refine GX.unpin (RowR bl 64 [.slice a0 d.N c0, .slice a1 d.S c1, .bool t2]) ?_
    by_cases hlt : f < d.W
    · skip
      have hltA := Dim.fld_lt (d := d) (s := a) (f := f) (by omega) (by omega)
      obtain ⟨qA, hqA⟩ := get_lt (show d.fld a f < L2.length by omega)
      obtain ⟨nA, kA, rA⟩ := qA
      obtain ⟨wA, hwA⟩ := get_lt (show a < FH.length by omega)
      have hwlA : wA.length = d.W := hH.w wA (List.mem_of_getElem? hwA)
      have hxA : wA[f]? = some (nA, rA.length, kA) := hH2.hf a f (by omega) (by omega) _ _ hwA hqA
      have hlA : rA.length = d.S := hB2.row rA (List.mem_of_getElem? (bitsL_get hqA))
      have hltB := Dim.fld_lt (d := d) (s := m) (f := f) (by omega) (by omega)
      obtain ⟨qB, hqB⟩ := get_lt (show d.fld m f < L2.length by omega)
      obtain ⟨nB, kB, rB⟩ := qB
      obtain ⟨wB, hwB⟩ := get_lt (show m < FH.length by omega)
      have hwlB : wB.length = d.W := hH.w wB (List.mem_of_getElem? hwB)
      have hxB : wB[f]? = some (nB, rB.length, kB) := hH2.hf m f (by omega) (by omega) _ _ hwB hqB
      have hlB : rB.length = d.S := hB2.row rB (List.mem_of_getElem? (bitsL_get hqB))
      refine GX.wbR ?_; intros
      refine GX.drawn1 (RowR bl 64 [.slice a0 d.N c0, .slice a1 d.S c1, .bool t2]) (fun j => !(List.contains [23] j)) [(0, true), (1, true), (2, true), (3, true), (4, true), (5, true), (6, true), (7, true), (8, true), (9, true), (10, true), (11, true), (12, true), (13, true), (14, true), (15, true), (16, true), (17, true), (18, true), (19, true), (20, true), (21, true), (22, true), (23, false)] rfl (by kernel_rfl) (by kernel_rfl) (by first | ((repeat (first | apply Go.GX.SelR.nil | apply Go.GX.SelR.cons | (with_reducible apply Go.GX.TakeR.head) | apply Go.GX.TakeR.tail)); done) | (repeat (first | apply Go.GX.SelR.nil | apply Go.GX.SelR.cons | apply Go.GX.TakeR.head | apply Go.GX.TakeR.tail))) ?_; intro wd F hW hR
      refine GX.wbT ?_; intros
      refine GX.unpin (RowR bl 64 [.slice a0 d.N c0, .slice a1 d.S c1, .bool t2]) ?_
      refine GX.gow ?_
      refine (cl (rjoinL_spec bl _ _ t2 nA nB kA kB rA rB L2 (d.fld a f) (d.fld m f) hqA hqB (by omega)) fun j => ?_)
      refine GX.wbT ?_; intros
      refine GX.wbR ?_; intros
      obtain ⟨hst, hft⟩ := step_join hB2 st2.snd (bitsL_get hqA) (bitsL_get hqB) j (fun s => (hin f hlt s).2)
      have hd3 := (hd_set_same hqA j.len).trans hd2
      rw [← bitsL_set L2 (d.fld a f) nA kA j.r] at hst
      have st3 := st2.trans hst
      obtain ⟨L3, hL3⟩ : ∃ L3 : BL, L3 = L2.set (d.fld a f) (nA, kA, j.r) := ⟨_, rfl⟩
      rw [← hL3] at hst hd3 st3 ⊢
      have hH3 := hH.congr hd3
      have hB3 := st3.shape
      have hL3l : L3.length = d.M := by rw [hL3, List.length_set]; exact hL2
      obtain ⟨t3, ht3⟩ : ∃ t3, t3 = j.t' := ⟨_, rfl⟩
      rw [← ht3] at hst hft st3 ⊢
      clear hL3 ht3
      have hltC := Dim.fld_lt (d := d) (s := m) (f := f) (by omega) (by omega)
      obtain ⟨qC, hqC⟩ := get_lt (show d.fld m f < L3.length by omega)
      obtain ⟨nC, kC, rC⟩ := qC
      obtain ⟨wC, hwC⟩ := get_lt (show m < FH.length by omega)
      have hwlC : wC.length = d.W := hH.w wC (List.mem_of_getElem? hwC)
      have hxC : wC[f]? = some (nC, rC.length, kC) := hH3.hf m f (by omega) (by omega) _ _ hwC hqC
      have hlC : rC.length = d.S := hB3.row rC (List.mem_of_getElem? (bitsL_get hqC))
      have hltD := Dim.fld_lt (d := d) (s := a) (f := f) (by omega) (by omega)
      obtain ⟨qD, hqD⟩ := get_lt (show d.fld a f < L3.length by omega)
      obtain ⟨nD, kD, rD⟩ := qD
      obtain ⟨wD, hwD⟩ := get_lt (show a < FH.length by omega)
      have hwlD : wD.length = d.W := hH.w wD (List.mem_of_getElem? hwD)
      have hxD : wD[f]? = some (nD, rD.length, kD) := hH3.hf a f (by omega) (by omega) _ _ hwD hqD
      have hlD : rD.length = d.S := hB3.row rD (List.mem_of_getElem? (bitsL_get hqD))
      refine GX.drawn1 (RowR bl 64 [.slice a0 d.N c0, .slice a1 d.S c1, .bool t3]) (fun j => !(List.contains [23] j)) [(0, true), (1, true), (2, true), (3, true), (4, true), (5, true), (6, true), (7, true), (8, true), (9, true), (10, true), (11, true), (12, true), (13, true), (14, true), (15, true), (16, true), (17, true), (18, true), (19, true), (20, true), (21, true), (22, true), (23, false)] rfl (by kernel_rfl) (by kernel_rfl) (by first | ((repeat (first | apply Go.GX.SelR.nil | apply Go.GX.SelR.cons | (with_reducible apply Go.GX.TakeR.head) | apply Go.GX.TakeR.tail)); done) | (repeat (first | apply Go.GX.SelR.nil | apply Go.GX.SelR.cons | apply Go.GX.TakeR.head | apply Go.GX.TakeR.tail))) ?_; intro wd F hW hR
      refine GX.wbT ?_; intros
      refine GX.unpin (RowR bl 64 [.slice a0 d.N c0, .slice a1 d.S c1, .bool t3]) ?_
      refine GX.gow ?_
      refine (cl (rjoinL_spec bl _ _ t3 nC nD kC kD rC rD L3 (d.fld m f) (d.fld a f) hqC hqD (by omega)) fun j2 => ?_)
      refine GX.wbT ?_; intros
      refine GX.wbR ?_; intros
      obtain ⟨hst4, hft4⟩ := step_join hB3 st3.snd (bitsL_get hqC) (bitsL_get hqD) j2 (fun s => (hin f hlt s).1)
      refine again (f + 1, L3.set (d.fld m f) (nC, kC, j2.r), j2.t') ⟨rfl, rfl, rfl, trivial⟩ ⟨by dsimp only; omega, (hd_set_same hqC j2.len).trans hd3, by dsimp only; rw [bitsL_set]; exact st3.trans hst4, fun h x hx s' => ?_⟩ (by dsimp only; omega)
      have ht3 := (hst4.same h).1
      have ht2 := (hst.same ht3).1
      by_cases e : x = f
      · subst e
        have g1 := hft ht3 s'
        have g2 := hft4 h s'
        rw [stepSame st2 ht2] at g1
        rw [stepSame st3 ht3] at g2
        exact ⟨g2, g1⟩
      · exact ft2 ht2 x (by dsimp only at hx; omega) s'
    · obtain rfl : f = d.W := by omega
      refine GX.wbR ?_; intros
      refine en0 ⟨L2, t2, hd2, st2, fun h => mkFit5 e5 fun x hx s' => ?_⟩
      simp only [Int.toNat_natCast]
      exact ft2 h x hx s'
  rw [if_neg e5] at hm
  exact hm.elim
end Go.Proofs.Ytkagjpkgboeaiaa
