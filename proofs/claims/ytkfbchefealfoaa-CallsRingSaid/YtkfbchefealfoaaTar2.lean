/- The walk over from of package calls: the walk in depth, and what it leaves. -/
import Derived.Test.YtkfbchefealfoaaTar1
namespace Go.Proofs.Ytkfbchefealfoaa
open Go Go.RR Go.RX Go.GX Go.Api Go.CalM Go.TarM Go.RiseM
attribute [local irreducible] wpList Code.wp wpPlan Exit.then Exit.inBlock bodyPost NoPanic Went GX.Post GX.Again GX.Meet GX.RowR GX.Own GX.Owns GX.Box GX.Sl GX.Pt GX.Ag GX.MapR GX.Kept GX.Pin wpT GoK AtEnd Both

theorem Inv_metle {e : List (List Nat)} {gray : List Nat} {s : TS} (h : Inv e gray s) : s.met.length ≤ e.length := by
  have := nodup_len (m := List.range e.length) h.nodup (fun x hx => List.mem_range.2 (h.lt x hx))
  rwa [List.length_range] at this
theorem Inv_compsle {e : List (List Nat)} {gray : List Nat} {s : TS} (h : Inv e gray s) : s.comps.length ≤ e.length := by
  have h1 := nodup_len (m := List.range e.length) h.lnd (fun x hx => List.mem_range.2 (h.lt x ((h.mem x).2 (.inl hx))))
  rw [List.length_range] at h1
  rw [h.comps]
  unfold compsOf
  rw [List.length_map]
  exact Nat.le_trans (List.length_filter_le _ _) h1
structure FrR (e : List (List Nat)) (gray : List Nat) (f : Nat) (s : TS) where
  s' : TS
  c : TH
  ℓ : Nat
  post : TarM.Post e gray f s s' ℓ
structure FmS where
  s : TS
  c : TH
  ℓ : Nat
  j : Nat
set_option maxHeartbeats 4000000 in
theorem from_spec (p bm bl bd n : Nat) (aE : Option Addr) (cE : Nat) (e : List (List Nat)) (hen : e.length = n) (hn : n ≤ 1000) (hE : ∀ x, ∀ y ∈ kids e x, y < e.length) (hK : ∀ x, (kids e x).length ≤ 100000) : ∀ (k : Nat) (c : TH) (s : TS) (gray : List Nat) (f : Nat), Inv e gray s → f < n → f ∉ s.met → (∀ x ∈ gray, R e x f) → n ≤ s.met.length + k →
    Does Try.prog 19 [.pointer (some ⟨p, 0, none⟩), .int .i64 (f : Int)] [Sl (Ty.slice Ty.int) aE cE (e.map zs)] [RowR p 49 [.slice aE n cE, .slice (some ⟨bm, 0, none⟩) n n, .slice (some ⟨bl, 0, none⟩) n n, .slice c.aO (zs (opn s)).length c.cO, .slice (some ⟨bd, 0, none⟩) n n, .int .i64 (s.met.length : Int), .slice c.aC (s.comps.map zs).length c.cC], GX.Own 3 Ty.int (some ⟨bm, 0, none⟩) n (metL n s.met), GX.Own 3 Ty.int (some ⟨bl, 0, none⟩) n (zs s.low), GX.Own 3 Ty.int c.aO c.cO (zs (opn s)), GX.Own 4 Ty.bool (some ⟨bd, 0, none⟩) n (doneL n s.comps), GX.Own 34 (Ty.slice Ty.int) c.aC c.cC (s.comps.map zs)] (fun _ : FrR e gray f s => .tuple #[]) (fun _ => []) (fun r => [RowR p 49 [.slice aE n cE, .slice (some ⟨bm, 0, none⟩) n n, .slice (some ⟨bl, 0, none⟩) n n, .slice r.c.aO (zs (opn r.s')).length r.c.cO, .slice (some ⟨bd, 0, none⟩) n n, .int .i64 (r.s'.met.length : Int), .slice r.c.aC (r.s'.comps.map zs).length r.c.cC], GX.Own 3 Ty.int (some ⟨bm, 0, none⟩) n (metL n r.s'.met), GX.Own 3 Ty.int (some ⟨bl, 0, none⟩) n (zs r.s'.low), GX.Own 3 Ty.int r.c.aO r.c.cO (zs (opn r.s')), GX.Own 4 Ty.bool (some ⟨bd, 0, none⟩) n (doneL n r.s'.comps), GX.Own 34 (Ty.slice Ty.int) r.c.aC r.c.cC (r.s'.comps.map zs)]) := by
  intro k
  induction k with
  | zero =>
    intro c s gray f hi hf hm hg hk
    have := hi.less (by omega) hm
    omega
  | succ k ih =>
  intro c s gray f hi hf hm hg hk
  refine enter Try.func19 rfl Try.ntmps19 rfl fun b => ?_
  obtain ⟨aO, cO, aC, cC⟩ := c
  dsimp only
  have hml := Inv_metle hi
  have hEl : (e.map zs).length = n := by rw [List.length_map]; exact hen
  have hkg := kids_get (f := f) (e := e) (by omega)
  have hmid := Mid.begin hi (by omega) hm hg
  have hml2 := metL_len n s.met
  have hlow : (zs s.low).length = n := by rw [zs_len, hi.lowl]; exact hen
  have hms : (metL n s.met).set f ((s.met.length + 1 : Nat) : Int) = metL n (s.met ++ [f]) := metL_set hm
  have hop := opn_meet (s := s) (f := f) (fun h => hm ((hi.mem f).2 (.inl (hi.dl f h))))
  have hol : (zs (TarM.opn s)).length ≤ 1000 := by rw [zs_len]; have := opn_len s; omega
  have hoa : zs (TarM.opn s) ++ [(f : Int)] = zs (TarM.opn (meetS s f)) := by rw [hop, zs_app, zs_one]
  refine GX.wR ?_; intros
  refine GX.drawn3 (RowR p 49 _) (GX.Own 3 Ty.int (some ⟨bm, 0, none⟩) n (metL n s.met)) (GX.Own 3 Ty.int (some ⟨bl, 0, none⟩) n (zs s.low)) (fun j => !(List.contains [19, 21] j)) [(0, true), (1, true), (2, true), (3, true), (4, true), (5, true), (6, true), (7, true), (8, true), (9, true), (10, true), (11, true), (12, true), (13, true), (14, true), (15, true), (16, true), (17, true), (18, true), (19, false), (20, true), (21, false)] rfl (by kernel_rfl) (by kernel_rfl) (by first | ((repeat (first | apply Go.GX.SelR.nil | apply Go.GX.SelR.cons | (with_reducible apply Go.GX.TakeR.head) | apply Go.GX.TakeR.tail)); done) | (repeat (first | apply Go.GX.SelR.nil | apply Go.GX.SelR.cons | apply Go.GX.TakeR.head | apply Go.GX.TakeR.tail))) ?_; intro wd F hW hR
  refine GX.wT ?_; intros
  refine GX.unpin (GX.Own 3 Ty.int (some ⟨bm, 0, none⟩) n (metL n s.met)) ?_
  refine GX.wT ?_; intros
  refine GX.unpin (GX.Own 3 Ty.int (some ⟨bl, 0, none⟩) n (zs s.low)) ?_
  refine GX.wT ?_; intros
  refine GX.unpin (RowR p 49 _) ?_
  refine GX.wT ?_; intros
  refine GX.wR ?_; intros
  rw [hms, zs_set, hoa]
  rw [show s.low.set f (s.met.length + 1) = (meetS s f).low from rfl, show s.met ++ [f] = (meetS s f).met from rfl, show s.met.length + 1 = (meetS s f).met.length by simp [meetS]]
  refine GX.nmS 49 ?_; rintro aK cK rfl rfl
  refine GX.nmS 40 ?_; rintro aO2 cO2 rfl rfl
  refine GX.loop (σ := FmS) (fun q => [(0, .pointer (some ⟨p, 0, none⟩)), (1, .int .i64 (f : Int)), (49, .slice aK (zs (kids e f)).length cK), (50, .int .i64 ((zs (kids e f)).length : Int)), (51, .int .i64 (q.j : Int))]) (fun _ => [])
    (fun q => [RowR p 49 [.slice aE n cE, .slice (some ⟨bm, 0, none⟩) n n, .slice (some ⟨bl, 0, none⟩) n n, .slice q.c.aO (zs (opn q.s)).length q.c.cO, .slice (some ⟨bd, 0, none⟩) n n, .int .i64 (q.s.met.length : Int), .slice q.c.aC (q.s.comps.map zs).length q.c.cC], GX.Own 3 Ty.int (some ⟨bm, 0, none⟩) n (metL n q.s.met), GX.Own 3 Ty.int (some ⟨bl, 0, none⟩) n (zs q.s.low), GX.Own 3 Ty.int q.c.aO q.c.cO (zs (opn q.s)), GX.Own 4 Ty.bool (some ⟨bd, 0, none⟩) n (doneL n q.s.comps), GX.Own 34 (Ty.slice Ty.int) q.c.aC q.c.cC (q.s.comps.map zs)]) (fun q => q.j ≤ (kids e f).length ∧ Mid e gray f s ((kids e f).take q.j) q.s q.ℓ) (fun q => (kids e f).length - q.j) ⟨meetS s f, ⟨aO2, cO2, aC, cC⟩, s.met.length + 1, 0⟩ ⟨rfl, rfl, rfl, rfl, rfl, trivial⟩ ⟨Nat.zero_le _, hmid⟩ (fun q hq => ?_)
  clear hmid hml2 hlow hms hop hol hoa hW hR
  obtain ⟨t, ⟨aO3, cO3, aC3, cC3⟩, ℓ, j⟩ := q
  obtain ⟨hj, hmid⟩ := hq
  dsimp only at *
  have hti := hmid.inv
  have htl := Inv_metle hti
  have hml2 := metL_len n t.met
  have hlow : (zs t.low).length = n := by rw [zs_len, hti.lowl]; exact hen
  have hdl := doneL_len n t.comps
  have hkz := zs_len (kids e f)
  have hkl := hK f
  have hlf := zs_get hmid.lowf
  have hmf := metL_get (M := t.met) hf
  by_cases hlt : j < (kids e f).length
  · obtain ⟨g, hgj⟩ := get_lt hlt
    have hgk := List.mem_of_getElem? hgj
    have hgn : g < n := by have := hE f g hgk; omega
    have hgz := zs_get hgj
    have htk : (kids e f).take j ++ [g] = (kids e f).take (j + 1) := by rw [List.take_add_one, hgj]; rfl
    have hmg := metL_get (M := t.met) hgn
    have hdg := doneL_get (C := t.comps) hgn
    by_cases hgm : g ∈ t.met
    · have hng := num_pos hgm
      by_cases hgd : g ∈ t.comps.flatten
      · have hgd' := Classical.not_not.2 hgd
        have hnext := hmid.done hgd
        rw [htk] at hnext
        refine GX.wR ?_; intros
        exact again ⟨t, ⟨aO3, cO3, aC3, cC3⟩, ℓ, j + 1⟩ ⟨rfl, rfl, rfl, rfl, rfl, trivial⟩ ⟨by dsimp only; omega, hnext⟩ (by dsimp only; omega)
      · have hnext := hmid.open_ (by omega) hgk ⟨hgm, hgd⟩
        rw [htk] at hnext
        have hst : (zs t.low).set f (min (ℓ : Int) (num t.met g : Int)) = zs (lowS t f (min ℓ (num t.met g))).low := by
          rw [show min (ℓ : Int) (num t.met g : Int) = ((min ℓ (num t.met g) : Nat) : Int) by omega, zs_set]; rfl
        refine GX.wR ?_; intros
        refine GX.drawn3 (RowR p 49 _) (GX.Own 3 Ty.int (some ⟨bm, 0, none⟩) n (metL n t.met)) (GX.Own 3 Ty.int (some ⟨bl, 0, none⟩) n (zs t.low)) (fun j => !(List.contains [21] j)) [(0, true), (1, true), (2, true), (3, true), (4, true), (5, true), (6, true), (7, true), (8, true), (9, true), (10, true), (11, true), (12, true), (13, true), (14, true), (15, true), (16, true), (17, true), (18, true), (19, true), (20, true), (21, false)] rfl (by kernel_rfl) (by kernel_rfl) (by first | ((repeat (first | apply Go.GX.SelR.nil | apply Go.GX.SelR.cons | (with_reducible apply Go.GX.TakeR.head) | apply Go.GX.TakeR.tail)); done) | (repeat (first | apply Go.GX.SelR.nil | apply Go.GX.SelR.cons | apply Go.GX.TakeR.head | apply Go.GX.TakeR.tail))) ?_; intro wd F hW hR
        refine GX.wT ?_; intros
        refine GX.unpin (GX.Own 3 Ty.int (some ⟨bl, 0, none⟩) n (zs t.low)) ?_
        refine GX.wT ?_; intros
        refine GX.unpin (GX.Own 3 Ty.int (some ⟨bm, 0, none⟩) n (metL n t.met)) ?_
        refine GX.unpin (RowR p 49 _) ?_
        refine GX.wT ?_; intros
        refine GX.wR ?_; intros
        rw [hst]
        exact again ⟨lowS t f (min ℓ (num t.met g)), ⟨aO3, cO3, aC3, cC3⟩, min ℓ (num t.met g), j + 1⟩ ⟨rfl, rfl, rfl, rfl, rfl, trivial⟩ ⟨by dsimp only; omega, hnext⟩ (by dsimp only; omega)
    · have hng := num_out hgm
      have hext : s.met.length < t.met.length := by
        obtain ⟨S, hS⟩ := hmid.ext
        rw [hS, List.length_append, List.length_cons]; omega
      refine GX.wR ?_; intros
      refine GX.o (cl (ih ⟨aO3, cO3, aC3, cC3⟩ t (gray ++ [f]) g hti hgn hgm (fun x hx => by
        rcases List.mem_append.1 hx with hx | hx
        · exact (hg x hx).trans (.edge hgk)
        · simp at hx; subst hx; exact .edge hgk) (by omega)) fun r => ?_)
      obtain ⟨t2, ⟨aO4, cO4, aC4, cC4⟩, ℓg, hpost⟩ := r
      have hnext := hmid.new (by omega) hgk hgm hpost
      rw [htk] at hnext
      dsimp only
      have hlow2 : (zs t2.low).length = n := by rw [zs_len, hpost.inv.lowl]; exact hen
      have hlf2 : (zs t2.low)[f]? = some (ℓ : Int) := zs_get (by rw [hpost.low0 f hmid.fin]; exact hmid.lowf)
      have hlg2 := zs_get hpost.lowf
      have hst : (zs t2.low).set f (min (ℓ : Int) (ℓg : Int)) = zs (lowS t2 f (min ℓ ℓg)).low := by
        rw [show min (ℓ : Int) (ℓg : Int) = ((min ℓ ℓg : Nat) : Int) by omega, zs_set]; rfl
      refine GX.wR ?_; intros
      refine GX.drawn2 (RowR p 49 _) (GX.Own 3 Ty.int (some ⟨bl, 0, none⟩) n (zs t2.low)) (fun j => !(List.contains [21] j)) [(0, true), (1, true), (2, true), (3, true), (4, true), (5, true), (6, true), (7, true), (8, true), (9, true), (10, true), (11, true), (12, true), (13, true), (14, true), (15, true), (16, true), (17, true), (18, true), (19, true), (20, true), (21, false)] rfl (by kernel_rfl) (by kernel_rfl) (by first | ((repeat (first | apply Go.GX.SelR.nil | apply Go.GX.SelR.cons | (with_reducible apply Go.GX.TakeR.head) | apply Go.GX.TakeR.tail)); done) | (repeat (first | apply Go.GX.SelR.nil | apply Go.GX.SelR.cons | apply Go.GX.TakeR.head | apply Go.GX.TakeR.tail))) ?_; intro wd F hW hR
      refine GX.wT ?_; intros
      refine GX.unpin (GX.Own 3 Ty.int (some ⟨bl, 0, none⟩) n (zs t2.low)) ?_
      refine GX.wT ?_; intros
      refine GX.unpin (RowR p 49 _) ?_
      refine GX.wT ?_; intros
      refine GX.wR ?_; intros
      rw [hst]
      exact again ⟨lowS t2 f (min ℓ ℓg), ⟨aO4, cO4, aC4, cC4⟩, min ℓ ℓg, j + 1⟩ ⟨rfl, rfl, rfl, rfl, rfl, trivial⟩ ⟨by dsimp only; omega, hnext⟩ (by dsimp only; omega)
  · rw [List.take_of_length_le (by omega)] at hmid
    have hnf := hmid.numf
    have h0l := hi.less (by omega) hm
    refine GX.wR ?_; intros
    refine GX.drawn3 (RowR p 49 _) (GX.Own 3 Ty.int (some ⟨bm, 0, none⟩) n (metL n t.met)) (GX.Own 3 Ty.int (some ⟨bl, 0, none⟩) n (zs t.low)) (fun j => !(List.contains [] j)) [(0, true), (1, true), (2, true), (3, true), (4, true), (5, true), (6, true), (7, true), (8, true), (9, true), (10, true), (11, true), (12, true), (13, true), (14, true)] rfl (by kernel_rfl) (by kernel_rfl) (by first | ((repeat (first | apply Go.GX.SelR.nil | apply Go.GX.SelR.cons | (with_reducible apply Go.GX.TakeR.head) | apply Go.GX.TakeR.tail)); done) | (repeat (first | apply Go.GX.SelR.nil | apply Go.GX.SelR.cons | apply Go.GX.TakeR.head | apply Go.GX.TakeR.tail))) ?_; intro wd F hW hR
    refine GX.wT ?_; intros
    refine GX.unpin (GX.Own 3 Ty.int (some ⟨bl, 0, none⟩) n (zs t.low)) ?_
    refine GX.unpin (GX.Own 3 Ty.int (some ⟨bm, 0, none⟩) n (metL n t.met)) ?_
    refine GX.unpin (RowR p 49 _) ?_
    refine GX.wT ?_; intros
    by_cases hl : ℓ = s.met.length + 1
    · subst hl
      obtain ⟨A, B, h1, h2, h3, h4, h5⟩ := hmid.split (by omega)
      have hpost := hmid.ends h0l (by omega) hi
      refine GX.wR ?_; intros
      refine GX.o (cl (ends_spec p bm bl bd n aE cE ⟨aO3, cO3, aC3, cC3⟩ t e f A B hf h1 h2 h3 h4 h5 hen hn (by have := opn_len t; omega) (by have := Inv_compsle hti; omega)) fun r => ?_)
      refine GX.wR ?_; intros
      exact en0 (⟨endS e t f, r, s.met.length + 1, hpost⟩ : FrR e gray f s)
    · have hpost := hmid.stays h0l hl
      refine GX.wR ?_; intros
      exact en0 (⟨stayS t f, ⟨aO3, cO3, aC3, cC3⟩, ℓ, hpost⟩ : FrR e gray f s)
end Go.Proofs.Ytkfbchefealfoaa
