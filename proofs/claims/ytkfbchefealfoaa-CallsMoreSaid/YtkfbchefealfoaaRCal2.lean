/- The walks over walk and Comps of the reference of chapter 17. -/
import Derived.Test.YtkfbchefealfoaaRCal1
import Derived.Test.YtkfbchefealfoaaDfsM
import Derived.Test.YtkfbchefealfoaaCal3
import Derived.Test.YtkfbchefealfoaaPutR
namespace Go.Proofs.Ytkfbchefealfoaa
open Go Go.RR Go.RX Go.GX Go.Api Go.CalM Go.TarM Go.RiseM
attribute [local irreducible] wpList Code.wp wpPlan Exit.then Exit.inBlock bodyPost NoPanic Went GX.Post GX.Again GX.Meet GX.RowR GX.Own GX.Owns GX.Box GX.Sl GX.Pt GX.Ag GX.MapR GX.Kept GX.Pin wpT GoK AtEnd Both

structure WH where
  aM : Option Addr
  cM : Nat
  aL : Option Addr
  cL : Nat
structure WkS where
  c : WH
  j : Nat
set_option maxHeartbeats 4000000 in
theorem walk_spec (p n : Nat) (aE : Option Addr) (cE : Nat) (e : List (List Nat)) (hen : e.length = n) (hn : n ≤ 1000) (hE : ∀ x, ∀ y ∈ kids e x, y < e.length) (hK : ∀ x, (kids e x).length ≤ 100000) : ∀ (k : Nat) (c : WH) (s : List Nat × List Nat) (f : Nat), MetOk e s.1 → s.2.length ≤ s.1.length → f < n → f ∉ s.1 → n ≤ s.1.length + k →
    Does Try.prog 21 [.pointer (some ⟨p, 0, none⟩), .int .i64 (f : Int)] [Sl (Ty.slice Ty.int) aE cE (e.map zs)] [RowR p 55 [.slice aE n cE, .slice c.aM (zs s.1).length c.cM, .slice c.aL (zs s.2).length c.cL], Own 3 Ty.int c.aM c.cM (zs s.1), Own 3 Ty.int c.aL c.cL (zs s.2)] (fun _ : WH => .tuple #[]) (fun _ => []) (fun r => [RowR p 55 [.slice aE n cE, .slice r.aM (zs (dfs e k f s).1).length r.cM, .slice r.aL (zs (dfs e k f s).2).length r.cL], Own 3 Ty.int r.aM r.cM (zs (dfs e k f s).1), Own 3 Ty.int r.aL r.cL (zs (dfs e k f s).2)]) := by
  intro k
  induction k with
  | zero =>
    intro c s f hi hl hf hm hk
    have := (hi.snoc (show f < e.length by omega) hm).le
    rw [List.length_append, List.length_singleton] at this; omega
  | succ k ih =>
  intro c s f hi hl hf hm hk
  refine enter Try.func21 rfl Try.ntmps21 rfl fun b => ?_
  obtain ⟨aM, cM, aL, cL⟩ := c
  dsimp only
  have hml := hi.le
  have hEl : (e.map zs).length = n := by rw [List.length_map]; exact hen
  have hkg := kids_get (f := f) (e := e) (by omega)
  have hzl : (zs s.1).length ≤ 1000 := by rw [zs_len]; omega
  have hoa : zs s.1 ++ [(f : Int)] = zs (fo e k f s 0).1 := by rw [fo_zero, zs_app, zs_one]
  refine GX.wR ?_; intros
  rw [hoa, show s.2 = (fo e k f s 0).2 from rfl]
  refine GX.nmS 12 ?_; rintro aM2 cM2 rfl rfl
  refine GX.loop (σ := WkS) (fun q => [(0, .pointer (some ⟨p, 0, none⟩)), (1, .int .i64 (f : Int)), (4, .int .i64 (q.j : Int))]) (fun _ => [])
    (fun q => [RowR p 55 [.slice aE n cE, .slice q.c.aM (zs (fo e k f s q.j).1).length q.c.cM, .slice q.c.aL (zs (fo e k f s q.j).2).length q.c.cL], Own 3 Ty.int q.c.aM q.c.cM (zs (fo e k f s q.j).1), Own 3 Ty.int q.c.aL q.c.cL (zs (fo e k f s q.j).2)]) (fun q => q.j ≤ (kids e f).length) (fun q => (kids e f).length - q.j) ⟨⟨aM2, cM2, aL, cL⟩, 0⟩ ⟨rfl, rfl, rfl, trivial⟩ (Nat.zero_le _) (fun q hj => ?_)
  clear hoa hzl
  obtain ⟨⟨aM3, cM3, aL3, cL3⟩, j⟩ := q
  dsimp only at *
  obtain ⟨hok, hext⟩ := fo_ok hE (k := k) hi (show f < e.length by omega) hm j
  have hfl := fo_len e k f s j
  obtain ⟨t, ht⟩ : ∃ t, t = fo e k f s j := ⟨_, rfl⟩
  rw [← ht] at hok hext hfl ⊢
  have htl := hok.le
  have hkz := zs_len (kids e f)
  have hkl := hK f
  by_cases hlt : j < (kids e f).length
  · obtain ⟨g, hgj⟩ := get_lt hlt
    have hgk := List.mem_of_getElem? hgj
    have hgn : g < n := by have := hE f g hgk; omega
    have hgz := zs_get hgj
    have hst := fo_succ (k := k) (s := s) hgj
    rw [← ht] at hst
    refine GX.wR ?_; intros
    refine GX.drawn2 (RowR p 55 _) (Own 3 Ty.int aM3 cM3 (zs t.1)) (fun j => !(List.contains [14] j)) [(0, true), (1, true), (2, true), (3, true), (4, true), (5, true), (6, true), (7, true), (8, true), (9, true), (10, true), (11, true), (12, true), (13, true), (14, false), (15, true)] rfl (by kernel_rfl) (by kernel_rfl) (by first | ((repeat (first | apply Go.GX.SelR.nil | apply Go.GX.SelR.cons | (with_reducible apply Go.GX.TakeR.head) | apply Go.GX.TakeR.tail)); done) | (repeat (first | apply Go.GX.SelR.nil | apply Go.GX.SelR.cons | apply Go.GX.TakeR.head | apply Go.GX.TakeR.tail))) ?_; intro wd F hW hR
    refine GX.wT ?_; intros
    refine GX.unpin (Own 3 Ty.int aM3 cM3 (zs t.1)) ?_
    refine GX.gow ?_
    refine (cl ((in_spec aM3 cM3 (zs t.1) (g : Int)).lend (t := 3)) fun _ => ?_)
    refine GX.unpin (RowR p 55 _) ?_
    by_cases hgm : g ∈ t.1
    · have hgz2 := zs_mem.2 hgm
      have hgz3 := Classical.not_not.2 hgz2
      have hst2 : fo e k f s (j + 1) = t := by rw [hst]; unfold TarM.step; rw [if_pos hgm]
      refine GX.wT ?_; intros
      refine GX.wR ?_; intros
      rw [← hst2]
      exact again ⟨⟨aM3, cM3, aL3, cL3⟩, j + 1⟩ ⟨rfl, rfl, rfl, trivial⟩ (by dsimp only; omega) (by dsimp only; omega)
    · have hgz2 : ¬ (g : Int) ∈ zs t.1 := fun h => hgm (zs_mem.1 h)
      have hst2 : fo e k f s (j + 1) = dfs e k g t := by rw [hst]; unfold TarM.step; rw [if_neg hgm]
      have htm : s.1.length + 1 ≤ t.1.length := by
        obtain ⟨S, hS⟩ := hext
        rw [hS, List.length_append, List.length_append, List.length_singleton]; omega
      refine GX.wT ?_; intros
      refine GX.wR ?_; intros
      refine GX.o (cl (ih ⟨aM3, cM3, aL3, cL3⟩ t g hok (by omega) hgn hgm (by omega)) fun r => ?_)
      obtain ⟨aM4, cM4, aL4, cL4⟩ := r
      dsimp only
      rw [← hst2]
      refine GX.wR ?_; intros
      exact again ⟨⟨aM4, cM4, aL4, cL4⟩, j + 1⟩ ⟨rfl, rfl, rfl, trivial⟩ (by dsimp only; omega) (by dsimp only; omega)
  · have hall := fo_all (k := k) (f := f) (s := s) (e := e) (j := j) (by omega)
    rw [← ht] at hall
    have hzl : (zs t.2).length ≤ 1000 := by rw [zs_len]; omega
    have hoa : zs t.2 ++ [(f : Int)] = zs (t.2 ++ [f]) := by rw [zs_app, zs_one]
    rw [hall]
    refine GX.wR ?_; intros
    refine GX.nmS 62 ?_; rintro a6 c6 rfl rfl
    rw [hoa]
    exact en0 (⟨aM3, cM3, a6, c6⟩ : WH)
structure RcS where
  c : WH
  i : Nat
structure RlS where
  ao : Option Addr
  cap : Nat
  i : Nat
structure RiS where
  ao : Option Addr
  cap : Nat
  l : List Int
  j : Nat
  fst : Nat
theorem leadT_rowl {e : List (List Nat)} {f : Nat} (h : f < e.length) : (row (leadT e) f).length = e.length := by
  unfold row leadT; rw [List.getElem?_map, List.getElem?_range h]; simp
theorem lead_yes {e : List (List Nat)} {f g : Nat} (hf : f < e.length) (hg : g < e.length) (h : R e f g) : (row (leadT e) f)[g]? = some true := by rw [leadT_at hf hg]; simp [h]
theorem lead_no {e : List (List Nat)} {f g : Nat} (hf : f < e.length) (hg : g < e.length) (h : ¬ R e f g) : (row (leadT e) f)[g]? = some false := by rw [leadT_at hf hg]; simp [h]
/-- What is gathered behind j. -/
structure Gat (e : List (List Nat)) (f : Nat) (M : List Nat) (l : List Int) (j : Nat) : Prop where
  rise : Rise l
  len : l.length + j ≤ M.length
  mem : ∀ y, y ∈ l ↔ ∃ g ∈ M.drop j, y = (g : Int) ∧ R e f g ∧ R e g f
theorem drop_at {M : List Nat} {j g : Nat} (h : M[j]? = some g) : M.drop j = g :: M.drop (j + 1) := by
  rw [List.drop_eq_getElem_cons (List.getElem?_eq_some_iff.1 h).1, (List.getElem?_eq_some_iff.1 h).2]
theorem Gat.yes {e : List (List Nat)} {f : Nat} {M : List Nat} {l : List Int} {j g : Nat} (h : Gat e f M l (j + 1)) (hg : M[j]? = some g) (hr : R e f g ∧ R e g f) : Gat e f M (put l g) j where
  rise := h.rise.put _
  len := by have := put_len l g; have := h.len; omega
  mem := fun y => by
    rw [put_mem, h.mem, drop_at hg]
    constructor
    · rintro (rfl | ⟨a, h1, h2⟩)
      · exact ⟨g, by simp, rfl, hr⟩
      · exact ⟨a, by simp [h1], h2⟩
    · rintro ⟨a, h1, h2⟩
      rcases List.mem_cons.1 h1 with rfl | h1
      · exact .inl h2.1
      · exact .inr ⟨a, h1, h2⟩
theorem Gat.no {e : List (List Nat)} {f : Nat} {M : List Nat} {l : List Int} {j g : Nat} (h : Gat e f M l (j + 1)) (hg : M[j]? = some g) (hr : ¬ (R e f g ∧ R e g f)) : Gat e f M l j where
  rise := h.rise
  len := by have := h.len; omega
  mem := fun y => by
    rw [h.mem, drop_at hg]
    constructor
    · rintro ⟨a, h1, h2⟩; exact ⟨a, by simp [h1], h2⟩
    · rintro ⟨a, h1, h2⟩
      rcases List.mem_cons.1 h1 with rfl | h1
      · exact absurd h2.2 hr
      · exact ⟨a, h1, h2⟩
theorem Gat.all {e : List (List Nat)} {f : Nat} {M : List Nat} {l : List Int} (h : Gat e f M l 0) (hok : MetOk e M) (hall : ∀ g, g < e.length → g ∈ M) : l = zs (scc e f) := by
  refine Rise.eq h.rise (scc_rise e f) fun y => ?_
  rw [h.mem, zs_mem', List.drop_zero]
  constructor
  · rintro ⟨g, h1, h2, h3⟩; exact ⟨g, h2, scc_mem.2 ⟨hok.2 g h1, h3⟩⟩
  · rintro ⟨g, h1, h2⟩
    have := scc_mem.1 h2
    exact ⟨g, hall g this.1, h1, this.2⟩
set_option maxHeartbeats 4000000 in
theorem rcomps_spec (cs : List Value) (x : IR) (hx : FewI x) : Does Try.prog 15 [.agg cs.toArray] [Ag tyIR cs x] []
    (fun s : Option Addr × Nat => .slice s.1 ((comps0 (gr x)).map zs).length s.2) (fun s => [Sl (Ty.slice Ty.int) s.1 s.2 ((comps0 (gr x)).map zs)]) (fun _ => []) := by
  refine enter Try.func15 rfl Try.ntmps15 rfl fun b => ?_
  have hxl := hx.1
  obtain ⟨n, hn⟩ : ∃ n, n = x.codes.length := ⟨_, rfl⟩
  have hgn : (gr x).length = n := by rw [gr_len, hn]
  have hel : (edges x).length = n := by rw [edges_len, hn]
  have hE := gr_kids x
  refine GX.wR ?_; intros
  refine GX.nmA 14 ?_; rintro c14 rfl
  have hEd := redges_spec c14 x hx
  rw [hel, ← gr_zs] at hEd
  refine GX.o (cl hEd fun s => ?_)
  obtain ⟨aE, cE⟩ := s
  dsimp only
  refine GX.wR ?_; intros
  refine GX.o (cl (leads_spec aE cE n (gr x) hgn (by omega) hE (gr_few hx.2)) fun s => ?_)
  obtain ⟨aT, cT⟩ := s
  dsimp only
  refine GX.wR ?_; intros
  refine GX.nmP 5 ?_; rintro p rfl
  refine ownNil 3 Ty.int ?_
  refine ownNil 3 Ty.int ?_
  refine GX.loop (σ := RcS) (fun q => [(3, .slice aE n cE), (4, .slice aT n cT), (5, .pointer (some ⟨p, 0, none⟩)), (6, .int .i64 (q.i : Int))]) (fun _ => []) (fun q => [RowR p 55 [.slice aE n cE, .slice q.c.aM (zs (topN (gr x) q.i).1).length q.c.cM, .slice q.c.aL (zs (topN (gr x) q.i).2).length q.c.cL], Own 3 Ty.int q.c.aM q.c.cM (zs (topN (gr x) q.i).1), Own 3 Ty.int q.c.aL q.c.cL (zs (topN (gr x) q.i).2)])
    (fun q => q.i ≤ n) (fun q => n - q.i) ⟨⟨none, 0, none, 0⟩, 0⟩ ⟨rfl, rfl, rfl, rfl, trivial⟩ (Nat.zero_le _) (fun q hi => ?_)
  obtain ⟨⟨aM, cM, aL, cL⟩, i⟩ := q
  dsimp only at *
  obtain ⟨hok, hlen, hall⟩ := topN_ok hE i (by omega)
  obtain ⟨t, ht⟩ : ∃ t, t = topN (gr x) i := ⟨_, rfl⟩
  have hsucc := topN_succ (gr x) i
  rw [← ht] at hok hlen hall hsucc ⊢
  have htl := hok.le
  by_cases hlt : i < n
  · refine GX.wR ?_; intros
    refine GX.o (cl ((in_spec aM cM (zs t.1) (i : Int)).lend (t := 3)) fun _ => ?_)
    by_cases him : i ∈ t.1
    · have hz := zs_mem.2 him
      have hz2 := Classical.not_not.2 hz
      have hst : topN (gr x) (i + 1) = t := by rw [hsucc]; unfold TarM.step; rw [if_pos him]
      refine GX.wR ?_; intros
      rw [← hst]
      exact again ⟨⟨aM, cM, aL, cL⟩, i + 1⟩ ⟨rfl, rfl, rfl, rfl, trivial⟩ (by dsimp only; omega) (by dsimp only; omega)
    · have hz : ¬ (i : Int) ∈ zs t.1 := fun h => him (zs_mem.1 h)
      have hst : topN (gr x) (i + 1) = dfs (gr x) n i t := by rw [hsucc]; unfold TarM.step; rw [if_neg him, hgn]
      refine GX.wR ?_; intros
      refine GX.o (cl (walk_spec p n aE cE (gr x) hgn (by omega) hE (gr_few hx.2) n ⟨aM, cM, aL, cL⟩ t i hok (by omega) hlt him (by omega)) fun r => ?_)
      obtain ⟨aM2, cM2, aL2, cL2⟩ := r
      dsimp only
      rw [← hst]
      refine GX.wR ?_; intros
      exact again ⟨⟨aM2, cM2, aL2, cL2⟩, i + 1⟩ ⟨rfl, rfl, rfl, rfl, trivial⟩ (by dsimp only; omega) (by dsimp only; omega)
  · obtain rfl : n = i := by omega
    refine frz aM ?_
    refine frz aL ?_
    obtain ⟨M, L⟩ := t
    dsimp only at *
    have hzL := zs_len L
    have hzM := zs_len M
    have hLin : ∀ f ∈ L, f ∈ M := by have := topN_sub (gr x) n; rw [← ht] at this; exact this
    refine GX.wR ?_; intros
    refine ownNil 34 (Ty.slice Ty.int) ?_
    refine GX.loop (σ := RlS) (fun q => [(4, .slice aT n cT), (5, .pointer (some ⟨p, 0, none⟩)), (7, .slice q.ao ((compsOf (gr x) M (L.take q.i)).map zs).length q.cap), (8, .int .i64 (q.i : Int))]) (fun _ => [])
      (fun q => [RowR p 55 [.slice aE n cE, .slice aM (zs M).length cM, .slice aL (zs L).length cL], Own 34 (Ty.slice Ty.int) q.ao q.cap ((compsOf (gr x) M (L.take q.i)).map zs)])
      (fun q => q.i ≤ L.length) (fun q => L.length - q.i) ⟨none, 0, 0⟩ ⟨rfl, rfl, rfl, rfl, trivial⟩ (Nat.zero_le _) (fun q hi => ?_)
    obtain ⟨ao, cap, i⟩ := q
    dsimp only at *
    by_cases hiL : i < L.length
    · obtain ⟨f, hf⟩ := get_lt hiL
      have hfz := zs_get hf
      have hfM := hLin f (List.mem_of_getElem? hf)
      have hfn : f < n := by have := hok.2 f hfM; omega
      have htk : L.take (i + 1) = L.take i ++ [f] := by rw [List.take_add_one, hf]; rfl
      have hcl : ((compsOf (gr x) M (L.take i)).map zs).length ≤ 1000 := by
        have h1 : (compsOf (gr x) M (L.take i)).length ≤ (L.take i).length := by unfold compsOf; rw [List.length_map]; exact List.length_filter_le _ _
        rw [List.length_map]
        rw [List.length_take] at h1; omega
      have hg0 : Gat (gr x) f M [] (zs M).length := ⟨List.Pairwise.nil, by simp; omega, fun y => by rw [hzM, List.drop_length]; simp⟩
      have hf0 : f = firstOf (gr x) f M (zs M).length := by rw [hzM, firstOf_end]
      refine GX.wR ?_; intros
      refine slNil Ty.int ?_
      refine GX.loop (σ := RiS) (fun q => [(4, .slice aT n cT), (5, .pointer (some ⟨p, 0, none⟩)), (7, .slice ao ((compsOf (gr x) M (L.take i)).map zs).length cap), (8, .int .i64 (i : Int)), (9, .int .i64 (f : Int)), (10, .slice q.ao q.l.length q.cap), (11, .int .i64 (q.fst : Int)), (12, .int .i64 ((q.j : Int) - 1))]) (fun q => [Sl Ty.int q.ao q.cap q.l])
        (fun q => [RowR p 55 [.slice aE n cE, .slice aM (zs M).length cM, .slice aL (zs L).length cL], Own 34 (Ty.slice Ty.int) ao cap ((compsOf (gr x) M (L.take i)).map zs)])
        (fun q => Gat (gr x) f M q.l q.j ∧ q.fst = firstOf (gr x) f M q.j) (fun q => q.j) ⟨none, 0, [], (zs M).length, f⟩ ⟨rfl, rfl, rfl, rfl, rfl, rfl, rfl, rfl, trivial⟩ ⟨hg0, hf0⟩ (fun q hq => ?_)
      clear hg0 hf0
      obtain ⟨ac, cc, l, j, fst⟩ := q
      obtain ⟨hg, hfst⟩ := hq
      dsimp only at *
      have hgl := hg.len
      cases j with
      | zero =>
        have hle := hg.all hok (by rw [hgn]; exact hall)
        have hroot := firstOf_root (e := gr x) hfM
        rw [← hfst] at hroot
        subst hle
        by_cases hff : fst = f
        · have hcs := compsOf_snoc (L := L.take i) (hroot.1 hff)
          have e1 : (compsOf (gr x) M (L.take i)).map zs ++ [zs (scc (gr x) f)] = (compsOf (gr x) M (L.take (i + 1))).map zs := by rw [htk, hcs]; simp
          refine GX.wR ?_; intros
          refine GX.nmS 97 ?_; rintro a9 c9 rfl rfl
          rw [e1]
          exact again ⟨a9, c9, i + 1⟩ ⟨rfl, rfl, rfl, rfl, trivial⟩ (by dsimp only; omega) (by dsimp only; omega)
        · have hcs := compsOf_skip (L := L.take i) (fun h => hff (hroot.2 h))
          refine GX.wR ?_; intros
          rw [← hcs, ← htk]
          exact again ⟨ao, cap, i + 1⟩ ⟨rfl, rfl, rfl, rfl, trivial⟩ (by dsimp only; omega) (by dsimp only; omega)
      | succ j =>
        obtain ⟨g, hgj⟩ := get_lt (show j < M.length by omega)
        have hgz := zs_get hgj
        have hgn2 : g < n := by have := hok.2 g (List.mem_of_getElem? hgj); omega
        have hrf := leadT_get (e := gr x) (f := f) (by omega)
        have hrg := leadT_get (e := gr x) (f := g) (by omega)
        have hf' : f < (gr x).length := by omega
        have hg' : g < (gr x).length := by omega
        have hTl := leadT_len (gr x)
        have hrfl : (row (leadT (gr x)) f).length = n := by rw [leadT_rowl (by omega), hgn]
        have hrgl : (row (leadT (gr x)) g).length = n := by rw [leadT_rowl (by omega), hgn]
        have edec : ((j + 1 : Nat) : Int) - 1 - 1 = (j : Int) - 1 := by omega
        by_cases h1 : R (gr x) f g
        · have hfg := lead_yes hf' hg' h1
          by_cases h2 : R (gr x) g f
          · have hgf := lead_yes hg' hf' h2
            have hgat := hg.yes hgj ⟨h1, h2⟩
            have hfs := firstOf_yes hgj (e := gr x) (f := f) ⟨h1, h2⟩
            refine GX.wR ?_; intros
            refine GX.o (cl (put_spec ac cc l (g : Int) hg.rise (by omega)) fun s => ?_)
            obtain ⟨ac2, cc2⟩ := s
            dsimp only
            refine GX.wR ?_; intros
            rw [edec]
            exact again ⟨ac2, cc2, put l g, j, g⟩ ⟨rfl, rfl, rfl, rfl, rfl, rfl, rfl, rfl, trivial⟩ ⟨hgat, hfs.symm⟩ (by dsimp only; omega)
          · have hgf := lead_no hg' hf' h2
            have hgat := hg.no hgj (fun h => h2 h.2)
            have hfs := firstOf_no hgj (e := gr x) (f := f) (fun h => h2 h.2)
            refine GX.wR ?_; intros
            rw [edec]
            exact again ⟨ac, cc, l, j, fst⟩ ⟨rfl, rfl, rfl, rfl, rfl, rfl, rfl, rfl, trivial⟩ ⟨hgat, hfst.trans hfs.symm⟩ (by dsimp only; omega)
        · have hfg := lead_no hf' hg' h1
          have hgat := hg.no hgj (fun h => h1 h.1)
          have hfs := firstOf_no hgj (e := gr x) (f := f) (fun h => h1 h.1)
          refine GX.wR ?_; intros
          rw [edec]
          exact again ⟨ac, cc, l, j, fst⟩ ⟨rfl, rfl, rfl, rfl, rfl, rfl, rfl, rfl, trivial⟩ ⟨hgat, hfst.trans hfs.symm⟩ (by dsimp only; omega)
    · rw [List.take_of_length_le (by omega)]
      refine GX.wR ?_; intros
      refine frz ao ?_
      have he : compsOf (gr x) M L = comps0 (gr x) := by unfold comps0; rw [hgn, ← ht]
      rw [he]
      exact rt1 (ao, cap) rfl
end Go.Proofs.Ytkfbchefealfoaa
