import Derived.Test.YtkagjpkgboeaiaaQ1
import Derived.Test.YtkagjpkgboeaiaaQ2
import Derived.Test.YtkagjpkgboeaiaaQ3
import Derived.Test.YtkagjpkgboeaiaaQ4
import Derived.Test.YtkagjpkgboeaiaaQ5
import Derived.Test.YtkagjpkgboeaiaaQ6
import Derived.Test.YtkagjpkgboeaiaaQ7
import Derived.Test.YtkagjpkgboeaiaaQ8
import Derived.Test.YtkagjpkgboeaiaaQ9
import Derived.Test.YtkagjpkgboeaiaaQ10
import Derived.Test.YtkagjpkgboeaiaaQ11
import Derived.Test.YtkagjpkgboeaiaaQ12
import Derived.Test.YtkagjpkgboeaiaaQ13
import Derived.Test.YtkagjpkgboeaiaaQ14
import Derived.Test.YtkagjpkgboeaiaaQ15
import Derived.Test.YtkagjpkgboeaiaaQ16
import Derived.Test.YtkagjpkgboeaiaaQ17
import Derived.Test.YtkagjpkgboeaiaaQ18
import Derived.Test.YtkagjpkgboeaiaaQ19
import Derived.Test.YtkagjpkgboeaiaaQ20
import Derived.Test.YtkagjpkgboeaiaaQ21
import Derived.Test.YtkagjpkgboeaiaaQ22
/- SolveMore: for all numbers, constraints and one more the law returns true; its arguments read as before. No condition. -/
namespace Go.SolM
open Go.Api Go.RiseM
/-- One more constraint leaves no less. -/
structure More (p q : Points) (c : Con) : Prop where
  n : p.nodes.length = q.nodes.length
  s : p.fields.length = q.fields.length
  sub : ∀ (i : Nat) x y, p.nodes[i]? = some x → q.nodes[i]? = some y → SubL x y
  row : ∀ (i : Nat) r t, p.fields[i]? = some r → q.fields[i]? = some t → r.length = t.length ∧ ∀ (j : Nat) x y, r[j]? = some x → t[j]? = some y → SubL x y
  fin : (p.nodes = q.nodes ∧ p.fields = q.fields) ↔ FitsP p [c]
theorem map_get {α : Type} {f : Nat → α} {m i : Nat} {x : α} (h : ((List.range m).map f)[i]? = some x) : i < m ∧ x = f i := by
  have hi := (List.getElem?_eq_some_iff.1 h).1
  rw [List.length_map, List.length_range] at hi
  rw [List.getElem?_map, List.getElem?_range hi] at h
  exact ⟨hi, (Option.some.inj h).symm⟩
theorem pts_ext {p q : Points} (h1 : p.nodes = q.nodes) (h2 : p.fields = q.fields) : p = q := by
  obtain ⟨a, b⟩ := p
  obtain ⟨a', b'⟩ := q
  dsimp only at h1 h2
  rw [h1, h2]
theorem list_sub {d : Dim} {l m : List Con} (h : ∀ c ∈ l, c ∈ m) (n : Nat) : SubL (listOf d l n) (listOf d m n) := fun z hz => by
  rw [listOf_mem] at hz ⊢
  obtain ⟨s, h1, h2, h3⟩ := hz
  exact ⟨s, h1, h2, in_mono h h3⟩
theorem more_of {d : Dim} {l : List Con} {c : Con} (hl : ∀ x ∈ l, May d x) (hc : May d c) : More (pts d l) (pts d (l ++ [c])) c := by
  have hm : ∀ x ∈ l, x ∈ l ++ [c] := fun x hx => by simp [hx]
  refine ⟨by simp [pts], by simp [pts], fun i x y hx hy => ?_, fun i r t hr ht => ?_, ?_⟩
  · obtain ⟨_, rfl⟩ := map_get hx
    obtain ⟨_, rfl⟩ := map_get hy
    exact list_sub hm i
  · obtain ⟨_, rfl⟩ := map_get hr
    obtain ⟨_, rfl⟩ := map_get ht
    refine ⟨by simp [fieldsOf], fun j x y hx hy => ?_⟩
    obtain ⟨_, rfl⟩ := map_get hx
    obtain ⟨_, rfl⟩ := map_get hy
    exact list_sub hm _
  · have : FitsP (pts d l) [c] ↔ FitP (pts d l) c := by simp [FitsP]
    rw [this, ← pts_more hl hc]
    constructor
    · rintro ⟨h1, h2⟩
      exact pts_ext h1 h2
    · intro h; rw [← h]; exact ⟨rfl, rfl⟩
end Go.SolM
namespace Go.Proofs.Ytkagjpkgboeaiaa
open Go Go.RR Go.RX Go.GX Go.Api Go.RiseM Go.SolM Go.ChangeShapes Go.WideShapes Go.ChangeAt Go.RowKit
attribute [local irreducible] wpList Code.wp wpPlan Exit.then Exit.inBlock bodyPost NoPanic Went GX.Post GX.Again GX.Meet GX.RowR GX.Own GX.Owns GX.Box GX.Sl GX.Pt GX.Ag GX.MapR GX.Kept GX.Pin wpT GoK AtEnd Both
theorem ptsR_more {N S W : Int} {l : List Con} {c : Con} (a : PtsR N S W l) (b : PtsR N S W (l ++ [c])) : a.y = 5 ∧ b.y = 5 ∨ a.y = 0 ∧ b.y = 5 ∨ a.y = 0 ∧ b.y = 0 ∧ More a.p b.p c := by
  rcases a.h with ⟨h1, h2, h3⟩ | ⟨h1, h2, h3⟩ <;> rcases b.h with ⟨g1, g2, g3⟩ | ⟨g1, g2, g3⟩
  · refine .inr (.inr ⟨h2, g2, ?_⟩)
    rw [h3, g3]
    exact more_of h1.2 (g1.2 c (by simp))
  · exact .inr (.inl ⟨h2, g2⟩)
  · exact absurd ⟨g1.1, fun x hx => g1.2 x (by simp [hx])⟩ h1
  · exact .inl ⟨h2, g2⟩
set_option maxHeartbeats 4000000 in
theorem solveMore_does (N : Int) (_ : I64 N) (S : Int) (_ : I64 S) (W : Int) (_ : I64 W) (ao : Option Addr) (cap : Nat) (l : List Con) (_ : ∀ x ∈ l, Con.ok x) (cs : List Value) (c : Con) (_ : Con.ok c) : Does Try.prog 7 [.int .i64 N, .int .i64 S, .int .i64 W, .slice ao l.length cap, .agg cs.toArray] [Sl tyCon ao cap l, Ag tyCon cs c] [] (fun _ : Unit => .bool true) (fun _ => []) (fun _ => []) := by
  refine enter Try.func7 rfl Try.ntmps7 rfl fun b => ?_
  refine sln ao fun h1 _ _ => ?_
  by_cases hn : 100 < N ∧ N ≤ 70000
  · obtain ⟨hn1, hn2⟩ := hn
    refine GX.wbR ?_; intros
    exact rt1 () rfl
  by_cases h60 : 60 < (l.length : Int)
  · by_cases hn1 : 100 < N
    · have hn2 : ¬ N ≤ 70000 := fun h => hn ⟨hn1, h⟩
      refine GX.wbR ?_; intros
      exact rt1 () rfl
    · refine GX.wbR ?_; intros
      exact rt1 () rfl
  refine GX.wbRN ?_; intros
  apply GX.region
  refine GX.wbRN ?_; intros
  refine GX.nmP 9 ?_; rintro b9 rfl
  refine GX.cut (σ := Unit) (fun _ => [(0, .int .i64 N), (1, .int .i64 S), (2, .int .i64 W), (3, .slice ao l.length cap), (9, .pointer (some ⟨b9, 0, none⟩)), (28, .bool false)]) (fun _ => []) (fun _ => []) (fun _ => True) ?_ (fun _ _ => ?_)
  · by_cases hn1 : 100 < N
    · have hn2 : ¬ N ≤ 70000 := fun h => hn ⟨hn1, h⟩
      refine GX.wbR ?_; intros
      exact meet () ⟨rfl, rfl, rfl, rfl, rfl, congrArg (fun b => some (Value.bool b)) (decide_eq_false h60), trivial⟩ trivial
    · refine GX.wbR ?_; intros
      exact meet () ⟨rfl, rfl, rfl, rfl, rfl, congrArg (fun b => some (Value.bool b)) (decide_eq_false h60), trivial⟩ trivial
  refine GX.wbR ?_; intros
  refine GX.o (cl (points_spec ao cap l N S W (by omega)) fun s => ?_)
  obtain ⟨cs1, p1, y1, e1⟩ := s
  dsimp only
  refine GX.wbR ?_; intros
  refine GX.nmP 11 ?_; rintro b11 rfl
  refine frzB b11 ?_
  refine GX.cut (σ := PtsR N S W (l ++ [c]) × Nat) (fun p => [(9, .pointer (some ⟨b9, 0, none⟩)), (11, .pointer (some ⟨b11, 0, none⟩)), (12, .int .i64 y1), (13, .pointer (some ⟨p.2, 0, none⟩)), (14, .int .i64 p.1.y)]) (fun p => []) (fun p => [Box 26 tyPoints p.2 p.1.p]) (fun _ => True) ?_ (fun p _ => ?_)
  · refine GX.drawnT (fun j => !(List.contains [] j)) (.br [(0, true), (1, true), (2, true), (3, true), (5, true)] (.alt 4 (.br [] (.alt 6 (.br [] (.alt 7 (.br [] (.alt 8 (.lin [(9, true), (10, true), (11, true), (12, false), (13, false), (14, true)]) (.alt 12 (.lin [(8, false), (9, true), (10, true), (11, true), (13, false), (14, true)]) .nil))) (.alt 12 (.lin [(7, false), (8, false), (9, true), (10, true), (11, true), (13, false), (14, true)]) .nil))) (.alt 12 (.lin [(6, false), (7, false), (8, false), (9, true), (10, true), (11, true), (13, false), (14, true)]) .nil))) (.alt 6 (.br [] (.alt 4 (.br [] (.alt 7 (.br [] (.alt 8 (.lin [(9, true), (10, true), (11, true), (12, false), (13, false), (14, true)]) (.alt 12 (.lin [(8, false), (9, true), (10, true), (11, true), (13, false), (14, true)]) .nil))) (.alt 12 (.lin [(7, false), (8, false), (9, true), (10, true), (11, true), (13, false), (14, true)]) .nil))) (.alt 12 (.lin [(4, false), (7, false), (8, false), (9, true), (10, true), (11, true), (13, false), (14, true)]) .nil))) (.alt 12 (.br [] (.alt 4 (.lin [(6, false), (7, false), (8, false), (9, true), (10, true), (11, true), (13, false), (14, true)]) (.alt 6 (.lin [(4, false), (7, false), (8, false), (9, true), (10, true), (11, true), (13, false), (14, true)]) .nil))) .nil)))) (by kernel_rfl) (by kernel_rfl) ?_; intro wd F hW hR
    refine GX.wbT ?_; intros
    repeat' first
      | (refine GX.treeA ?_ ?_ <;> (refine GX.wbT ?_; intros))
      | (refine GX.nmS 45 ?_; rintro a45 c45 rfl rfl; refine frz a45 ?_; refine GX.gok ?_; refine (cl (points_spec a45 c45 (l ++ [c]) N S W (by simp; omega)) fun s => ?_); obtain ⟨cs2, p2, y2, e2⟩ := s; dsimp only; refine GX.wbT ?_; intros)
      | (refine GX.nmS 45 ?_; rintro a45 c45 rfl rfl; refine frz a45 ?_; refine GX.gow ?_; refine (cl (points_spec a45 c45 (l ++ [c]) N S W (by simp; omega)) fun s => ?_); obtain ⟨cs2, p2, y2, e2⟩ := s; dsimp only; refine GX.wbT ?_; intros)
    all_goals
      refine GX.wbR ?_; intros
      refine GX.nmP 13 ?_; rintro b13 rfl
      exact meet (⟨cs2, p2, y2, e2⟩, b13) ⟨rfl, rfl, rfl, rfl, rfl, trivial⟩ trivial
  obtain ⟨⟨cs2, p2, y2, e2⟩, b13⟩ := p
  have hmore := ptsR_more ⟨cs1, p1, y1, e1⟩ ⟨cs2, p2, y2, e2⟩
  dsimp only at hmore ⊢
  refine frzB b13 ?_
  rcases hmore with ⟨rfl, rfl⟩ | ⟨rfl, rfl⟩ | ⟨rfl, rfl, hm⟩
  · refine GX.wbR ?_; intros
    refine GX.o (cl known20_spec fun _ => ?_)
    refine GX.wbR ?_; intros
    exact rt1 () rfl
  · refine GX.wbR ?_; intros
    refine GX.o (cl known20_spec fun _ => ?_)
    refine GX.wbR ?_; intros
    exact rt1 () rfl
  have hm1 := hm.n
  have hm2 := hm.s
  refine GX.wbR ?_; intros
  refine GX.loop (σ := Nat) (fun i => [(9, .pointer (some ⟨b9, 0, none⟩)), (11, .pointer (some ⟨b11, 0, none⟩)), (13, .pointer (some ⟨b13, 0, none⟩)), (15, .int .i64 (i : Int))]) (fun _ => []) (fun _ => []) (fun i => i ≤ p1.nodes.length) (fun i => p1.nodes.length - i) 0 ⟨rfl, rfl, rfl, rfl, trivial⟩ (by omega) (fun i hi => ?_)
  by_cases hlt : i < p1.nodes.length
  · obtain ⟨x, hx⟩ := get_lt hlt
    obtain ⟨y, hy⟩ := get_lt (show i < p2.nodes.length by omega)
    have hs := hm.sub i x y hx hy
    refine GX.wbR ?_; intros
    refine GX.drawn0  (fun j => !(List.contains [10] j)) [(0, true), (1, true), (2, true), (3, true), (4, true), (5, true), (6, true), (7, true), (8, true), (9, true), (10, false), (11, true)] rfl (by kernel_rfl) (by kernel_rfl) (by first | ((repeat (first | apply Go.GX.SelR.nil | apply Go.GX.SelR.cons | (with_reducible apply Go.GX.TakeR.head) | apply Go.GX.TakeR.tail)); done) | (repeat (first | apply Go.GX.SelR.nil | apply Go.GX.SelR.cons | apply Go.GX.TakeR.head | apply Go.GX.TakeR.tail))) ?_; intro wd F hW hR
    refine GX.wbT ?_; intros
    refine GX.gow ?_
    refine (cl (rAll_spec _ _ _ _ x y) fun _ => ?_)
    rw [decide_eq_true hs]
    refine GX.wbT ?_; intros
    refine GX.wbR ?_; intros
    exact again (i + 1) ⟨rfl, rfl, rfl, rfl, trivial⟩ (by omega) (by omega)
  refine GX.wbR ?_; intros
  refine GX.loop (σ := Nat) (fun i => [(9, .pointer (some ⟨b9, 0, none⟩)), (11, .pointer (some ⟨b11, 0, none⟩)), (13, .pointer (some ⟨b13, 0, none⟩)), (16, .int .i64 (i : Int))]) (fun _ => []) (fun _ => []) (fun i => i ≤ p1.fields.length) (fun i => p1.fields.length - i) 0 ⟨rfl, rfl, rfl, rfl, trivial⟩ (by omega) (fun i hi => ?_)
  by_cases hlt : i < p1.fields.length
  · obtain ⟨r, hr⟩ := get_lt hlt
    obtain ⟨t, ht⟩ := get_lt (show i < p2.fields.length by omega)
    obtain ⟨hrl, hrs⟩ := hm.row i r t hr ht
    refine GX.wbR ?_; intros
    refine GX.loop (σ := Nat) (fun j => [(9, .pointer (some ⟨b9, 0, none⟩)), (11, .pointer (some ⟨b11, 0, none⟩)), (13, .pointer (some ⟨b13, 0, none⟩)), (16, .int .i64 (i : Int)), (17, .int .i64 (j : Int))]) (fun _ => []) (fun _ => []) (fun j => j ≤ r.length) (fun j => r.length - j) 0 ⟨rfl, rfl, rfl, rfl, rfl, trivial⟩ (by omega) (fun j hj => ?_)
    by_cases hlt2 : j < r.length
    · obtain ⟨x, hx⟩ := get_lt hlt2
      obtain ⟨y, hy⟩ := get_lt (show j < t.length by omega)
      have hs := hrs j x y hx hy
      refine GX.wbR ?_; intros
      refine GX.drawn0  (fun j => !(List.contains [16] j)) [(0, true), (1, true), (2, true), (3, true), (4, true), (5, true), (6, true), (7, true), (8, true), (9, true), (10, true), (11, true), (12, true), (13, true), (14, true), (15, true), (16, false), (17, true)] rfl (by kernel_rfl) (by kernel_rfl) (by first | ((repeat (first | apply Go.GX.SelR.nil | apply Go.GX.SelR.cons | (with_reducible apply Go.GX.TakeR.head) | apply Go.GX.TakeR.tail)); done) | (repeat (first | apply Go.GX.SelR.nil | apply Go.GX.SelR.cons | apply Go.GX.TakeR.head | apply Go.GX.TakeR.tail))) ?_; intro wd F hW hR
      refine GX.wbT ?_; intros
      refine GX.gow ?_
      refine (cl (rAll_spec _ _ _ _ x y) fun _ => ?_)
      rw [decide_eq_true hs]
      refine GX.wbT ?_; intros
      refine GX.wbR ?_; intros
      exact again (j + 1) ⟨rfl, rfl, rfl, rfl, rfl, trivial⟩ (by omega) (by omega)
    refine GX.wbR ?_; intros
    exact again (i + 1) ⟨rfl, rfl, rfl, rfl, trivial⟩ (by omega) (by omega)
  refine GX.wbR ?_; intros
  by_cases hf : FitsP p1 [c]
  · have hq : decide (p1.nodes = p2.nodes ∧ p1.fields = p2.fields) = true := decide_eq_true (hm.fin.2 hf)
    have hfd : decide (FitsP p1 [c]) = true := decide_eq_true hf
    refine GX.drawnT (fun j => !(List.contains [] j)) (.br [(0, true), (1, true), (3, true), (4, true)] (.alt 2 (.lin [(5, false), (6, false), (7, true), (8, true), (9, false), (10, true), (11, true)]) (.alt 5 (.lin [(2, false), (6, false), (7, true), (8, true), (9, false), (10, true), (11, true)]) .nil))) (by kernel_rfl) (by kernel_rfl) ?_; intro wd F hW hR
    refine GX.wbT ?_; intros
    repeat' first
      | (refine GX.treeA ?_ ?_ <;> (refine GX.wbT ?_; intros))
      | (refine GX.gok ?_; refine (cl (rSamePoints_spec _ _ p1 p2) fun _ => ?_); rw [hq]; refine GX.wbT ?_; intros)
      | (refine GX.gok ?_; refine (cl (sFits_spec _ p1 _ _ [c]) fun _ => ?_); rw [hfd]; refine GX.wbT ?_; intros)
      | (refine GX.gok ?_; refine (cl known20_spec fun _ => ?_); refine GX.wbT ?_; intros)
      | (refine GX.gow ?_; refine (cl (rSamePoints_spec _ _ p1 p2) fun _ => ?_); rw [hq]; refine GX.wbT ?_; intros)
      | (refine GX.gow ?_; refine (cl (sFits_spec _ p1 _ _ [c]) fun _ => ?_); rw [hfd]; refine GX.wbT ?_; intros)
      | (refine GX.gow ?_; refine (cl known20_spec fun _ => ?_); refine GX.wbT ?_; intros)
    all_goals
      refine GX.wbR ?_; intros
      exact rt1 () rfl
  · have hq : decide (p1.nodes = p2.nodes ∧ p1.fields = p2.fields) = false := decide_eq_false fun h => hf (hm.fin.1 h)
    have hfd : decide (FitsP p1 [c]) = false := decide_eq_false hf
    refine GX.drawnT (fun j => !(List.contains [] j)) (.br [(0, true), (1, true), (3, true), (4, true)] (.alt 2 (.lin [(5, false), (6, false), (7, true), (8, true), (9, false), (10, true), (11, true)]) (.alt 5 (.lin [(2, false), (6, false), (7, true), (8, true), (9, false), (10, true), (11, true)]) .nil))) (by kernel_rfl) (by kernel_rfl) ?_; intro wd F hW hR
    refine GX.wbT ?_; intros
    repeat' first
      | (refine GX.treeA ?_ ?_ <;> (refine GX.wbT ?_; intros))
      | (refine GX.gok ?_; refine (cl (rSamePoints_spec _ _ p1 p2) fun _ => ?_); rw [hq]; refine GX.wbT ?_; intros)
      | (refine GX.gok ?_; refine (cl (sFits_spec _ p1 _ _ [c]) fun _ => ?_); rw [hfd]; refine GX.wbT ?_; intros)
      | (refine GX.gok ?_; refine (cl known20_spec fun _ => ?_); refine GX.wbT ?_; intros)
      | (refine GX.gow ?_; refine (cl (rSamePoints_spec _ _ p1 p2) fun _ => ?_); rw [hq]; refine GX.wbT ?_; intros)
      | (refine GX.gow ?_; refine (cl (sFits_spec _ p1 _ _ [c]) fun _ => ?_); rw [hfd]; refine GX.wbT ?_; intros)
      | (refine GX.gow ?_; refine (cl known20_spec fun _ => ?_); refine GX.wbT ?_; intros)
    all_goals
      refine GX.wbR ?_; intros
      exact rt1 () rfl
theorem solveMore_own : ownKnob Try.prog.godebug = none := by kernel_rfl
theorem solveMore_laidOut : laidOutB Try.prog = true := by kernel_rfl
set_option maxRecDepth 100000 in
theorem solveMore_lifted (os : Os) (started : os.Started) (H : Type) (enc : TypeId × Value → H) :
    ReturnsInHanded {} Try.checked os 7 .any (Rows.solveMoreSpec.pre6 enc Try.prog Try.f7 Rows.solveMoreRow.domain false) (Rows.solveMoreSpec.post enc Try.prog Try.f7 false true false false) := by
  refine returnsInHanded_of_change (C := Try.checked) solveMore_own started (by kernel_rfl) Try.func7
    (ChangeSpec.witness6 (enc := enc) (C := Try.checked) false ⟨#[], #[.int .i64 0, .int .i64 0, .int .i64 0, .slice none 0 0, .agg #[(.int .i64 0), (.int .i64 0), (.int .i64 0), (.int .i64 0)]], []⟩ 8 (by kernel_rfl) (by kernel_rfl) (by kernel_rfl) (by kernel_rfl)) ?_
  intro W base args ds gs before hval0 hW hcnd _
  have hval : ∀ (j : Nat) t v, Try.f7.params[j]? = some t → args[j]? = some v → Value.okWide Try.prog W .any base t v := hval0
  have hW' := hW
  obtain ⟨p, q, hA0, hV, rfl, hfz, hnd⟩ := hW
  have hA : DataW.TrodAll enc Try.prog W 0 (fun _ => true) true Try.f7.params.toList args.toList ds p := hA0
  rw [Try.params7] at hA hval
  obtain ⟨v0, vs0, d0, ds0, p0, q0, hargs, rfl, rfl, h0, r0⟩ := trodAll_cons hA
  obtain ⟨v1, vs1, d1, ds1, p1, q1, rfl, rfl, rfl, h1, r1⟩ := trodAll_cons r0
  obtain ⟨v2, vs2, d2, ds2, p2, q2, rfl, rfl, rfl, h2, r2⟩ := trodAll_cons r1
  obtain ⟨v3, vs3, d3, ds3, p3, q3, rfl, rfl, rfl, h3, r3⟩ := trodAll_cons r2
  obtain ⟨v4, vs4, d4, ds4, p4, q4, rfl, rfl, rfl, h4, r4⟩ := trodAll_cons r3
  obtain ⟨rfl, rfl, rfl⟩ := trodAll_nil r4
  obtain rfl : args = #[v0, v1, v2, v3, v4] := by cases args; simp_all
  obtain ⟨rfl, rfl⟩ := trodVars_none hV
  have hlt := hW'.lt
  have hl0 : ∀ x ∈ p0, x.block < W.heap.size := fun x hx => hlt x (by simp [hx])
  obtain ⟨a0, rfl, e0, g0, w0⟩ := open_int Try.underlying3 (hval 0 3 v0 rfl rfl) h0
  have b0 : -9223372036854775808 ≤ a0 ∧ a0 ≤ 9223372036854775807 := wf_i64 w0
  have hl1 : ∀ x ∈ p1, x.block < W.heap.size := fun x hx => hlt x (by simp [hx])
  obtain ⟨a1, rfl, e1, g1, w1⟩ := open_int Try.underlying3 (hval 1 3 v1 rfl rfl) h1
  have b1 : -9223372036854775808 ≤ a1 ∧ a1 ≤ 9223372036854775807 := wf_i64 w1
  have hl2 : ∀ x ∈ p2, x.block < W.heap.size := fun x hx => hlt x (by simp [hx])
  obtain ⟨a2, rfl, e2, g2, w2⟩ := open_int Try.underlying3 (hval 2 3 v2 rfl rfl) h2
  have b2 : -9223372036854775808 ≤ a2 ∧ a2 ≤ 9223372036854775807 := wf_i64 w2
  have hl3 : ∀ x ∈ p3, x.block < W.heap.size := fun x hx => hlt x (by simp [hx])
  obtain ⟨s3, n3, c3, rfl⟩ := okWide_slice Try.underlying22 (hval 3 22 v3 rfl rfl)
  obtain ⟨x3, z3, o3⟩ := conv_cons enc W _ _ _ _ _ h3.choose_spec
  obtain ⟨rfl, f3⟩ := sl_in z3
  have hl4 : ∀ x ∈ p4, x.block < W.heap.size := fun x hx => hlt x (by simp [hx])
  obtain ⟨c4, rfl⟩ : ∃ cs, v4 = .agg cs := by have := hval 4 38 v4 rfl rfl; unfold Value.okWide at this; rw [Try.underlying38] at this; obtain ⟨cs, h, _⟩ := this; exact ⟨cs, h⟩
  obtain ⟨x4, z4, o4⟩ := conv_con enc W _ _ _ _ _ h4.choose_spec
  have f4 := ag_in z4
  refine ((solveMore_does a0 b0 a1 b1 a2 b2 s3 c3 x3 o3 c4.toList x4 o4).calls W (all_cons f3 (all_cons f4 all_nil))).mono fun e W' ⟨he, hu⟩ => ?_
  subst he
  have hb := hu.below
  exact ⟨_, rfl, _, _, _, [], _, [], hW', trodAll_cons_mk (shut_bool Try.underlying4 _) trodAll_mk0, (trodAll_cons_mk (hb.trod solveMore_laidOut (by kernel_rfl) (of_decide_eq_true (by kernel_rfl)) h0 hl0) (trodAll_cons_mk (hb.trod solveMore_laidOut (by kernel_rfl) (of_decide_eq_true (by kernel_rfl)) h1 hl1) (trodAll_cons_mk (hb.trod solveMore_laidOut (by kernel_rfl) (of_decide_eq_true (by kernel_rfl)) h2 hl2) (trodAll_cons_mk (hb.trod solveMore_laidOut (by kernel_rfl) (of_decide_eq_true (by kernel_rfl)) h3 hl3) (trodAll_cons_mk (hb.trod solveMore_laidOut (by kernel_rfl) (of_decide_eq_true (by kernel_rfl)) h4 hl4) trodAll_mk0))))), rfl, hb.frame _, fun h => by cases h⟩
theorem solveMore_holds : Rows.SolveMoreSaid :=
  OpenClaim.holds_of_wide 7 Try.f7 rfl rfl rfl rfl rfl rfl rfl ⟨rfl, rfl, rfl, rfl, rfl⟩ rfl rfl rfl rfl rfl (by kernel_rfl) Try.func7 (by kernel_rfl)
    (of_decide_eq_true (by kernel_rfl)) (by unfold Func.isWrapper; first | (rw [if_pos (by decide +kernel)]; kernel_rfl) | (rw [if_neg (by decide +kernel)]; exact ⟨rfl, rfl⟩))
    (fun os started H enc _ => solveMore_lifted os started H enc)
end Go.Proofs.Ytkagjpkgboeaiaa
