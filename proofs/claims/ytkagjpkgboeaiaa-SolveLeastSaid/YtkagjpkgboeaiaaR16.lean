import Derived.Test.YtkagjpkgboeaiaaR9
import Derived.Test.YtkagjpkgboeaiaaR10
import Derived.Test.YtkagjpkgboeaiaaR12
import Derived.Test.YtkagjpkgboeaiaaR14
import Derived.Test.YtkagjpkgboeaiaaR15
/- The walks over container/heap at solve's queue. -/
namespace Go.Proofs.Ytkagjpkgboeaiaa
open Go Go.RR Go.RX Go.GX Go.Api
attribute [local irreducible] wpList Code.wp wpPlan Exit.then Exit.inBlock bodyPost NoPanic Went GX.Post GX.Again GX.Meet GX.RowR GX.Own GX.Owns GX.Box GX.Sl GX.Pt GX.Ag GX.MapR GX.Kept GX.Pin wpT GoK AtEnd Both
instance : UPlainT Try.prog 3 := ⟨fun w => ⟨_, run_underlying Try.underlying3 w, fun m h => by cases h⟩⟩
instance : UPlainT Try.prog 75 := ⟨fun w => ⟨_, run_underlying Try.underlying75 w, fun m h => by cases h⟩⟩
instance : UMeth Try.prog 75 "Len" 37 false := ⟨by kernel_rfl⟩
instance : UMeth Try.prog 75 "Less" 73 false := ⟨by kernel_rfl⟩
instance : UMeth Try.prog 75 "Swap" 74 false := ⟨by kernel_rfl⟩
instance : UMeth Try.prog 75 "Push" 76 true := ⟨by kernel_rfl⟩
instance : UMeth Try.prog 75 "Pop" 75 true := ⟨by kernel_rfl⟩
theorem qlen_spec (ao : Option Addr) (n cap : Nat) : Does Try.prog 37 [.slice ao n cap] [] [] (fun _ : Unit => .int .i64 (n : Int)) (fun _ => []) (fun _ => []) := by
  refine enter Try.func37 rfl Try.ntmps37 rfl fun b => ?_
  refine GX.wa_R ?_; intros
  exact rt1 () rfl
theorem qlenI (ao : Option Addr) (n cap v : Nat) (h : n = v) : Does Try.prog 37 [.slice ao n cap] [] [] (fun _ : Unit => .int .i64 (v : Int)) (fun _ => []) (fun _ => []) := by
  rw [← h]; exact qlen_spec ao n cap
theorem qless_spec (g cap : Nat) (xs : List Int) (i j : Nat) (x y : Int) (hx : xs[i]? = some x) (hy : xs[j]? = some y) : Does Try.prog 73 [.slice (some ⟨g, 0, none⟩) xs.length cap, .int .i64 (i : Int), .int .i64 (j : Int)] [] [GX.Own 3 Ty.int (some ⟨g, 0, none⟩) cap xs] (fun _ : Unit => .bool (decide (x < y))) (fun _ => []) (fun _ => [GX.Own 3 Ty.int (some ⟨g, 0, none⟩) cap xs]) := by
  refine enter Try.func73 rfl Try.ntmps73 rfl fun b => ?_
  have hi := (List.getElem?_eq_some_iff.1 hx).1
  have hj := (List.getElem?_eq_some_iff.1 hy).1
  refine GX.wa_R ?_; intros
  refine GX.drawn1 (GX.Own 3 Ty.int (some ⟨g, 0, none⟩) cap xs) (fun j => !(List.contains [] j)) [(0, true), (1, true), (2, true), (3, true), (4, true), (5, true), (6, true), (7, true), (8, true), (9, true)] rfl (by kernel_rfl) (by kernel_rfl) (by first | ((repeat (first | apply Go.GX.SelR.nil | apply Go.GX.SelR.cons | (with_reducible apply Go.GX.TakeR.head) | apply Go.GX.TakeR.tail)); done) | (repeat (first | apply Go.GX.SelR.nil | apply Go.GX.SelR.cons | apply Go.GX.TakeR.head | apply Go.GX.TakeR.tail))) ?_; intro wd F hW hR
  refine GX.wa_T ?_; intros
  refine GX.unpin (GX.Own 3 Ty.int (some ⟨g, 0, none⟩) cap xs) ?_
  refine GX.wa_R ?_; intros
  exact rt1 () rfl
theorem qswap_spec (g cap : Nat) (xs : List Int) (i j : Nat) (x y : Int) (hx : xs[i]? = some x) (hy : xs[j]? = some y) : Does Try.prog 74 [.slice (some ⟨g, 0, none⟩) xs.length cap, .int .i64 (i : Int), .int .i64 (j : Int)] [] [GX.Own 3 Ty.int (some ⟨g, 0, none⟩) cap xs] (fun _ : Unit => .tuple #[]) (fun _ => []) (fun _ => [GX.Own 3 Ty.int (some ⟨g, 0, none⟩) cap ((xs.set i y).set j x)]) := by
  refine enter Try.func74 rfl Try.ntmps74 rfl fun b => ?_
  have hi := (List.getElem?_eq_some_iff.1 hx).1
  have hj := (List.getElem?_eq_some_iff.1 hy).1
  refine GX.wa_R ?_; intros
  refine GX.drawn1 (GX.Own 3 Ty.int (some ⟨g, 0, none⟩) cap xs) (fun j => !(List.contains [13, 15] j)) [(0, true), (1, true), (2, true), (3, true), (4, true), (5, true), (6, true), (7, true), (8, true), (9, true), (10, true), (11, true), (12, true), (13, false), (14, true), (15, false)] rfl (by kernel_rfl) (by kernel_rfl) (by first | ((repeat (first | apply Go.GX.SelR.nil | apply Go.GX.SelR.cons | (with_reducible apply Go.GX.TakeR.head) | apply Go.GX.TakeR.tail)); done) | (repeat (first | apply Go.GX.SelR.nil | apply Go.GX.SelR.cons | apply Go.GX.TakeR.head | apply Go.GX.TakeR.tail))) ?_; intro wd F hW hR
  refine GX.wa_T ?_; intros
  refine GX.unpin (GX.Own 3 Ty.int (some ⟨g, 0, none⟩) cap xs) ?_
  have hl : (xs.set i y).length = xs.length := List.length_set
  refine GX.wa_T ?_; intros
  refine GX.wa_R ?_; intros
  exact en0 ()
def qT (b : Nat) (o : Nat) : Value := .iface 75 (.pointer (some ⟨b, o, none⟩))
theorem swap_perm {xs : List Int} {i j : Nat} {x y : Int} (hx : xs[i]? = some x) (hy : xs[j]? = some y) : ((xs.set i y).set j x).Perm xs := by
  obtain ⟨hi, rfl⟩ := List.getElem?_eq_some_iff.1 hx
  obtain ⟨hj, rfl⟩ := List.getElem?_eq_some_iff.1 hy
  exact List.set_set_perm hi hj
section
variable {P : Program} {n : Nat} {env : Env} {b : Base} {ps : List Pf} {hp : List Res} {Q : Exit → Act → World → Prop} {K : Act → World → Prop}
theorem quo0 {t t' : TypeId} {x y : Operand} {d : Nat} {ty : TypeId} {pos : String} {aft : Array Edge} {gd : Option (Nat × Bool)} (h : G n ((d, .int .i64 ((0 : Nat) : Int)) :: env) b ps hp K) (hx : ev env x = some (.int .i64 (((0 : Nat) : Int) - 1)) := by exact rfl) (hy : ev env y = some (.int .i64 2) := by exact rfl) (hd : Nat.blt d n = true := by exact rfl) : GO P n env b ps hp ⟨some d, .binOp .quo t x y t', ty, pos, aft, gd⟩ K Q := GX.rd1 (fun a ha o ho w _ => by
  simp [execOp, ho, ha.ev hx, ha.ev hy, eqGuard_at_int, binOp, Op.intDiv]
  decide) hd h
end
section
variable {P : Program} {n : Nat} {env : Env} {b : Base} {ps : List Pf} {hp : List Res} {Q : Exit → Act → World → Prop} {K : Act → World → Prop}
theorem rtas {d : Nat} {ty : TypeId} {pos : String} {aft : Array Edge} {gd : Option (Nat × Bool)} {psW : List Pf} {hpS : List Res} {wd : World} {F : Nat → Prop} {t t' : TypeId} {x : Operand} {v : Value} [UPlainT P t'] (h : G n ((d, v) :: env) b ps hp K) (hx : ev env x = some (.iface t' v) := by exact rfl) (hd : Nat.blt d n = true := by exact rfl) : GX.GTR P n env psW hpS wd F b ps hp K ⟨some d, .typeAssert x t t' false, ty, pos, aft, gd⟩ := .v (.of_soft fun _ => tas_v hx) hd h
end
set_option maxHeartbeats 1000000 in
theorem up_spec (bl o g cap : Nat) (vs : List Value) (xs : List Int) (j : Nat) (hv : vs[o]? = some (.slice (some ⟨g, 0, none⟩) xs.length cap)) (hj : j < xs.length) (hl : xs.length ≤ 1000000) :
    Does Try.prog 51 [qT bl o, .int .i64 (j : Int)] [] [RowR bl 53 vs, GX.Own 3 Ty.int (some ⟨g, 0, none⟩) cap xs] (fun _ : { ys : List Int // ys.Perm xs } => .tuple #[]) (fun _ => []) (fun s => [RowR bl 53 vs, GX.Own 3 Ty.int (some ⟨g, 0, none⟩) cap s.1]) := by
  refine enter Try.func51 rfl Try.ntmps51 rfl fun b => ?_
  refine GX.wa_R ?_; intros
  refine GX.loop (σ := List Int × Nat) (fun q => [(0, qT bl o), (1, .int .i64 (q.2 : Int))]) (fun _ => []) (fun q => [RowR bl 53 vs, GX.Own 3 Ty.int (some ⟨g, 0, none⟩) cap q.1])
    (fun q => q.1.Perm xs ∧ q.2 < q.1.length) (fun q => q.2) (xs, j) ⟨rfl, rfl, trivial⟩ ⟨List.Perm.refl _, hj⟩ (fun q hq => ?_)
  obtain ⟨ys, j⟩ := q
  obtain ⟨h1, h2⟩ := hq
  dsimp only at *
  have hyl := h1.length_eq
  have hv2 : vs[o]? = some (.slice (some ⟨g, 0, none⟩) ys.length cap) := by rw [hyl]; exact hv
  cases j with
  | zero =>
    refine GX.wa_R ?_; intros
    refine GX.o (quo0 ?_)
    refine GX.wa_R ?_; intros
    exact en0 ⟨ys, h1⟩
  | succ m =>
    obtain ⟨x, hx⟩ := get_lt h2
    have h3 : m / 2 < ys.length := by omega
    obtain ⟨y, hy⟩ := get_lt h3
    have hne : ¬ ((m / 2 : Nat) : Int) = ((m + 1 : Nat) : Int) := by omega
    refine GX.wa_R ?_; intros
    refine GX.o (clw (qless_spec g cap ys (m + 1) (m / 2) x y hx hy) hv2 fun _ => ?_)
    by_cases hxy : x < y
    · refine GX.wa_R ?_; intros
      refine GX.o (clw (qswap_spec g cap ys (m / 2) (m + 1) y x hy hx) hv2 fun _ => ?_)
      refine GX.wa_R ?_; intros
      exact again ((ys.set (m / 2) x).set (m + 1) y, m / 2) ⟨rfl, rfl, trivial⟩ ⟨(swap_perm hy hx).trans h1, by simp; omega⟩ (by dsimp only; omega)
    · refine GX.wa_R ?_; intros
      exact en0 ⟨ys, h1⟩
theorem qlessI (g cap : Nat) (xs : List Int) (a c : Int) (i j : Nat) (x y : Int) (ha : a = (i : Int)) (hc : c = (j : Int)) (hx : xs[i]? = some x) (hy : xs[j]? = some y) : Does Try.prog 73 [.slice (some ⟨g, 0, none⟩) xs.length cap, .int .i64 a, .int .i64 c] [] [GX.Own 3 Ty.int (some ⟨g, 0, none⟩) cap xs] (fun _ : Unit => .bool (decide (x < y))) (fun _ => []) (fun _ => [GX.Own 3 Ty.int (some ⟨g, 0, none⟩) cap xs]) := by
  rw [ha, hc]; exact qless_spec g cap xs i j x y hx hy
theorem qswapI (g cap : Nat) (xs : List Int) (a c : Int) (i j : Nat) (x y : Int) (ha : a = (i : Int)) (hc : c = (j : Int)) (hx : xs[i]? = some x) (hy : xs[j]? = some y) : Does Try.prog 74 [.slice (some ⟨g, 0, none⟩) xs.length cap, .int .i64 a, .int .i64 c] [] [GX.Own 3 Ty.int (some ⟨g, 0, none⟩) cap xs] (fun _ : Unit => .tuple #[]) (fun _ => []) (fun _ => [GX.Own 3 Ty.int (some ⟨g, 0, none⟩) cap ((xs.set i y).set j x)]) := by
  rw [ha, hc]; exact qswap_spec g cap xs i j x y hx hy
set_option maxHeartbeats 1000000 in
theorem down_spec (bl o g cap : Nat) (vs : List Value) (xs : List Int) (i0 n : Nat) (hv : vs[o]? = some (.slice (some ⟨g, 0, none⟩) xs.length cap)) (hn : n ≤ xs.length) (hi0 : i0 ≤ n) (hl : xs.length ≤ 1000000) :
    Does Try.prog 52 [qT bl o, .int .i64 (i0 : Int), .int .i64 (n : Int)] [] [RowR bl 53 vs, GX.Own 3 Ty.int (some ⟨g, 0, none⟩) cap xs] (fun s : { q : List Int × Bool // q.1.Perm xs ∧ ∀ k, n ≤ k → q.1[k]? = xs[k]? } => .bool s.1.2) (fun _ => []) (fun s => [RowR bl 53 vs, GX.Own 3 Ty.int (some ⟨g, 0, none⟩) cap s.1.1]) := by
  refine enter Try.func52 rfl Try.ntmps52 rfl fun b => ?_
  refine GX.wa_R ?_; intros
  refine GX.loop (σ := List Int × Nat) (fun q => [(0, qT bl o), (1, .int .i64 (i0 : Int)), (2, .int .i64 (n : Int)), (7, .int .i64 (q.2 : Int))]) (fun _ => []) (fun q => [RowR bl 53 vs, GX.Own 3 Ty.int (some ⟨g, 0, none⟩) cap q.1])
    (fun q => q.1.Perm xs ∧ (∀ k, n ≤ k → q.1[k]? = xs[k]?) ∧ q.2 ≤ n) (fun q => n - q.2) (xs, i0) ⟨rfl, rfl, rfl, rfl, trivial⟩ ⟨List.Perm.refl _, fun _ _ => rfl, hi0⟩ (fun q hq => ?_)
  obtain ⟨ys, i⟩ := q
  obtain ⟨h1, h0, h2⟩ := hq
  dsimp only at *
  have hyl := h1.length_eq
  have hv2 : vs[o]? = some (.slice (some ⟨g, 0, none⟩) ys.length cap) := by rw [hyl]; exact hv
  have hiy : i < ys.length ∨ n ≤ 2 * i + 1 := by omega
  by_cases c1 : 2 * i + 1 < n
  · obtain ⟨y, hy⟩ := get_lt (show i < ys.length by omega)
    obtain ⟨x1, hx1⟩ := get_lt (show 2 * i + 1 < ys.length by omega)
    by_cases c2 : 2 * (i : Int) + 1 + 1 < n
    · obtain ⟨x2, hx2⟩ := get_lt (show 2 * i + 1 + 1 < ys.length by omega)
      refine GX.wa_R ?_; intros
      refine GX.o (clw (qlessI g cap ys (2 * (i : Int) + 1 + 1) (2 * (i : Int) + 1) (2 * i + 1 + 1) (2 * i + 1) x2 x1 (by omega) (by omega) hx2 hx1) hv2 fun _ => ?_)
      by_cases c3 : x2 < x1
      · refine GX.wa_R ?_; intros
        refine GX.o (clw (qlessI g cap ys (2 * (i : Int) + 1 + 1) (i : Int) (2 * i + 1 + 1) i x2 y (by omega) rfl hx2 hy) hv2 fun _ => ?_)
        by_cases hxy : x2 < y
        · refine GX.wa_R ?_; intros
          refine GX.o (clw (qswapI g cap ys (i : Int) (2 * (i : Int) + 1 + 1) i (2 * i + 1 + 1) y x2 rfl (by omega) hy hx2) hv2 fun _ => ?_)
          refine GX.wa_R ?_; intros
          exact again ((ys.set i x2).set (2 * i + 1 + 1) y, 2 * i + 1 + 1) ⟨rfl, rfl, rfl, rfl, trivial⟩ ⟨(swap_perm hy hx2).trans h1, fun k hk => by dsimp only; rw [List.getElem?_set_ne (by omega), List.getElem?_set_ne (by omega)]; exact h0 k hk, by dsimp only; omega⟩ (by dsimp only; omega)
        · refine GX.wa_R ?_; intros
          exact rt1 ⟨(ys, _), h1, h0⟩ rfl
      · refine GX.wa_R ?_; intros
        refine GX.o (clw (qlessI g cap ys (2 * (i : Int) + 1) (i : Int) (2 * i + 1) i x1 y (by omega) rfl hx1 hy) hv2 fun _ => ?_)
        by_cases hxy : x1 < y
        · refine GX.wa_R ?_; intros
          refine GX.o (clw (qswapI g cap ys (i : Int) (2 * (i : Int) + 1) i (2 * i + 1) y x1 rfl (by omega) hy hx1) hv2 fun _ => ?_)
          refine GX.wa_R ?_; intros
          exact again ((ys.set i x1).set (2 * i + 1) y, 2 * i + 1) ⟨rfl, rfl, rfl, rfl, trivial⟩ ⟨(swap_perm hy hx1).trans h1, fun k hk => by dsimp only; rw [List.getElem?_set_ne (by omega), List.getElem?_set_ne (by omega)]; exact h0 k hk, by dsimp only; omega⟩ (by dsimp only; omega)
        · refine GX.wa_R ?_; intros
          exact rt1 ⟨(ys, _), h1, h0⟩ rfl
    · refine GX.wa_R ?_; intros
      refine GX.o (clw (qlessI g cap ys (2 * (i : Int) + 1) (i : Int) (2 * i + 1) i x1 y (by omega) rfl hx1 hy) hv2 fun _ => ?_)
      by_cases hxy : x1 < y
      · refine GX.wa_R ?_; intros
        refine GX.o (clw (qswapI g cap ys (i : Int) (2 * (i : Int) + 1) i (2 * i + 1) y x1 rfl (by omega) hy hx1) hv2 fun _ => ?_)
        refine GX.wa_R ?_; intros
        exact again ((ys.set i x1).set (2 * i + 1) y, 2 * i + 1) ⟨rfl, rfl, rfl, rfl, trivial⟩ ⟨(swap_perm hy hx1).trans h1, fun k hk => by dsimp only; rw [List.getElem?_set_ne (by omega), List.getElem?_set_ne (by omega)]; exact h0 k hk, by dsimp only; omega⟩ (by dsimp only; omega)
      · refine GX.wa_R ?_; intros
        exact rt1 ⟨(ys, _), h1, h0⟩ rfl
  · refine GX.wa_R ?_; intros
    exact rt1 ⟨(ys, _), h1, h0⟩ rfl
/-- The last one is taken off. -/
theorem qpop_spec (bl o g cap : Nat) (vs : List Value) (xs : List Int) (m : Nat) (x : Int) (hv : vs[o]? = some (.slice (some ⟨g, 0, none⟩) xs.length cap)) (hm : xs.length = m + 1) (hml : m ≤ 1000000) (hx : xs[m]? = some x) :
    Does Try.prog 75 [.pointer (some ⟨bl, o, none⟩)] [] [RowR bl 53 vs, GX.Own 3 Ty.int (some ⟨g, 0, none⟩) cap xs] (fun _ : Unit => .iface 3 (.int .i64 x)) (fun _ => []) (fun _ => [RowR bl 53 (vs.set o (.slice (some ⟨g, 0, none⟩) (xs.take m).length cap)), GX.Own 3 Ty.int (some ⟨g, 0, none⟩) cap (xs.take m)]) := by
  refine enter Try.func75 rfl Try.ntmps75 rfl fun b => ?_
  rw [hm] at hv
  refine GX.wa_R ?_; intros
  have hi := (List.getElem?_eq_some_iff.1 hx).1
  refine GX.o (GX.lr (hv := hv) ?_)
  refine GX.wa_R ?_; intros
  refine GX.opn (some ⟨g, 0, none⟩) fun h1 h2 _ => ?_
  refine GX.o (GX.oh (j := m) ?_)
  refine GX.wa_R ?_; intros
  have ho := (List.getElem?_eq_some_iff.1 hv).1
  have e3 : (xs.take m).length = m := by simp; omega
  refine GX.o (GX.stR (vs' := vs.set o (.slice (some ⟨g, 0, none⟩) (xs.take m).length cap)) ?_ (hi := by simpa [Nat.blt_eq] using ho) (hset := by rw [e3]))
  refine GX.ownTake (some ⟨g, 0, none⟩) m ?_
  refine GX.wa_R ?_; intros
  refine GX.o (mki ?_)
  refine GX.wa_R ?_; intros
  exact rt1 () rfl
theorem qpush_spec (bl o cap : Nat) (ao : Option Addr) (vs : List Value) (xs : List Int) (i : Int) (hv : vs[o]? = some (.slice ao xs.length cap)) (hl : xs.length ≤ 1000000) :
    Does Try.prog 76 [.pointer (some ⟨bl, o, none⟩), .iface 3 (.int .i64 i)] [] [RowR bl 53 vs, GX.Own 3 Ty.int ao cap xs] (fun _ : Option Addr × Nat => .tuple #[]) (fun _ => []) (fun s => [RowR bl 53 (vs.set o (.slice s.1 (xs ++ [i]).length s.2)), GX.Own 3 Ty.int s.1 s.2 (xs ++ [i])]) := by
  refine enter Try.func76 rfl Try.ntmps76 rfl fun b => ?_
  refine GX.wa_R ?_; intros
  refine GX.drawn2 (RowR bl 53 vs) (GX.Own 3 Ty.int ao cap xs) (fun j => !(List.contains [7, 9] j)) [(0, true), (1, true), (2, true), (3, true), (4, true), (5, true), (6, false), (7, false), (8, true), (9, false)] rfl (by kernel_rfl) (by kernel_rfl) (by first | ((repeat (first | apply Go.GX.SelR.nil | apply Go.GX.SelR.cons | (with_reducible apply Go.GX.TakeR.head) | apply Go.GX.TakeR.tail)); done) | (repeat (first | apply Go.GX.SelR.nil | apply Go.GX.SelR.cons | apply Go.GX.TakeR.head | apply Go.GX.TakeR.tail))) ?_; intro wd F hW hR
  refine GX.wa_T ?_; intros
  refine GX.tkr ?_
  refine GX.rlr (hv := hv) ?_
  refine GX.wa_T ?_; intros
  refine GX.tkr ?_
  refine rtas ?_
  refine GX.wa_T ?_; intros
  refine GX.unpin (GX.Own 3 Ty.int ao cap xs) ?_
  refine GX.wa_TO ?_; intros
  refine GX.unpin (RowR bl 53 vs) ?_
  refine GX.wa_T ?_; intros
  refine GX.nmS 11 ?_; rintro ao2 cap2 rfl rfl
  have ho := (List.getElem?_eq_some_iff.1 hv).1
  refine GX.gow ?_
  refine GX.stR (vs' := vs.set o (.slice ao2 (xs ++ [i]).length cap2)) ?_ (hi := by simpa [Nat.blt_eq] using ho) (hset := rfl)
  refine GX.wa_T ?_; intros
  refine GX.wa_R ?_; intros
  exact en0 (ao2, cap2)
set_option maxHeartbeats 1000000 in
/-- The least is taken off. -/
theorem hpop_spec (bl o g cap : Nat) (vs : List Value) (xs : List Int) (m : Nat) (hv : vs[o]? = some (.slice (some ⟨g, 0, none⟩) xs.length cap)) (hm : xs.length = m + 1) (hml : m ≤ 900000) :
    Does Try.prog 38 [qT bl o] [] [RowR bl 53 vs, GX.Own 3 Ty.int (some ⟨g, 0, none⟩) cap xs] (fun s : { q : Int × List Int // (q.1 :: q.2).Perm xs } => .iface 3 (.int .i64 s.1.1)) (fun _ => []) (fun s => [RowR bl 53 (vs.set o (.slice (some ⟨g, 0, none⟩) s.1.2.length cap)), GX.Own 3 Ty.int (some ⟨g, 0, none⟩) cap s.1.2]) := by
  refine enter Try.func38 rfl Try.ntmps38 rfl fun b => ?_
  have ho := (List.getElem?_eq_some_iff.1 hv).1
  obtain ⟨x, hx⟩ := get_lt (show 0 < xs.length by omega)
  obtain ⟨y, hy0⟩ := get_lt (show m < xs.length by omega)
  refine GX.wa_R ?_; intros
  refine GX.o (clw (qlen_spec (some ⟨g, 0, none⟩) xs.length cap) hv fun _ => ?_)
  rw [hm]
  refine GX.wa_R ?_; intros
  refine GX.o (clw (qswapI g cap xs 0 (m : Int) 0 m x y rfl rfl hx hy0) hv fun _ => ?_)
  refine GX.wa_R ?_; intros
  have hl2 : ((xs.set 0 y).set m x).length = xs.length := by simp
  refine GX.o (GX.cl (down_spec bl o g cap vs ((xs.set 0 y).set m x) 0 m (by rw [hl2]; exact hv) (by omega) (by omega) (by omega)) fun s => ?_)
  obtain ⟨⟨ys, r⟩, hy, hk⟩ := s
  dsimp only at hy hk ⊢
  have e2 := hy.length_eq
  have hyx : ys[m]? = some x := by rw [hk m (Nat.le_refl _)]; exact List.getElem?_set_self (by simp; omega)
  refine GX.wa_R ?_; intros
  refine GX.o (clm (qpop_spec bl o g cap vs ys m x (by rw [e2, hl2]; exact hv) (by omega) (by omega) hyx) fun _ => ?_)
  have e3 : (ys.take m).length = m := by simp; omega
  have e4 : (x :: ys.take m).Perm xs := by
    refine List.Perm.trans ?_ (hy.trans (swap_perm hx hy0))
    obtain ⟨h5, h6⟩ := List.getElem?_eq_some_iff.1 hyx
    have h7 := List.take_append_drop m ys
    rw [List.drop_eq_getElem_cons h5, h6, List.drop_of_length_le (by omega)] at h7
    exact (List.perm_append_singleton x (ys.take m)).symm.trans (List.Perm.of_eq h7)
  refine GX.wa_R ?_; intros
  exact rt1 ⟨(x, ys.take m), e4⟩ rfl
theorem hpush_spec (bl o cap : Nat) (ao : Option Addr) (vs : List Value) (xs : List Int) (i : Int) (hv : vs[o]? = some (.slice ao xs.length cap)) (hl : xs.length ≤ 900000) :
    Does Try.prog 36 [qT bl o, .iface 3 (.int .i64 i)] [] [RowR bl 53 vs, GX.Own 3 Ty.int ao cap xs] (fun _ : { q : Option Addr × Nat × List Int // q.2.2.Perm (xs ++ [i]) } => .tuple #[]) (fun _ => []) (fun s => [RowR bl 53 (vs.set o (.slice s.1.1 s.1.2.2.length s.1.2.1)), GX.Own 3 Ty.int s.1.1 s.1.2.1 s.1.2.2]) := by
  refine enter Try.func36 rfl Try.ntmps36 rfl fun b => ?_
  refine GX.wa_R ?_; intros
  refine GX.o (clm (qpush_spec bl o cap ao vs xs i hv (by omega)) fun s => ?_)
  obtain ⟨ao2, cap2⟩ := s
  dsimp only
  have ho := (List.getElem?_eq_some_iff.1 hv).1
  refine GX.wa_R ?_; intros
  have e1 : (xs ++ [i]).length = xs.length + 1 := by simp
  refine GX.o (clw (qlenI ao2 (xs ++ [i]).length cap2 (xs.length + 1) e1) (List.getElem?_set_self ho) fun _ => ?_)
  refine GX.wa_R ?_; intros
  refine GX.opn ao2 fun _ _ h3 => ?_
  obtain ⟨h3, _⟩ | ⟨g, h3⟩ := h3
  · exact absurd h3 (by simp)
  subst h3
  refine GX.o (GX.cl (up_spec bl o g cap2 (vs.set o (.slice (some ⟨g, 0, none⟩) (xs ++ [i]).length cap2)) (xs ++ [i]) xs.length (List.getElem?_set_self ho) (by omega) (by omega)) fun s => ?_)
  obtain ⟨ys, hy⟩ := s
  dsimp only
  have e2 := hy.length_eq
  rw [← e2]
  refine GX.wa_R ?_; intros
  exact en0 ⟨(_, _, ys), hy⟩
end Go.Proofs.Ytkagjpkgboeaiaa

/- The walks over solve's look and join. -/
namespace Go.Proofs.Ytkagjpkgboeaiaa
open Go Go.RR Go.RX Go.GX Go.Api Go.RiseM Go.SolM Go.SetM Go.NumM
attribute [local irreducible] wpList Code.wp wpPlan Exit.then Exit.inBlock bodyPost NoPanic Went GX.Post GX.Again GX.Meet GX.RowR GX.Own GX.Owns GX.Box GX.Sl GX.Pt GX.Ag GX.MapR GX.SetR GX.Kept GX.Pin wpT GoK AtEnd Both
/-- Where a solver's parts lie. -/
structure VV where
  am : Nat
  go : Nat
  ask : Nat
  se : Nat
  kn : Nat
  wt : Nat
def zsI (A : List Nat) : List Int := A.map fun z : Nat => (z : Int)
theorem zsI_get {A : List Nat} {i z : Nat} (h : A[i]? = some z) : (zsI A)[i]? = some (z : Int) := by unfold zsI; rw [List.getElem?_map, h]; rfl
theorem zsI_set (A : List Nat) (i z : Nat) : (zsI A).set i (z : Int) = zsI (A.set i z) := by unfold zsI; rw [List.map_set]
theorem zsI_len (A : List Nat) : (zsI A).length = A.length := by simp [zsI]
def key (p : Nat × Nat) : List Int := [(p.1 : Int), (p.2 : Int)]
/-- A solver in memory. -/
structure SQ where
  ao : Option Addr
  cap : Nat
  L : List (Option Addr × Nat × List Int)
  st : Sv
structure LookR (n : Nat) (wn : Bool) (xs : List Int) where
  ao : Option Addr
  cap : Nat
  ys : List Int
  h : wn = true ∧ ys = xs ∨ wn = false ∧ ys.Perm (xs ++ [(n : Int)])
theorem set_true_id {l : List Bool} {i : Nat} (h : l[i]? = some true) : l.set i true = l := by
  obtain ⟨h1, h2⟩ := List.getElem?_eq_some_iff.1 h
  rw [← h2]; exact List.set_getElem_self h1
set_option maxHeartbeats 1000000 in
theorem look_spec (bl : Nat) (v : VV) (d : Dim) (ao : Option Addr) (cap : Nat) (xs : List Int) (W : List Bool) (n : Nat) (wn : Bool) (hw : W[n]? = some wn) (hW : W.length = d.M) (hxs : xs.length ≤ 800000) (hM : d.M ≤ 800000) :
    Does Try.prog 21 [.pointer (some ⟨bl, 0, none⟩), .int .i64 (n : Int)] [] [RowR bl 53 [.int .i64 (d.N : Int), .int .i64 (d.W : Int), .slice (some ⟨v.am, 0, none⟩) d.M d.M, .slice (some ⟨v.go, 0, none⟩) d.M d.M, .slice (some ⟨v.ask, 0, none⟩) d.M d.M, .slice (some ⟨v.se, 0, none⟩) d.M d.M, .map (some v.kn), .slice ao xs.length cap, .slice (some ⟨v.wt, 0, none⟩) d.M d.M], GX.Own 3 Ty.int ao cap xs, GX.Own 4 Ty.bool (some ⟨v.wt, 0, none⟩) d.M W]
      (fun _ : LookR n wn xs => .tuple #[]) (fun _ => []) (fun s => [RowR bl 53 [.int .i64 (d.N : Int), .int .i64 (d.W : Int), .slice (some ⟨v.am, 0, none⟩) d.M d.M, .slice (some ⟨v.go, 0, none⟩) d.M d.M, .slice (some ⟨v.ask, 0, none⟩) d.M d.M, .slice (some ⟨v.se, 0, none⟩) d.M d.M, .map (some v.kn), .slice s.ao s.ys.length s.cap, .slice (some ⟨v.wt, 0, none⟩) d.M d.M], GX.Own 3 Ty.int s.ao s.cap s.ys, GX.Own 4 Ty.bool (some ⟨v.wt, 0, none⟩) d.M (W.set n true)]) := by
  refine enter Try.func21 rfl Try.ntmps21 rfl fun b => ?_
  have hn := (List.getElem?_eq_some_iff.1 hw).1
  cases wn with
  | true =>
    rw [set_true_id hw]
    refine GX.wbR ?_; intros
    exact en0 ⟨ao, cap, xs, .inl ⟨rfl, rfl⟩⟩
  | false =>
    refine GX.wbR ?_; intros
    refine GX.o (mki ?_)
    refine GX.wbR ?_; intros
    refine GX.o (mki ?_)
    refine GX.o (cl (hpush_spec bl 7 cap ao [.int .i64 (d.N : Int), .int .i64 (d.W : Int), .slice (some ⟨v.am, 0, none⟩) d.M d.M, .slice (some ⟨v.go, 0, none⟩) d.M d.M, .slice (some ⟨v.ask, 0, none⟩) d.M d.M, .slice (some ⟨v.se, 0, none⟩) d.M d.M, .map (some v.kn), .slice ao xs.length cap, .slice (some ⟨v.wt, 0, none⟩) d.M d.M] xs n rfl (by omega)) fun s => ?_)
    obtain ⟨⟨a8, c8, ys⟩, hp8⟩ := s
    simp only [List.set_cons_zero, List.set_cons_succ]
    refine GX.wbR ?_; intros
    exact en0 ⟨a8, c8, ys, .inr ⟨rfl, hp8⟩⟩
structure JoinR (d : Dim) (l : List Con) (q : SQ) (n z : Nat) where
  ao : Option Addr
  cap : Nat
  A : List Nat
  W : List Bool
  xs : List Int
  inv : Inv d l ⟨A, q.st.E, q.st.G, q.st.D, W, xs⟩
  le : Le d q.st ⟨A, q.st.E, q.st.G, q.st.D, W, xs⟩
  all : ∀ s, z.testBit s = true → has A n s
  oth : ∀ m s, m ≠ n → (has A m s ↔ has q.st.A m s)
set_option maxHeartbeats 2000000 in
theorem join_spec (bl : Nat) (v : VV) (d : Dim) (l : List Con) (q : SQ) (n z : Nat) (hI : Inv d l q.st) (hn : n < d.M) (hz : z < 18446744073709551616) (hs : ∀ s, z.testBit s = true → In d l n s) (hM : d.M ≤ 800000) :
    Does Try.prog 34 [.pointer (some ⟨bl, 0, none⟩), .int .i64 (n : Int), .int .u64 (z : Int)] [] [RowR bl 53 [.int .i64 (d.N : Int), .int .i64 (d.W : Int), .slice (some ⟨v.am, 0, none⟩) d.M d.M, .slice (some ⟨v.go, 0, none⟩) d.M d.M, .slice (some ⟨v.ask, 0, none⟩) d.M d.M, .slice (some ⟨v.se, 0, none⟩) d.M d.M, .map (some v.kn), .slice q.ao q.st.xs.length q.cap, .slice (some ⟨v.wt, 0, none⟩) d.M d.M], GX.Own 57 (Ty.num .u64) (some ⟨v.am, 0, none⟩) d.M (zsI q.st.A), GX.Own 3 Ty.int q.ao q.cap q.st.xs, GX.Own 4 Ty.bool (some ⟨v.wt, 0, none⟩) d.M q.st.W]
      (fun _ : JoinR d l q n z => .tuple #[]) (fun _ => []) (fun s => [RowR bl 53 [.int .i64 (d.N : Int), .int .i64 (d.W : Int), .slice (some ⟨v.am, 0, none⟩) d.M d.M, .slice (some ⟨v.go, 0, none⟩) d.M d.M, .slice (some ⟨v.ask, 0, none⟩) d.M d.M, .slice (some ⟨v.se, 0, none⟩) d.M d.M, .map (some v.kn), .slice s.ao s.xs.length s.cap, .slice (some ⟨v.wt, 0, none⟩) d.M d.M], GX.Own 57 (Ty.num .u64) (some ⟨v.am, 0, none⟩) d.M (zsI s.A), GX.Own 3 Ty.int s.ao s.cap s.xs, GX.Own 4 Ty.bool (some ⟨v.wt, 0, none⟩) d.M s.W]) := by
  refine enter Try.func34 rfl Try.ntmps34 rfl fun b => ?_
  obtain ⟨ao, cap, L, st⟩ := q
  dsimp only at *
  have hla := hI.la
  have hlw := hI.lw
  have hql := hI.qlen
  obtain ⟨a, ha⟩ := get_lt (show n < st.A.length by omega)
  obtain ⟨wn, hw⟩ := get_lt (show n < st.W.length by omega)
  have haz := hI.wa a (List.mem_of_getElem? ha)
  have hai := zsI_get ha
  obtain ⟨ho, hoz⟩ := orW haz hz
  have hzl := zsI_len st.A
  refine GX.wbR ?_; intros
  refine GX.drawn2 (RowR bl 53 [.int .i64 (d.N : Int), .int .i64 (d.W : Int), .slice (some ⟨v.am, 0, none⟩) d.M d.M, .slice (some ⟨v.go, 0, none⟩) d.M d.M, .slice (some ⟨v.ask, 0, none⟩) d.M d.M, .slice (some ⟨v.se, 0, none⟩) d.M d.M, .map (some v.kn), .slice ao st.xs.length cap, .slice (some ⟨v.wt, 0, none⟩) d.M d.M]) (GX.Own 57 (Ty.num .u64) (some ⟨v.am, 0, none⟩) d.M (zsI st.A)) (fun j => !(List.contains [] j)) [(0, true), (1, true), (2, true), (3, true), (4, true), (5, true), (6, true), (7, true), (8, true), (9, true), (10, true), (11, true), (12, true), (13, true), (14, true), (15, true), (16, true)] rfl (by kernel_rfl) (by kernel_rfl) (by first | ((repeat (first | apply Go.GX.SelR.nil | apply Go.GX.SelR.cons | (with_reducible apply Go.GX.TakeR.head) | apply Go.GX.TakeR.tail)); done) | (repeat (first | apply Go.GX.SelR.nil | apply Go.GX.SelR.cons | apply Go.GX.TakeR.head | apply Go.GX.TakeR.tail))) ?_; intro wd F hW hR
  refine GX.wbT ?_; intros
  refine GX.unpin (RowR bl 53 [.int .i64 (d.N : Int), .int .i64 (d.W : Int), .slice (some ⟨v.am, 0, none⟩) d.M d.M, .slice (some ⟨v.go, 0, none⟩) d.M d.M, .slice (some ⟨v.ask, 0, none⟩) d.M d.M, .slice (some ⟨v.se, 0, none⟩) d.M d.M, .map (some v.kn), .slice ao st.xs.length cap, .slice (some ⟨v.wt, 0, none⟩) d.M d.M]) ?_
  refine GX.unpin (GX.Own 57 (Ty.num .u64) (some ⟨v.am, 0, none⟩) d.M (zsI st.A)) ?_
  rw [ho]
  by_cases hne : a ||| z = a
  · have hne' : ¬ (((a ||| z : Nat) : Int) ≠ (a : Int)) := by rw [hne]; simp
    refine GX.wbR ?_; intros
    refine en0 ⟨ao, cap, st.A, st.W, st.xs, hI, Le.refl _ _, fun s hs => ?_, fun _ _ _ => Iff.rfl⟩
    rw [has_some ha, ← hne, Nat.testBit_or, hs]; simp
  · have hne' : ((a ||| z : Nat) : Int) ≠ (a : Int) := by omega
    refine GX.wbR ?_; intros
    rw [ho, zsI_set]
    refine GX.o (cl (look_spec bl v d ao cap st.xs st.W n wn hw hlw (by omega) hM) fun s => ?_)
    obtain ⟨ao2, cap2, ys, hy⟩ := s
    dsimp only
    refine GX.wbR ?_; intros
    obtain ⟨i1, i2, i3⟩ := inv_join hI ha hz hs hne hw rfl hy
    refine en0 ⟨ao2, cap2, st.A.set n (a ||| z), st.W.set n true, ys, i1, i2, fun s hs => ?_, fun m s hm => ?_⟩
    · rw [has_set (by omega), if_pos rfl, Nat.testBit_or, hs]; simp
    · rw [has_set (by omega), if_neg hm]
end Go.Proofs.Ytkagjpkgboeaiaa

/- Slices of slices of one's own: small helps. No program in sight. -/
namespace Go.GX
open Go
abbrev OL := List (Option Addr × Nat × List Int)
theorem hd_set {α : Type} (L : List (Option Addr × Nat × List α)) (y : Nat) (a : Option Addr) (c : Nat) (xs : List α) : (L.map GX.hd).set y (a, xs.length, c) = (L.set y (a, c, xs)).map GX.hd := by rw [List.map_set]
theorem hd_rep {α : Type} (n : Nat) : List.replicate n ((none : Option Addr), 0, 0) = (List.replicate n ((none : Option Addr), 0, ([] : List α))).map GX.hd := by rw [List.map_replicate]; rfl
theorem snd_get {α : Type} {L : List (Option Addr × Nat × List α)} {M : List (List α)} (h : L.map (·.2.2) = M) {y : Nat} {xs : List α} (hy : M[y]? = some xs) : ∃ a c, L[y]? = some (a, c, xs) ∧ (L.map GX.hd)[y]? = some (a, xs.length, c) := by
  rw [← h, List.getElem?_map] at hy
  obtain ⟨⟨a, c, ys⟩, h1, h2⟩ := Option.map_eq_some_iff.1 hy
  obtain rfl : ys = xs := h2
  exact ⟨a, c, h1, by rw [List.getElem?_map, h1]; rfl⟩
end Go.GX

/- The walk over solve's edge. -/
namespace Go.Proofs.Ytkagjpkgboeaiaa
open Go Go.RR Go.RX Go.GX Go.Api Go.RiseM Go.SolM Go.SetM Go.NumM
attribute [local irreducible] wpList Code.wp wpPlan Exit.then Exit.inBlock bodyPost NoPanic Went GX.Post GX.Again GX.Meet GX.RowR GX.Own GX.Owns GX.Box GX.Sl GX.Pt GX.Ag GX.MapR GX.SetR GX.Kept GX.Pin wpT GoK AtEnd Both
instance : UArr Try.prog 87 2 3 := ⟨Try.underlying87⟩
instance : UInf Try.prog 3 := ⟨by kernel_rfl, by kernel_rfl⟩
theorem key_inj {p q : Nat × Nat} (h : key p = key q) : p = q := by
  obtain ⟨a, b⟩ := p
  obtain ⟨c, d⟩ := q
  simp only [key, List.cons.injEq, and_true] at h
  obtain ⟨h1, h2⟩ := h
  obtain rfl : a = c := by omega
  obtain rfl : b = d := by omega
  rfl
theorem key_mem {D : List (Nat × Nat)} {p : Nat × Nat} : key p ∈ D.map key ↔ p ∈ D := by
  rw [List.mem_map]
  exact ⟨fun ⟨q, h1, h2⟩ => by rw [← key_inj h2]; exact h1, fun h => ⟨p, h, rfl⟩⟩
structure EdgeR (d : Dim) (l : List Con) (q : SQ) (x y : Nat) where
  q' : SQ
  inv : Inv d l q'.st
  le : Le d q.st q'.st
  L : q'.L.map (·.2.2) = q'.st.G.map zsI
  ok : EdgeOk q'.st x y
  c3 : ∀ ex, C3 q.st ex → C3 q'.st ex
set_option maxHeartbeats 2000000 in
theorem edge_spec (bl : Nat) (v : VV) (d : Dim) (l : List Con) (q : SQ) (x y : Nat) (hI : Inv d l q.st) (hL : q.L.map (·.2.2) = q.st.G.map zsI) (hx : x < d.M) (hy : y < d.M) (hf : ∀ s, In d l x s → In d l y s) (hM : d.M ≤ 800000) :
    Does Try.prog 35 [.pointer (some ⟨bl, 0, none⟩), .int .i64 (x : Int), .int .i64 (y : Int)] [] [RowR bl 53 [.int .i64 (d.N : Int), .int .i64 (d.W : Int), .slice (some ⟨v.am, 0, none⟩) d.M d.M, .slice (some ⟨v.go, 0, none⟩) d.M d.M, .slice (some ⟨v.ask, 0, none⟩) d.M d.M, .slice (some ⟨v.se, 0, none⟩) d.M d.M, .map (some v.kn), .slice q.ao q.st.xs.length q.cap, .slice (some ⟨v.wt, 0, none⟩) d.M d.M], GX.Own 57 (Ty.num .u64) (some ⟨v.am, 0, none⟩) d.M (zsI q.st.A), GX.Own 35 Ty.hdr (some ⟨v.go, 0, none⟩) d.M (q.L.map GX.hd), Owns 3 Ty.int q.L, GX.Own 57 (Ty.num .u64) (some ⟨v.se, 0, none⟩) d.M (zsI q.st.E), SetR v.kn 2 (q.st.D.map key), GX.Own 3 Ty.int q.ao q.cap q.st.xs, GX.Own 4 Ty.bool (some ⟨v.wt, 0, none⟩) d.M q.st.W]
      (fun _ : EdgeR d l q x y => .tuple #[]) (fun _ => []) (fun s => [RowR bl 53 [.int .i64 (d.N : Int), .int .i64 (d.W : Int), .slice (some ⟨v.am, 0, none⟩) d.M d.M, .slice (some ⟨v.go, 0, none⟩) d.M d.M, .slice (some ⟨v.ask, 0, none⟩) d.M d.M, .slice (some ⟨v.se, 0, none⟩) d.M d.M, .map (some v.kn), .slice s.q'.ao s.q'.st.xs.length s.q'.cap, .slice (some ⟨v.wt, 0, none⟩) d.M d.M], GX.Own 57 (Ty.num .u64) (some ⟨v.am, 0, none⟩) d.M (zsI s.q'.st.A), GX.Own 35 Ty.hdr (some ⟨v.go, 0, none⟩) d.M (s.q'.L.map GX.hd), Owns 3 Ty.int s.q'.L, GX.Own 57 (Ty.num .u64) (some ⟨v.se, 0, none⟩) d.M (zsI s.q'.st.E), SetR v.kn 2 (s.q'.st.D.map key), GX.Own 3 Ty.int s.q'.ao s.q'.cap s.q'.st.xs, GX.Own 4 Ty.bool (some ⟨v.wt, 0, none⟩) d.M s.q'.st.W]) := by
  refine enter Try.func35 rfl Try.ntmps35 rfl fun b => ?_
  obtain ⟨ao, cap, L, st⟩ := q
  dsimp only at *
  refine GX.wbR ?_; intros
  refine GX.o (lkS (bl := v.kn) [(x : Int), (y : Int)] ?_)
  refine GX.wbR ?_; intros
  refine GX.o (GX.alR fun b6 => ?_)
  refine GX.o (GX.stRW ?_)
  have hkm : [(x : Int), (y : Int)] ∈ st.D.map key ↔ (x, y) ∈ st.D := key_mem (p := (x, y))
  by_cases hk : [(x : Int), (y : Int)] ∈ st.D.map key
  · refine GX.wbR ?_; intros
    exact rt0 ⟨⟨ao, cap, L, st⟩, hI, Le.refl _ _, hL, .inr (hkm.1 hk), fun _ h => h⟩
  by_cases hxy : (x : Int) = (y : Int)
  · refine GX.wbR ?_; intros
    exact rt0 ⟨⟨ao, cap, L, st⟩, hI, Le.refl _ _, hL, .inl (by omega), fun _ h => h⟩
  have hla := hI.la
  have hzl := zsI_len st.A
  obtain ⟨g, hg⟩ := get_lt (show x < st.G.length by rw [hI.lg]; exact hx)
  have hgl := (hI.glen hg).1
  have hgz := zsI_len g
  obtain ⟨ag, cg, hLx, hLh⟩ := snd_get hL (show (st.G.map zsI)[x]? = some (zsI g) by rw [List.getElem?_map, hg]; rfl)
  have hLl := (List.getElem?_eq_some_iff.1 hLh).1
  have hLs := (List.getElem?_eq_some_iff.1 hLx).1
  refine GX.wbR ?_; intros
  refine GX.o (muS (bl := v.kn) [(x : Int), (y : Int)] ?_ hk)
  refine GX.wbR ?_; intros
  refine GX.osT x ?_
  refine GX.drawn2 (RowR bl 53 [.int .i64 (d.N : Int), .int .i64 (d.W : Int), .slice (some ⟨v.am, 0, none⟩) d.M d.M, .slice (some ⟨v.go, 0, none⟩) d.M d.M, .slice (some ⟨v.ask, 0, none⟩) d.M d.M, .slice (some ⟨v.se, 0, none⟩) d.M d.M, .map (some v.kn), .slice ao st.xs.length cap, .slice (some ⟨v.wt, 0, none⟩) d.M d.M]) (GX.Own 35 Ty.hdr (some ⟨v.go, 0, none⟩) d.M (L.map GX.hd)) (fun j => !(List.contains [16] j)) [(0, true), (1, true), (2, true), (3, true), (4, true), (5, true), (6, true), (7, true), (8, true), (9, true), (10, true), (11, true), (12, true), (13, false), (14, false), (15, true), (16, false)] rfl (by kernel_rfl) (by kernel_rfl) (by first | ((repeat (first | apply Go.GX.SelR.nil | apply Go.GX.SelR.cons | (with_reducible apply Go.GX.TakeR.head) | apply Go.GX.TakeR.tail)); done) | (repeat (first | apply Go.GX.SelR.nil | apply Go.GX.SelR.cons | apply Go.GX.TakeR.head | apply Go.GX.TakeR.tail))) ?_; intro wd F hW hR
  refine GX.wbT ?_; intros
  refine GX.nmS 47 ?_; rintro a47 c47 rfl rfl
  refine GX.unpin (RowR bl 53 [.int .i64 (d.N : Int), .int .i64 (d.W : Int), .slice (some ⟨v.am, 0, none⟩) d.M d.M, .slice (some ⟨v.go, 0, none⟩) d.M d.M, .slice (some ⟨v.ask, 0, none⟩) d.M d.M, .slice (some ⟨v.se, 0, none⟩) d.M d.M, .map (some v.kn), .slice ao st.xs.length cap, .slice (some ⟨v.wt, 0, none⟩) d.M d.M]) ?_
  refine GX.unpin (GX.Own 35 Ty.hdr (some ⟨v.go, 0, none⟩) d.M (L.map GX.hd)) ?_
  refine GX.wbT ?_; intros
  have e1 : zsI g ++ [(y : Int)] = zsI (g ++ [y]) := by simp [zsI]
  rw [e1, hd_set]
  refine GX.osP x ?_ (List.getElem?_set_self hLs)
  rw [List.set_set]
  have hne : x ≠ y := fun e => hxy (by rw [e])
  obtain ⟨i1, i2⟩ := inv_edge hI hg hy hne (fun h => hk (hkm.2 h)) hf
  obtain ⟨a, ha⟩ := get_lt (show x < st.A.length by omega)
  have hai := zsI_get ha
  have haz := hI.wa a (List.mem_of_getElem? ha)
  have e2 : st.D.map key ++ [[(x : Int), (y : Int)]] = (st.D ++ [(x, y)]).map key := by rw [List.map_append]; rfl
  rw [e2]
  refine GX.wbR ?_; intros
  refine GX.o (cl (join_spec bl v d l ⟨ao, cap, L.set x (a47, c47, zsI (g ++ [y])), ⟨st.A, st.E, st.G.set x (g ++ [y]), st.D ++ [(x, y)], st.W, st.xs⟩⟩ y a i1 hy haz (fun s hs => hf s (hI.snd x s ((has_some ha s).2 hs))) hM) fun s => ?_)
  obtain ⟨ao2, cap2, A2, W2, xs2, j1, j2, j6, j7⟩ := s
  dsimp only at *
  refine GX.wbR ?_; intros
  refine en0 ⟨⟨ao2, cap2, L.set x (a47, c47, zsI (g ++ [y])), ⟨A2, st.E, st.G.set x (g ++ [y]), st.D ++ [(x, y)], W2, xs2⟩⟩, j1, i2.trans j2, ?_, .inr (by simp), fun ex hc u w huw hu => ?_⟩
  · dsimp only
    rw [List.map_set, List.map_set, hL]
  · dsimp only at huw
    rw [List.mem_append, List.mem_singleton] at huw
    rcases huw with huw | huw
    · exact sub_le (i2.trans j2) (hc u w huw hu)
    · cases huw
      exact .inr fun s hs => j6 s ((has_some ha s).1 ((j7 x s hne).1 hs))
end Go.Proofs.Ytkagjpkgboeaiaa

/- The struct of what hangs on a node. -/
namespace Go.SolM
open Go Go.GX
def Ask.tup (y : Ask) := (y.kind, y.other, y.field, ())
def tyAsk : Ty Ask := Ty.co (Ty.pair Ty.int (Ty.pair Ty.int (Ty.pair Ty.int Ty.unit))) Ask.tup
instance : Sub tyAsk 0 Ty.int Ask.kind (fun z y => { y with kind := z }) := (Sub.co (Sub.fst (Sub.whole _)) (fun _ => rfl) (fun _ _ => rfl))
instance : Sub tyAsk 1 Ty.int Ask.other (fun z y => { y with other := z }) := (Sub.co (Sub.snd (Sub.fst (Sub.whole _))) (fun _ => rfl) (fun _ _ => rfl))
instance : Sub tyAsk 2 Ty.int Ask.field (fun z y => { y with field := z }) := (Sub.co (Sub.snd (Sub.snd (Sub.fst (Sub.whole _)))) (fun _ => rfl) (fun _ _ => rfl))
end Go.SolM
namespace Go.Proofs.Ytkagjpkgboeaiaa
open Go Go.RR Go.RX Go.GX Go.SolM
instance : UTy Try.prog 73 tyAsk ⟨0, 0, 0⟩ (.agg #[.int .i64 0, .int .i64 0, .int .i64 0]) := ⟨Try.zeroValue73, fun _ _ => (co_rd (pair_rd (c1 := [_]) rfl num_rd (pair_rd (c1 := [_]) rfl num_rd (pair_rd (c1 := [_]) rfl num_rd unit_rd))))⟩
instance {ps : List Pf} {v_a v_b v_f : Value} {x_a : Int} {x_b : Int} {x_f : Int} [OneV v_a] [OneV v_b] [OneV v_f] [h_a : Rds ps v_a Ty.int x_a] [h_b : Rds ps v_b Ty.int x_b] [h_f : Rds ps v_f Ty.int x_f] : Rds ps (.agg #[v_a, v_b, v_f]) tyAsk ⟨x_a, x_b, x_f⟩ := ⟨.of fun F w h => co_rd (pair_rd (c1 := [_]) rfl (rdo (h_a.r.as F w h)) (pair_rd (c1 := [_]) rfl (rdo (h_b.r.as F w h)) (pair_rd (c1 := [_]) rfl (rdo (h_f.r.as F w h)) unit_rd)))⟩
end Go.Proofs.Ytkagjpkgboeaiaa

/- The walks over solve's answers and begin. -/
namespace Go.Proofs.Ytkagjpkgboeaiaa
open Go Go.RR Go.RX Go.GX Go.Api Go.RiseM Go.SolM Go.SetM Go.NumM
attribute [local irreducible] wpList Code.wp wpPlan Exit.then Exit.inBlock bodyPost NoPanic Went GX.Post GX.Again GX.Meet GX.RowR GX.Own GX.Owns GX.Box GX.Sl GX.Pt GX.Ag GX.MapR GX.SetR GX.Kept GX.Pin wpT GoK AtEnd Both
structure AnsR (d : Dim) (l : List Con) (q : SQ) (ks : List SolM.Ask) (k : Nat) where
  q' : SQ
  inv : Inv d l q'.st
  le : Le d q.st q'.st
  L : q'.L.map (·.2.2) = q'.st.G.map zsI
  ok : ∀ a ∈ ks, EdgeOk q'.st (askEdge d a k).1 (askEdge d a k).2
  c3 : ∀ ex, C3 q.st ex → C3 q'.st ex
set_option maxHeartbeats 2000000 in
theorem answers_spec (bl : Nat) (v : VV) (d : Dim) (l : List Con) (q : SQ) (K : List (List SolM.Ask)) (n k : Nat) (ks : List SolM.Ask) (hI : Inv d l q.st) (hL : q.L.map (·.2.2) = q.st.G.map zsI) (hK : Asks d l K) (hks : K[n]? = some ks) (hk : k < d.S) (hn : In d l n k) (hM : d.M ≤ 100000) :
    Does Try.prog 39 [.pointer (some ⟨bl, 0, none⟩), .int .i64 (n : Int), .int .i64 (k : Int)] [Sl (Ty.slice tyAsk) (some ⟨v.ask, 0, none⟩) d.M K] [RowR bl 53 [.int .i64 (d.N : Int), .int .i64 (d.W : Int), .slice (some ⟨v.am, 0, none⟩) d.M d.M, .slice (some ⟨v.go, 0, none⟩) d.M d.M, .slice (some ⟨v.ask, 0, none⟩) d.M d.M, .slice (some ⟨v.se, 0, none⟩) d.M d.M, .map (some v.kn), .slice q.ao q.st.xs.length q.cap, .slice (some ⟨v.wt, 0, none⟩) d.M d.M], GX.Own 57 (Ty.num .u64) (some ⟨v.am, 0, none⟩) d.M (zsI q.st.A), GX.Own 35 Ty.hdr (some ⟨v.go, 0, none⟩) d.M (q.L.map GX.hd), Owns 3 Ty.int q.L, GX.Own 57 (Ty.num .u64) (some ⟨v.se, 0, none⟩) d.M (zsI q.st.E), SetR v.kn 2 (q.st.D.map key), GX.Own 3 Ty.int q.ao q.cap q.st.xs, GX.Own 4 Ty.bool (some ⟨v.wt, 0, none⟩) d.M q.st.W]
      (fun _ : AnsR d l q ks k => .tuple #[]) (fun _ => []) (fun s => [RowR bl 53 [.int .i64 (d.N : Int), .int .i64 (d.W : Int), .slice (some ⟨v.am, 0, none⟩) d.M d.M, .slice (some ⟨v.go, 0, none⟩) d.M d.M, .slice (some ⟨v.ask, 0, none⟩) d.M d.M, .slice (some ⟨v.se, 0, none⟩) d.M d.M, .map (some v.kn), .slice s.q'.ao s.q'.st.xs.length s.q'.cap, .slice (some ⟨v.wt, 0, none⟩) d.M d.M], GX.Own 57 (Ty.num .u64) (some ⟨v.am, 0, none⟩) d.M (zsI s.q'.st.A), GX.Own 35 Ty.hdr (some ⟨v.go, 0, none⟩) d.M (s.q'.L.map GX.hd), Owns 3 Ty.int s.q'.L, GX.Own 57 (Ty.num .u64) (some ⟨v.se, 0, none⟩) d.M (zsI s.q'.st.E), SetR v.kn 2 (s.q'.st.D.map key), GX.Own 3 Ty.int s.q'.ao s.q'.cap s.q'.st.xs, GX.Own 4 Ty.bool (some ⟨v.wt, 0, none⟩) d.M s.q'.st.W]) := by
  refine enter Try.func39 rfl Try.ntmps39 rfl fun b => ?_
  have hKl := hK.1
  refine GX.wbR ?_; intros
  refine GX.nmS 14 ?_; rintro a14 c14 rfl rfl
  refine GX.loop (σ := Nat × SQ) (fun s => [(0, .pointer (some ⟨bl, 0, none⟩)), (1, .int .i64 (n : Int)), (2, .int .i64 (k : Int)), (14, .slice a14 ks.length c14), (15, .int .i64 (ks.length : Int)), (16, .int .i64 (s.1 : Int))]) (fun _ => []) (fun s => [RowR bl 53 [.int .i64 (d.N : Int), .int .i64 (d.W : Int), .slice (some ⟨v.am, 0, none⟩) d.M d.M, .slice (some ⟨v.go, 0, none⟩) d.M d.M, .slice (some ⟨v.ask, 0, none⟩) d.M d.M, .slice (some ⟨v.se, 0, none⟩) d.M d.M, .map (some v.kn), .slice s.2.ao s.2.st.xs.length s.2.cap, .slice (some ⟨v.wt, 0, none⟩) d.M d.M], GX.Own 57 (Ty.num .u64) (some ⟨v.am, 0, none⟩) d.M (zsI s.2.st.A), GX.Own 35 Ty.hdr (some ⟨v.go, 0, none⟩) d.M (s.2.L.map GX.hd), Owns 3 Ty.int s.2.L, GX.Own 57 (Ty.num .u64) (some ⟨v.se, 0, none⟩) d.M (zsI s.2.st.E), SetR v.kn 2 (s.2.st.D.map key), GX.Own 3 Ty.int s.2.ao s.2.cap s.2.st.xs, GX.Own 4 Ty.bool (some ⟨v.wt, 0, none⟩) d.M s.2.st.W])
    (fun s => s.1 ≤ ks.length ∧ Inv d l s.2.st ∧ Le d q.st s.2.st ∧ s.2.L.map (·.2.2) = s.2.st.G.map zsI ∧ (∀ a ∈ ks.take s.1, EdgeOk s.2.st (askEdge d a k).1 (askEdge d a k).2) ∧ ∀ ex, C3 q.st ex → C3 s.2.st ex) (fun s => ks.length - s.1) (0, q) ⟨rfl, rfl, rfl, rfl, rfl, rfl, trivial⟩ ⟨by simp, hI, Le.refl _ _, hL, by simp, fun _ h => h⟩ (fun s hs => ?_)
  obtain ⟨i, q2⟩ := s
  obtain ⟨hi, h1, h2, h3, h4, h5⟩ := hs
  dsimp only at *
  by_cases hlt : i < ks.length
  · obtain ⟨a, ha⟩ := get_lt hlt
    have hA := hK.2 n ks hks a (List.mem_of_getElem? ha)
    obtain ⟨o0, o1⟩ := hA.other
    obtain ⟨f0, f1⟩ := hA.field
    obtain ⟨l1, l2⟩ := hA.lt hk
    have hfl := hA.flow k hn
    obtain ⟨ao, ho⟩ := Int.eq_ofNat_of_zero_le o0
    obtain ⟨af, hf⟩ := Int.eq_ofNat_of_zero_le f0
    obtain ⟨kd, ot, fi⟩ := a
    dsimp only at *
    subst ho; subst hf
    have step : ∀ q3 : SQ, Le d q2.st q3.st → EdgeOk q3.st (askEdge d ⟨kd, ao, af⟩ k).1 (askEdge d ⟨kd, ao, af⟩ k).2 → ∀ a ∈ ks.take (i + 1), EdgeOk q3.st (askEdge d a k).1 (askEdge d a k).2 := fun q3 hle he a ha2 => by
      rw [List.take_add_one, ha, List.mem_append] at ha2
      rcases ha2 with ha2 | ha2
      · exact (h4 a ha2).le hle
      · simp at ha2; subst ha2; exact he
    refine GX.wbR ?_; intros
    refine GX.nmP 7 ?_; rintro b7 rfl
    refine frzB b7 ?_
    by_cases e3 : kd = 3
    · have he : askEdge d ⟨kd, ao, af⟩ k = (d.fld k af, ao) := by unfold askEdge; rw [if_pos e3]; simp
      rw [he] at hfl l1 l2
      refine GX.wbR ?_; intros
      refine GX.drawn0  (fun j => !(List.contains [8] j)) [(0, true), (1, true), (2, true), (3, true), (4, true), (6, true), (7, true), (5, false), (8, false)] rfl (by kernel_rfl) (by kernel_rfl) (by first | ((repeat (first | apply Go.GX.SelR.nil | apply Go.GX.SelR.cons | (with_reducible apply Go.GX.TakeR.head) | apply Go.GX.TakeR.tail)); done) | (repeat (first | apply Go.GX.SelR.nil | apply Go.GX.SelR.cons | apply Go.GX.TakeR.head | apply Go.GX.TakeR.tail))) ?_; intro wd F hW hR
      refine GX.wbT ?_; intros
      refine GX.gow ?_
      refine (cl (field_spec bl _ d k af rfl rfl hk (by omega) hM) fun _ => ?_)
      refine GX.wbT ?_; intros
      refine GX.gow ?_
      refine (cl (edge_spec bl v d l q2 (d.fld k af) ao h1 h3 l1 l2 hfl (by omega)) fun s => ?_)
      obtain ⟨q3, j1, j2, j3, j4, j5⟩ := s
      dsimp only
      refine GX.wbT ?_; intros
      refine GX.wbR ?_; intros
      exact again (i + 1, q3) ⟨rfl, rfl, rfl, rfl, rfl, rfl, trivial⟩ ⟨by dsimp only; omega, j1, h2.trans j2, j3, step q3 j2 (by rw [he]; exact j4), fun ex h => j5 ex (h5 ex h)⟩ (by dsimp only; omega)
    · have he : askEdge d ⟨kd, ao, af⟩ k = (ao, d.fld k af) := by unfold askEdge; rw [if_neg e3]; simp
      rw [he] at hfl l1 l2
      refine GX.wbR ?_; intros
      refine GX.drawn0  (fun j => !(List.contains [8] j)) [(0, true), (1, true), (2, true), (3, true), (4, true), (5, true), (6, true), (7, false), (8, false)] rfl (by kernel_rfl) (by kernel_rfl) (by first | ((repeat (first | apply Go.GX.SelR.nil | apply Go.GX.SelR.cons | (with_reducible apply Go.GX.TakeR.head) | apply Go.GX.TakeR.tail)); done) | (repeat (first | apply Go.GX.SelR.nil | apply Go.GX.SelR.cons | apply Go.GX.TakeR.head | apply Go.GX.TakeR.tail))) ?_; intro wd F hW hR
      refine GX.wbT ?_; intros
      refine GX.gow ?_
      refine (cl (field_spec bl _ d k af rfl rfl hk (by omega) hM) fun _ => ?_)
      refine GX.wbT ?_; intros
      refine GX.gow ?_
      refine (cl (edge_spec bl v d l q2 ao (d.fld k af) h1 h3 l1 l2 hfl (by omega)) fun s => ?_)
      obtain ⟨q3, j1, j2, j3, j4, j5⟩ := s
      dsimp only
      refine GX.wbT ?_; intros
      refine GX.wbR ?_; intros
      exact again (i + 1, q3) ⟨rfl, rfl, rfl, rfl, rfl, rfl, trivial⟩ ⟨by dsimp only; omega, j1, h2.trans j2, j3, step q3 j2 (by rw [he]; exact j4), fun ex h => j5 ex (h5 ex h)⟩ (by dsimp only; omega)
  · rw [List.take_of_length_le (by omega)] at h4
    refine GX.wbR ?_; intros
    exact en0 ⟨q2, h1, h2, h3, h4, h5⟩
end Go.Proofs.Ytkagjpkgboeaiaa
