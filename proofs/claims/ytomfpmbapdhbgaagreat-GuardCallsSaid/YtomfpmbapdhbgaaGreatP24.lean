import Derived.Test.YtomfpmbapdhbgaaGreatP13
import Derived.Test.YtomfpmbapdhbgaaGreatP15
import Derived.Test.YtomfpmbapdhbgaaGreatP20
import Derived.Test.YtomfpmbapdhbgaaGreatP21
import Derived.Test.YtomfpmbapdhbgaaGreatP23
/- The walks over container/heap at guard's queue. -/
namespace Go.Proofs.YtomfpmbapdhbgaaGreat
open Go Go.RR Go.RX Go.GX Go.Api
attribute [local irreducible] wpList Code.wp wpPlan Exit.then Exit.inBlock bodyPost NoPanic Went GX.Post GX.Again GX.Meet GX.RowR GX.Own GX.Owns GX.Box GX.Sl GX.Pt GX.Ag GX.MapR GX.Kept GX.Pin wpT GoK AtEnd Both
instance : UPlainT Tryz.prog 3 := ⟨fun w => ⟨_, run_underlying Tryz.underlying3 w, fun m h => by cases h⟩⟩
instance : UPlainT Tryz.prog 91 := ⟨fun w => ⟨_, run_underlying Tryz.underlying91 w, fun m h => by cases h⟩⟩
instance : UMeth Tryz.prog 91 "Len" 57 false := ⟨by kernel_rfl⟩
instance : UMeth Tryz.prog 91 "Less" 165 false := ⟨by kernel_rfl⟩
instance : UMeth Tryz.prog 91 "Swap" 166 false := ⟨by kernel_rfl⟩
instance : UMeth Tryz.prog 91 "Push" 168 true := ⟨by kernel_rfl⟩
instance : UMeth Tryz.prog 91 "Pop" 167 true := ⟨by kernel_rfl⟩
theorem qlen_spec (ao : Option Addr) (n cap : Nat) : Does Tryz.prog 57 [.slice ao n cap] [] [] (fun _ : Unit => .int .i64 (n : Int)) (fun _ => []) (fun _ => []) := by
  refine enter Tryz.func57 rfl Tryz.ntmps57 rfl fun b => ?_
  refine GX.wa_R ?_; intros
  exact rt1 () rfl
theorem qlenI (ao : Option Addr) (n cap v : Nat) (h : n = v) : Does Tryz.prog 57 [.slice ao n cap] [] [] (fun _ : Unit => .int .i64 (v : Int)) (fun _ => []) (fun _ => []) := by
  rw [← h]; exact qlen_spec ao n cap
theorem qless_spec (g cap : Nat) (xs : List Int) (i j : Nat) (x y : Int) (hx : xs[i]? = some x) (hy : xs[j]? = some y) : Does Tryz.prog 165 [.slice (some ⟨g, 0, none⟩) xs.length cap, .int .i64 (i : Int), .int .i64 (j : Int)] [] [GX.Own 3 Ty.int (some ⟨g, 0, none⟩) cap xs] (fun _ : Unit => .bool (decide (x < y))) (fun _ => []) (fun _ => [GX.Own 3 Ty.int (some ⟨g, 0, none⟩) cap xs]) := by
  refine enter Tryz.func165 rfl Tryz.ntmps165 rfl fun b => ?_
  have hi := (List.getElem?_eq_some_iff.1 hx).1
  have hj := (List.getElem?_eq_some_iff.1 hy).1
  refine GX.wa_R ?_; intros
  refine GX.drawn1 (GX.Own 3 Ty.int (some ⟨g, 0, none⟩) cap xs) (fun j => !(List.contains [] j)) [(0, true), (1, true), (2, true), (3, true), (4, true), (5, true), (6, true), (7, true), (8, true), (9, true)] rfl (by kernel_rfl) (by kernel_rfl) (by first | ((repeat (first | apply Go.GX.SelR.nil | apply Go.GX.SelR.cons | (with_reducible apply Go.GX.TakeR.head) | apply Go.GX.TakeR.tail)); done) | (repeat (first | apply Go.GX.SelR.nil | apply Go.GX.SelR.cons | apply Go.GX.TakeR.head | apply Go.GX.TakeR.tail))) ?_; intro wd F hW hR
  refine GX.wa_T ?_; intros
  refine GX.unpin (GX.Own 3 Ty.int (some ⟨g, 0, none⟩) cap xs) ?_
  refine GX.wa_R ?_; intros
  exact rt1 () rfl
theorem qswap_spec (g cap : Nat) (xs : List Int) (i j : Nat) (x y : Int) (hx : xs[i]? = some x) (hy : xs[j]? = some y) : Does Tryz.prog 166 [.slice (some ⟨g, 0, none⟩) xs.length cap, .int .i64 (i : Int), .int .i64 (j : Int)] [] [GX.Own 3 Ty.int (some ⟨g, 0, none⟩) cap xs] (fun _ : Unit => .tuple #[]) (fun _ => []) (fun _ => [GX.Own 3 Ty.int (some ⟨g, 0, none⟩) cap ((xs.set i y).set j x)]) := by
  refine enter Tryz.func166 rfl Tryz.ntmps166 rfl fun b => ?_
  have hi := (List.getElem?_eq_some_iff.1 hx).1
  have hj := (List.getElem?_eq_some_iff.1 hy).1
  refine GX.wa_R ?_; intros
  refine GX.drawn1 (GX.Own 3 Ty.int (some ⟨g, 0, none⟩) cap xs) (fun j => !(List.contains [13, 15] j)) [(0, true), (1, true), (2, true), (3, true), (4, true), (5, true), (6, true), (7, true), (8, true), (9, true), (10, true), (11, true), (12, true), (13, false), (14, true), (15, false)] rfl (by kernel_rfl) (by kernel_rfl) (by first | ((repeat (first | apply Go.GX.SelR.nil | apply Go.GX.SelR.cons | (with_reducible apply Go.GX.TakeR.head) | apply Go.GX.TakeR.tail)); done) | (repeat (first | apply Go.GX.SelR.nil | apply Go.GX.SelR.cons | apply Go.GX.TakeR.head | apply Go.GX.TakeR.tail))) ?_; intro wd F hW hR
  refine GX.wa_T ?_; intros
  refine GX.unpin (GX.Own 3 Ty.int (some ⟨g, 0, none⟩) cap xs) ?_
  have hl : (xs.set i y).length = xs.length := List.length_set
  refine GX.wa_T ?_; intros
  refine GX.wa_R ?_; intros
  exact en0 ()
def qT (b : Nat) (o : Nat) : Value := .iface 91 (.pointer (some ⟨b, o, none⟩))
theorem swap_perm {xs : List Int} {i j : Nat} {x y : Int} (hx : xs[i]? = some x) (hy : xs[j]? = some y) : ((xs.set i y).set j x).Perm xs := by
  obtain ⟨hi, rfl⟩ := List.getElem?_eq_some_iff.1 hx
  obtain ⟨hj, rfl⟩ := List.getElem?_eq_some_iff.1 hy
  exact List.set_set_perm hi hj
section
variable {P : Program} {n : Nat} {env : Env} {b : Base} {ps : List Pf} {hp : List Res} {Q : Exit → Act → World → Prop} {K : Act → World → Prop}
theorem quo0 {t t' : TypeId} {x y : Operand} {d : Nat} {ty : TypeId} {pos : String} {aft : Array Edge} {gd : Option (Nat × Bool)} (h : G n ((d, .int .i64 ((0 : Nat) : Int)) :: env) b ps hp K) (hx : ev env x = some (.int .i64 (((0 : Nat) : Int) - 1)) := by exact rfl) (hy : ev env y = some (.int .i64 2) := by exact rfl) (hd : Nat.blt d n = true := by exact rfl) : GO P n env b ps hp ⟨some d, .binOp .quo t x y t', ty, pos, aft, gd⟩ K Q := GX.rd1 (fun a ha o ho w _ => by
  simp [execOp, ho, ha.ev hx, ha.ev hy, eqGuard_at_int, binOp, Op.intDiv]
  decide) hd h
end
section
variable {P : Program} {n : Nat} {env : Env} {b : Base} {ps : List Pf} {hp : List Res} {Q : Exit → Act → World → Prop} {K : Act → World → Prop}
theorem rtas {d : Nat} {ty : TypeId} {pos : String} {aft : Array Edge} {gd : Option (Nat × Bool)} {psW : List Pf} {hpS : List Res} {wd : World} {F : Nat → Prop} {t t' : TypeId} {x : Operand} {v : Value} [UPlainT P t'] (h : G n ((d, v) :: env) b ps hp K) (hx : ev env x = some (.iface t' v) := by exact rfl) (hd : Nat.blt d n = true := by exact rfl) : GX.GTR P n env psW hpS wd F b ps hp K ⟨some d, .typeAssert x t t' false, ty, pos, aft, gd⟩ := .v (.of_soft fun _ => tas_v hx) hd h
end
set_option maxHeartbeats 1000000 in
theorem up_spec (bl o g cap : Nat) (vs : List Value) (xs : List Int) (j : Nat) (hv : vs[o]? = some (.slice (some ⟨g, 0, none⟩) xs.length cap)) (hj : j < xs.length) (hl : xs.length ≤ 1000000) :
    Does Tryz.prog 115 [qT bl o, .int .i64 (j : Int)] [] [RowR bl 66 vs, GX.Own 3 Ty.int (some ⟨g, 0, none⟩) cap xs] (fun _ : { ys : List Int // ys.Perm xs } => .tuple #[]) (fun _ => []) (fun s => [RowR bl 66 vs, GX.Own 3 Ty.int (some ⟨g, 0, none⟩) cap s.1]) := by
  refine enter Tryz.func115 rfl Tryz.ntmps115 rfl fun b => ?_
  refine GX.wa_R ?_; intros
  refine GX.loop (σ := List Int × Nat) (fun q => [(0, qT bl o), (1, .int .i64 (q.2 : Int))]) (fun _ => []) (fun q => [RowR bl 66 vs, GX.Own 3 Ty.int (some ⟨g, 0, none⟩) cap q.1])
    (fun q => q.1.Perm xs ∧ q.2 < q.1.length) (fun q => q.2) (xs, j) ⟨rfl, rfl, trivial⟩ ⟨List.Perm.refl _, hj⟩ (fun q hq => ?_)
  obtain ⟨ys, j⟩ := q
  obtain ⟨h1, h2⟩ := hq
  dsimp only at *
  have hyl := h1.length_eq
  have hv2 : vs[o]? = some (.slice (some ⟨g, 0, none⟩) ys.length cap) := by rw [hyl]; exact hv
  cases j with
  | zero =>
    refine GX.wa_R ?_; intros
    refine GX.o (quo0 ?_)
    refine GX.wa_R ?_; intros
    exact en0 ⟨ys, h1⟩
  | succ m =>
    obtain ⟨x, hx⟩ := get_lt h2
    have h3 : m / 2 < ys.length := by omega
    obtain ⟨y, hy⟩ := get_lt h3
    have hne : ¬ ((m / 2 : Nat) : Int) = ((m + 1 : Nat) : Int) := by omega
    refine GX.wa_R ?_; intros
    refine GX.o (clw (qless_spec g cap ys (m + 1) (m / 2) x y hx hy) hv2 fun _ => ?_)
    by_cases hxy : x < y
    · refine GX.wa_R ?_; intros
      refine GX.o (clw (qswap_spec g cap ys (m / 2) (m + 1) y x hy hx) hv2 fun _ => ?_)
      refine GX.wa_R ?_; intros
      exact again ((ys.set (m / 2) x).set (m + 1) y, m / 2) ⟨rfl, rfl, trivial⟩ ⟨(swap_perm hy hx).trans h1, by simp; omega⟩ (by dsimp only; omega)
    · refine GX.wa_R ?_; intros
      exact en0 ⟨ys, h1⟩
theorem qlessI (g cap : Nat) (xs : List Int) (a c : Int) (i j : Nat) (x y : Int) (ha : a = (i : Int)) (hc : c = (j : Int)) (hx : xs[i]? = some x) (hy : xs[j]? = some y) : Does Tryz.prog 165 [.slice (some ⟨g, 0, none⟩) xs.length cap, .int .i64 a, .int .i64 c] [] [GX.Own 3 Ty.int (some ⟨g, 0, none⟩) cap xs] (fun _ : Unit => .bool (decide (x < y))) (fun _ => []) (fun _ => [GX.Own 3 Ty.int (some ⟨g, 0, none⟩) cap xs]) := by
  rw [ha, hc]; exact qless_spec g cap xs i j x y hx hy
theorem qswapI (g cap : Nat) (xs : List Int) (a c : Int) (i j : Nat) (x y : Int) (ha : a = (i : Int)) (hc : c = (j : Int)) (hx : xs[i]? = some x) (hy : xs[j]? = some y) : Does Tryz.prog 166 [.slice (some ⟨g, 0, none⟩) xs.length cap, .int .i64 a, .int .i64 c] [] [GX.Own 3 Ty.int (some ⟨g, 0, none⟩) cap xs] (fun _ : Unit => .tuple #[]) (fun _ => []) (fun _ => [GX.Own 3 Ty.int (some ⟨g, 0, none⟩) cap ((xs.set i y).set j x)]) := by
  rw [ha, hc]; exact qswap_spec g cap xs i j x y hx hy
set_option maxHeartbeats 1000000 in
theorem down_spec (bl o g cap : Nat) (vs : List Value) (xs : List Int) (i0 n : Nat) (hv : vs[o]? = some (.slice (some ⟨g, 0, none⟩) xs.length cap)) (hn : n ≤ xs.length) (hi0 : i0 ≤ n) (hl : xs.length ≤ 1000000) :
    Does Tryz.prog 84 [qT bl o, .int .i64 (i0 : Int), .int .i64 (n : Int)] [] [RowR bl 66 vs, GX.Own 3 Ty.int (some ⟨g, 0, none⟩) cap xs] (fun s : { q : List Int × Bool // q.1.Perm xs ∧ ∀ k, n ≤ k → q.1[k]? = xs[k]? } => .bool s.1.2) (fun _ => []) (fun s => [RowR bl 66 vs, GX.Own 3 Ty.int (some ⟨g, 0, none⟩) cap s.1.1]) := by
  refine enter Tryz.func84 rfl Tryz.ntmps84 rfl fun b => ?_
  refine GX.wa_R ?_; intros
  refine GX.loop (σ := List Int × Nat) (fun q => [(0, qT bl o), (1, .int .i64 (i0 : Int)), (2, .int .i64 (n : Int)), (7, .int .i64 (q.2 : Int))]) (fun _ => []) (fun q => [RowR bl 66 vs, GX.Own 3 Ty.int (some ⟨g, 0, none⟩) cap q.1])
    (fun q => q.1.Perm xs ∧ (∀ k, n ≤ k → q.1[k]? = xs[k]?) ∧ q.2 ≤ n) (fun q => n - q.2) (xs, i0) ⟨rfl, rfl, rfl, rfl, trivial⟩ ⟨List.Perm.refl _, fun _ _ => rfl, hi0⟩ (fun q hq => ?_)
  obtain ⟨ys, i⟩ := q
  obtain ⟨h1, h0, h2⟩ := hq
  dsimp only at *
  have hyl := h1.length_eq
  have hv2 : vs[o]? = some (.slice (some ⟨g, 0, none⟩) ys.length cap) := by rw [hyl]; exact hv
  have hiy : i < ys.length ∨ n ≤ 2 * i + 1 := by omega
  by_cases c1 : 2 * i + 1 < n
  · obtain ⟨y, hy⟩ := get_lt (show i < ys.length by omega)
    obtain ⟨x1, hx1⟩ := get_lt (show 2 * i + 1 < ys.length by omega)
    by_cases c2 : 2 * (i : Int) + 1 + 1 < n
    · obtain ⟨x2, hx2⟩ := get_lt (show 2 * i + 1 + 1 < ys.length by omega)
      refine GX.wa_R ?_; intros
      refine GX.o (clw (qlessI g cap ys (2 * (i : Int) + 1 + 1) (2 * (i : Int) + 1) (2 * i + 1 + 1) (2 * i + 1) x2 x1 (by omega) (by omega) hx2 hx1) hv2 fun _ => ?_)
      by_cases c3 : x2 < x1
      · refine GX.wa_R ?_; intros
        refine GX.o (clw (qlessI g cap ys (2 * (i : Int) + 1 + 1) (i : Int) (2 * i + 1 + 1) i x2 y (by omega) rfl hx2 hy) hv2 fun _ => ?_)
        by_cases hxy : x2 < y
        · refine GX.wa_R ?_; intros
          refine GX.o (clw (qswapI g cap ys (i : Int) (2 * (i : Int) + 1 + 1) i (2 * i + 1 + 1) y x2 rfl (by omega) hy hx2) hv2 fun _ => ?_)
          refine GX.wa_R ?_; intros
          exact again ((ys.set i x2).set (2 * i + 1 + 1) y, 2 * i + 1 + 1) ⟨rfl, rfl, rfl, rfl, trivial⟩ ⟨(swap_perm hy hx2).trans h1, fun k hk => by dsimp only; rw [List.getElem?_set_ne (by omega), List.getElem?_set_ne (by omega)]; exact h0 k hk, by dsimp only; omega⟩ (by dsimp only; omega)
        · refine GX.wa_R ?_; intros
          exact rt1 ⟨(ys, _), h1, h0⟩ rfl
      · refine GX.wa_R ?_; intros
        refine GX.o (clw (qlessI g cap ys (2 * (i : Int) + 1) (i : Int) (2 * i + 1) i x1 y (by omega) rfl hx1 hy) hv2 fun _ => ?_)
        by_cases hxy : x1 < y
        · refine GX.wa_R ?_; intros
          refine GX.o (clw (qswapI g cap ys (i : Int) (2 * (i : Int) + 1) i (2 * i + 1) y x1 rfl (by omega) hy hx1) hv2 fun _ => ?_)
          refine GX.wa_R ?_; intros
          exact again ((ys.set i x1).set (2 * i + 1) y, 2 * i + 1) ⟨rfl, rfl, rfl, rfl, trivial⟩ ⟨(swap_perm hy hx1).trans h1, fun k hk => by dsimp only; rw [List.getElem?_set_ne (by omega), List.getElem?_set_ne (by omega)]; exact h0 k hk, by dsimp only; omega⟩ (by dsimp only; omega)
        · refine GX.wa_R ?_; intros
          exact rt1 ⟨(ys, _), h1, h0⟩ rfl
    · refine GX.wa_R ?_; intros
      refine GX.o (clw (qlessI g cap ys (2 * (i : Int) + 1) (i : Int) (2 * i + 1) i x1 y (by omega) rfl hx1 hy) hv2 fun _ => ?_)
      by_cases hxy : x1 < y
      · refine GX.wa_R ?_; intros
        refine GX.o (clw (qswapI g cap ys (i : Int) (2 * (i : Int) + 1) i (2 * i + 1) y x1 rfl (by omega) hy hx1) hv2 fun _ => ?_)
        refine GX.wa_R ?_; intros
        exact again ((ys.set i x1).set (2 * i + 1) y, 2 * i + 1) ⟨rfl, rfl, rfl, rfl, trivial⟩ ⟨(swap_perm hy hx1).trans h1, fun k hk => by dsimp only; rw [List.getElem?_set_ne (by omega), List.getElem?_set_ne (by omega)]; exact h0 k hk, by dsimp only; omega⟩ (by dsimp only; omega)
      · refine GX.wa_R ?_; intros
        exact rt1 ⟨(ys, _), h1, h0⟩ rfl
  · refine GX.wa_R ?_; intros
    exact rt1 ⟨(ys, _), h1, h0⟩ rfl
/-- The last one is taken off. -/
theorem qpop_spec (bl o g cap : Nat) (vs : List Value) (xs : List Int) (m : Nat) (x : Int) (hv : vs[o]? = some (.slice (some ⟨g, 0, none⟩) xs.length cap)) (hm : xs.length = m + 1) (hml : m ≤ 1000000) (hx : xs[m]? = some x) :
    Does Tryz.prog 167 [.pointer (some ⟨bl, o, none⟩)] [] [RowR bl 66 vs, GX.Own 3 Ty.int (some ⟨g, 0, none⟩) cap xs] (fun _ : Unit => .iface 3 (.int .i64 x)) (fun _ => []) (fun _ => [RowR bl 66 (vs.set o (.slice (some ⟨g, 0, none⟩) (xs.take m).length cap)), GX.Own 3 Ty.int (some ⟨g, 0, none⟩) cap (xs.take m)]) := by
  refine enter Tryz.func167 rfl Tryz.ntmps167 rfl fun b => ?_
  rw [hm] at hv
  refine GX.wa_R ?_; intros
  have hi := (List.getElem?_eq_some_iff.1 hx).1
  refine GX.o (GX.lr (hv := hv) ?_)
  refine GX.wa_R ?_; intros
  refine GX.opn (some ⟨g, 0, none⟩) fun h1 h2 _ => ?_
  refine GX.o (GX.oh (j := m) ?_)
  refine GX.wa_R ?_; intros
  have ho := (List.getElem?_eq_some_iff.1 hv).1
  have e3 : (xs.take m).length = m := by simp; omega
  refine GX.o (GX.stR (vs' := vs.set o (.slice (some ⟨g, 0, none⟩) (xs.take m).length cap)) ?_ (hi := by simpa [Nat.blt_eq] using ho) (hset := by rw [e3]))
  refine GX.ownTake (some ⟨g, 0, none⟩) m ?_
  refine GX.wa_R ?_; intros
  refine GX.o (mki ?_)
  refine GX.wa_R ?_; intros
  exact rt1 () rfl
theorem qpush_spec (bl o cap : Nat) (ao : Option Addr) (vs : List Value) (xs : List Int) (i : Int) (hv : vs[o]? = some (.slice ao xs.length cap)) (hl : xs.length ≤ 1000000) :
    Does Tryz.prog 168 [.pointer (some ⟨bl, o, none⟩), .iface 3 (.int .i64 i)] [] [RowR bl 66 vs, GX.Own 3 Ty.int ao cap xs] (fun _ : Option Addr × Nat => .tuple #[]) (fun _ => []) (fun s => [RowR bl 66 (vs.set o (.slice s.1 (xs ++ [i]).length s.2)), GX.Own 3 Ty.int s.1 s.2 (xs ++ [i])]) := by
  refine enter Tryz.func168 rfl Tryz.ntmps168 rfl fun b => ?_
  refine GX.wa_R ?_; intros
  refine GX.drawn2 (RowR bl 66 vs) (GX.Own 3 Ty.int ao cap xs) (fun j => !(List.contains [7, 9] j)) [(0, true), (1, true), (2, true), (3, true), (4, true), (5, true), (6, false), (7, false), (8, true), (9, false)] rfl (by kernel_rfl) (by kernel_rfl) (by first | ((repeat (first | apply Go.GX.SelR.nil | apply Go.GX.SelR.cons | (with_reducible apply Go.GX.TakeR.head) | apply Go.GX.TakeR.tail)); done) | (repeat (first | apply Go.GX.SelR.nil | apply Go.GX.SelR.cons | apply Go.GX.TakeR.head | apply Go.GX.TakeR.tail))) ?_; intro wd F hW hR
  refine GX.wa_T ?_; intros
  refine GX.tkr ?_
  refine GX.rlr (hv := hv) ?_
  refine GX.wa_T ?_; intros
  refine GX.tkr ?_
  refine rtas ?_
  refine GX.wa_T ?_; intros
  refine GX.unpin (GX.Own 3 Ty.int ao cap xs) ?_
  refine GX.wa_TO ?_; intros
  refine GX.unpin (RowR bl 66 vs) ?_
  refine GX.wa_T ?_; intros
  refine GX.nmS 11 ?_; rintro ao2 cap2 rfl rfl
  have ho := (List.getElem?_eq_some_iff.1 hv).1
  refine GX.gow ?_
  refine GX.stR (vs' := vs.set o (.slice ao2 (xs ++ [i]).length cap2)) ?_ (hi := by simpa [Nat.blt_eq] using ho) (hset := rfl)
  refine GX.wa_T ?_; intros
  refine GX.wa_R ?_; intros
  exact en0 (ao2, cap2)
set_option maxHeartbeats 1000000 in
/-- The least is taken off. -/
theorem hpop_spec (bl o g cap : Nat) (vs : List Value) (xs : List Int) (m : Nat) (hv : vs[o]? = some (.slice (some ⟨g, 0, none⟩) xs.length cap)) (hm : xs.length = m + 1) (hml : m ≤ 900000) :
    Does Tryz.prog 58 [qT bl o] [] [RowR bl 66 vs, GX.Own 3 Ty.int (some ⟨g, 0, none⟩) cap xs] (fun s : { q : Int × List Int // (q.1 :: q.2).Perm xs } => .iface 3 (.int .i64 s.1.1)) (fun _ => []) (fun s => [RowR bl 66 (vs.set o (.slice (some ⟨g, 0, none⟩) s.1.2.length cap)), GX.Own 3 Ty.int (some ⟨g, 0, none⟩) cap s.1.2]) := by
  refine enter Tryz.func58 rfl Tryz.ntmps58 rfl fun b => ?_
  have ho := (List.getElem?_eq_some_iff.1 hv).1
  obtain ⟨x, hx⟩ := get_lt (show 0 < xs.length by omega)
  obtain ⟨y, hy0⟩ := get_lt (show m < xs.length by omega)
  refine GX.wa_R ?_; intros
  refine GX.o (clw (qlen_spec (some ⟨g, 0, none⟩) xs.length cap) hv fun _ => ?_)
  rw [hm]
  refine GX.wa_R ?_; intros
  refine GX.o (clw (qswapI g cap xs 0 (m : Int) 0 m x y rfl rfl hx hy0) hv fun _ => ?_)
  refine GX.wa_R ?_; intros
  have hl2 : ((xs.set 0 y).set m x).length = xs.length := by simp
  refine GX.o (GX.cl (down_spec bl o g cap vs ((xs.set 0 y).set m x) 0 m (by rw [hl2]; exact hv) (by omega) (by omega) (by omega)) fun s => ?_)
  obtain ⟨⟨ys, r⟩, hy, hk⟩ := s
  dsimp only at hy hk ⊢
  have e2 := hy.length_eq
  have hyx : ys[m]? = some x := by rw [hk m (Nat.le_refl _)]; exact List.getElem?_set_self (by simp; omega)
  refine GX.wa_R ?_; intros
  refine GX.o (clm (qpop_spec bl o g cap vs ys m x (by rw [e2, hl2]; exact hv) (by omega) (by omega) hyx) fun _ => ?_)
  have e3 : (ys.take m).length = m := by simp; omega
  have e4 : (x :: ys.take m).Perm xs := by
    refine List.Perm.trans ?_ (hy.trans (swap_perm hx hy0))
    obtain ⟨h5, h6⟩ := List.getElem?_eq_some_iff.1 hyx
    have h7 := List.take_append_drop m ys
    rw [List.drop_eq_getElem_cons h5, h6, List.drop_of_length_le (by omega)] at h7
    exact (List.perm_append_singleton x (ys.take m)).symm.trans (List.Perm.of_eq h7)
  refine GX.wa_R ?_; intros
  exact rt1 ⟨(x, ys.take m), e4⟩ rfl
theorem hpush_spec (bl o cap : Nat) (ao : Option Addr) (vs : List Value) (xs : List Int) (i : Int) (hv : vs[o]? = some (.slice ao xs.length cap)) (hl : xs.length ≤ 900000) :
    Does Tryz.prog 83 [qT bl o, .iface 3 (.int .i64 i)] [] [RowR bl 66 vs, GX.Own 3 Ty.int ao cap xs] (fun _ : { q : Option Addr × Nat × List Int // q.2.2.Perm (xs ++ [i]) } => .tuple #[]) (fun _ => []) (fun s => [RowR bl 66 (vs.set o (.slice s.1.1 s.1.2.2.length s.1.2.1)), GX.Own 3 Ty.int s.1.1 s.1.2.1 s.1.2.2]) := by
  refine enter Tryz.func83 rfl Tryz.ntmps83 rfl fun b => ?_
  refine GX.wa_R ?_; intros
  refine GX.o (clm (qpush_spec bl o cap ao vs xs i hv (by omega)) fun s => ?_)
  obtain ⟨ao2, cap2⟩ := s
  dsimp only
  have ho := (List.getElem?_eq_some_iff.1 hv).1
  refine GX.wa_R ?_; intros
  have e1 : (xs ++ [i]).length = xs.length + 1 := by simp
  refine GX.o (clw (qlenI ao2 (xs ++ [i]).length cap2 (xs.length + 1) e1) (List.getElem?_set_self ho) fun _ => ?_)
  refine GX.wa_R ?_; intros
  refine GX.opn ao2 fun _ _ h3 => ?_
  obtain ⟨h3, _⟩ | ⟨g, h3⟩ := h3
  · exact absurd h3 (by simp)
  subst h3
  refine GX.o (GX.cl (up_spec bl o g cap2 (vs.set o (.slice (some ⟨g, 0, none⟩) (xs ++ [i]).length cap2)) (xs ++ [i]) xs.length (List.getElem?_set_self ho) (by omega) (by omega)) fun s => ?_)
  obtain ⟨ys, hy⟩ := s
  dsimp only
  have e2 := hy.length_eq
  rw [← e2]
  refine GX.wa_R ?_; intros
  exact en0 ⟨(_, _, ys), hy⟩
end Go.Proofs.YtomfpmbapdhbgaaGreat

/- The walk over guard's comes. -/
namespace Go.Proofs.YtomfpmbapdhbgaaGreat
open Go Go.RR Go.RX Go.GX Go.Api Go.RiseM Go.ReachM Go.RtM Go.LivM
attribute [local irreducible] wpList Code.wp wpPlan Exit.then Exit.inBlock bodyPost NoPanic Went GX.Post GX.Again GX.Meet GX.RowR GX.Own GX.Owns GX.Box GX.Sl GX.Pt GX.Ag GX.MapR GX.Kept GX.Pin wpT GoK AtEnd Both
theorem set_id {α : Type} {l : List α} {i : Nat} {x : α} (h : l[i]? = some x) : l.set i x = l := by
  obtain ⟨h1, h2⟩ := List.getElem?_eq_some_iff.1 h
  rw [← h2]; exact List.set_getElem_self h1
/-- What a guard turns: the queue, the states, what waits. -/
structure GQ where
  ao : Option Addr
  cap : Nat
  xs : List Int
  S : List Api.State
  W : List Bool
structure ComR (q : GQ) (j : Nat) (L st : List Int) (o : Api.State) (wj : Bool) where
  q' : GQ
  r : Bool
  no : r = false → o.met = true ∧ o.live ≠ L
  yes : r = true → (o.met = true → o.live = L) ∧ (o.met = true ∧ (puts (st ++ o.stale)).length = o.stale.length ∧ q'.S = q.S ∧ q'.W = q.W ∧ q'.xs = q.xs ∨
    ¬ (o.met = true ∧ (puts (st ++ o.stale)).length = o.stale.length) ∧ q'.S = q.S.set j (GuaM.lay L st o) ∧ q'.W = q.W.set j true ∧ (wj = true ∧ q'.xs = q.xs ∨ wj = false ∧ q'.xs.Perm (q.xs ++ [(j : Int)])))
set_option maxHeartbeats 2000000 in
theorem comes_spec (bl : Nat) (v : GV) (t : RTg) (u : Unt) (k : Int) (q : GQ) (j : Nat) (aL : Option Addr) (cL : Nat) (L : List Int) (aT : Option Addr) (cT : Nat) (st : List Int) (o : Api.State) (wj : Bool) (ho : q.S[j]? = some o) (hw : q.W[j]? = some wj) (hS : q.S.length = u.ins.length) (hW : q.W.length = u.ins.length) (hst : st.length ≤ 100000) (hos : o.stale.length ≤ 100000) (hxs : q.xs.length ≤ 100000) (hn : u.ins.length ≤ 100000) :
    Does Tryz.prog 56 [.pointer (some ⟨bl, 0, none⟩), .int .i64 (j : Int), .agg #[.bool true, .slice aL L.length cL, .slice aT st.length cT]] [Sl Ty.int aL cL L, Sl Ty.int aT cT st, Sl tyUnt v.aU v.cU t.units, Sl Ty.int v.aV v.cV u.vars, Sl Ty.int v.aT v.cT u.takes, Sl tyIns v.aI v.cI u.ins, Sl tyIns v.aJ v.cJ u.ins, Sl (Ty.slice Ty.int) v.aF v.cF (flds t), Sl Ty.int v.aS v.cS (GuaM.both (glob t) (out t k)), Sl Ty.int v.aL v.cL (glob t), Sl (Ty.slice Ty.int) v.aX v.cX (outs t)] [RowR bl 66 [.slice v.aC t.classes.length v.cC, .slice v.aG t.globals.length v.cG, .slice v.aU t.units.length v.cU, .int .i64 t.main, .int .i64 u.params, .slice v.aV u.vars.length v.cV, .int .i64 u.result, .slice v.aT u.takes.length v.cT, .slice v.aO u.owns.length v.cO, .slice v.aI u.ins.length v.cI, .slice v.aF (flds t).length v.cF, .slice v.aS (GuaM.both (glob t) (out t k)).length v.cS, .slice v.aL (glob t).length v.cL, .slice v.aX (outs t).length v.cX, .int .i64 0, .slice none 0 0, .bool false, .int .i64 0, .int .i64 0, .int .i64 0, .slice v.aJ u.ins.length v.cJ, .slice (some ⟨v.st, 0, none⟩) u.ins.length u.ins.length, .slice q.ao q.xs.length q.cap, .slice (some ⟨v.wt, 0, none⟩) u.ins.length u.ins.length], GX.Own 3 Ty.int q.ao q.cap q.xs, GX.Own 48 tyState (some ⟨v.st, 0, none⟩) u.ins.length q.S, GX.Own 4 Ty.bool (some ⟨v.wt, 0, none⟩) u.ins.length q.W]
      (fun s : ComR q j L st o wj => .bool s.r) (fun _ => []) (fun s => [RowR bl 66 [.slice v.aC t.classes.length v.cC, .slice v.aG t.globals.length v.cG, .slice v.aU t.units.length v.cU, .int .i64 t.main, .int .i64 u.params, .slice v.aV u.vars.length v.cV, .int .i64 u.result, .slice v.aT u.takes.length v.cT, .slice v.aO u.owns.length v.cO, .slice v.aI u.ins.length v.cI, .slice v.aF (flds t).length v.cF, .slice v.aS (GuaM.both (glob t) (out t k)).length v.cS, .slice v.aL (glob t).length v.cL, .slice v.aX (outs t).length v.cX, .int .i64 0, .slice none 0 0, .bool false, .int .i64 0, .int .i64 0, .int .i64 0, .slice v.aJ u.ins.length v.cJ, .slice (some ⟨v.st, 0, none⟩) u.ins.length u.ins.length, .slice s.q'.ao s.q'.xs.length s.q'.cap, .slice (some ⟨v.wt, 0, none⟩) u.ins.length u.ins.length], GX.Own 3 Ty.int s.q'.ao s.q'.cap s.q'.xs, GX.Own 48 tyState (some ⟨v.st, 0, none⟩) u.ins.length s.q'.S, GX.Own 4 Ty.bool (some ⟨v.wt, 0, none⟩) u.ins.length s.q'.W]) := by
  refine enter Tryz.func56 rfl Tryz.ntmps56 rfl fun b => ?_
  have hjS := (List.getElem?_eq_some_iff.1 ho).1
  have hjW := (List.getElem?_eq_some_iff.1 hw).1
  refine GX.wa_R ?_; intros
  refine GX.nmP 5 ?_; rintro b5 rfl
  refine GX.nmP 7 ?_; rintro b7 rfl
  rw [show (Value.agg #[.bool true, .slice aL L.length cL, .slice aT st.length cT]).cells.toList = [.bool true, .slice aL L.length cL, .slice aT st.length cT] from rfl]
  refine frzB b7 ?_
  cases hm : o.met with
  | true =>
    refine GX.wa_R ?_; intros
    refine GX.nmS 19 ?_; rintro aE cE rfl rfl
    refine GX.o (cl (eqi_spec aE aL cE cL o.live L) fun _ => ?_)
    by_cases hL : o.live = L
    · have hL' : ¬ ¬ o.live = L := fun h => h hL
      refine GX.wa_R ?_; intros
      refine GX.nmS 28 ?_; rintro aO cO rfl rfl
      refine GX.o (cl (both_spec aT aO cT cO st o.stale (by omega) (by omega)) fun s => ?_)
      obtain ⟨a6, c6⟩ := s
      dsimp only
      by_cases hE : (puts (st ++ o.stale)).length = o.stale.length
      · refine GX.wa_R ?_; intros
        exact rt1 ⟨q, true, (fun h => by cases h), (fun _ => ⟨fun _ => hL, .inl ⟨hm, hE, rfl, rfl, rfl⟩⟩)⟩ rfl
      · skip
        refine GX.wa_R ?_; intros
        refine GX.drawn3 (RowR bl 66 [.slice v.aC t.classes.length v.cC, .slice v.aG t.globals.length v.cG, .slice v.aU t.units.length v.cU, .int .i64 t.main, .int .i64 u.params, .slice v.aV u.vars.length v.cV, .int .i64 u.result, .slice v.aT u.takes.length v.cT, .slice v.aO u.owns.length v.cO, .slice v.aI u.ins.length v.cI, .slice v.aF (flds t).length v.cF, .slice v.aS (GuaM.both (glob t) (out t k)).length v.cS, .slice v.aL (glob t).length v.cL, .slice v.aX (outs t).length v.cX, .int .i64 0, .slice none 0 0, .bool false, .int .i64 0, .int .i64 0, .int .i64 0, .slice v.aJ u.ins.length v.cJ, .slice (some ⟨v.st, 0, none⟩) u.ins.length u.ins.length, .slice q.ao q.xs.length q.cap, .slice (some ⟨v.wt, 0, none⟩) u.ins.length u.ins.length]) (RowR b5 48 [.bool true, .slice aL L.length cL, .slice a6 (puts (st ++ o.stale)).length c6]) (GX.Own 48 tyState (some ⟨v.st, 0, none⟩) u.ins.length q.S) (fun j => !(List.contains [7] j)) [(0, true), (1, true), (2, true), (3, true), (4, true), (5, true), (6, true), (7, false)] rfl (by kernel_rfl) (by kernel_rfl) (by first | ((repeat (first | apply Go.GX.SelR.nil | apply Go.GX.SelR.cons | (with_reducible apply Go.GX.TakeR.head) | apply Go.GX.TakeR.tail)); done) | (repeat (first | apply Go.GX.SelR.nil | apply Go.GX.SelR.cons | apply Go.GX.TakeR.head | apply Go.GX.TakeR.tail))) ?_; intro wd F hW hR
        refine GX.wa_T ?_; intros
        refine GX.unpin (GX.Own 48 tyState (some ⟨v.st, 0, none⟩) u.ins.length q.S) ?_
        refine GX.wa_T ?_; intros
        refine GX.unpin (RowR bl 66 [.slice v.aC t.classes.length v.cC, .slice v.aG t.globals.length v.cG, .slice v.aU t.units.length v.cU, .int .i64 t.main, .int .i64 u.params, .slice v.aV u.vars.length v.cV, .int .i64 u.result, .slice v.aT u.takes.length v.cT, .slice v.aO u.owns.length v.cO, .slice v.aI u.ins.length v.cI, .slice v.aF (flds t).length v.cF, .slice v.aS (GuaM.both (glob t) (out t k)).length v.cS, .slice v.aL (glob t).length v.cL, .slice v.aX (outs t).length v.cX, .int .i64 0, .slice none 0 0, .bool false, .int .i64 0, .int .i64 0, .int .i64 0, .slice v.aJ u.ins.length v.cJ, .slice (some ⟨v.st, 0, none⟩) u.ins.length u.ins.length, .slice q.ao q.xs.length q.cap, .slice (some ⟨v.wt, 0, none⟩) u.ins.length u.ins.length]) ?_
        refine GX.unpin (RowR b5 48 [.bool true, .slice aL L.length cL, .slice a6 (puts (st ++ o.stale)).length c6]) ?_
        cases wj with
        | true =>
          refine GX.wa_R ?_; intros
          exact rt1 ⟨⟨q.ao, q.cap, q.xs, q.S.set j ⟨true, L, puts (st ++ o.stale)⟩, q.W⟩, true, (fun h => by cases h), (fun _ => ⟨fun _ => hL, .inr ⟨fun h => hE h.2, rfl, (set_id hw).symm, .inl ⟨rfl, rfl⟩⟩⟩)⟩ rfl
        | false =>
          refine GX.wa_R ?_; intros
          refine GX.o (mki ?_)
          refine GX.wa_R ?_; intros
          refine GX.o (mki ?_)
          refine GX.o (cl (hpush_spec bl 22 q.cap q.ao [.slice v.aC t.classes.length v.cC, .slice v.aG t.globals.length v.cG, .slice v.aU t.units.length v.cU, .int .i64 t.main, .int .i64 u.params, .slice v.aV u.vars.length v.cV, .int .i64 u.result, .slice v.aT u.takes.length v.cT, .slice v.aO u.owns.length v.cO, .slice v.aI u.ins.length v.cI, .slice v.aF (flds t).length v.cF, .slice v.aS (GuaM.both (glob t) (out t k)).length v.cS, .slice v.aL (glob t).length v.cL, .slice v.aX (outs t).length v.cX, .int .i64 0, .slice none 0 0, .bool false, .int .i64 0, .int .i64 0, .int .i64 0, .slice v.aJ u.ins.length v.cJ, .slice (some ⟨v.st, 0, none⟩) u.ins.length u.ins.length, .slice q.ao q.xs.length q.cap, .slice (some ⟨v.wt, 0, none⟩) u.ins.length u.ins.length] q.xs j rfl (by omega)) fun s => ?_)
          obtain ⟨⟨a8, c8, ys⟩, hp8⟩ := s
          simp only [List.set_cons_zero, List.set_cons_succ]
          refine GX.wa_R ?_; intros
          exact rt1 ⟨⟨a8, c8, ys, q.S.set j ⟨true, L, puts (st ++ o.stale)⟩, q.W.set j true⟩, true, (fun h => by cases h), (fun _ => ⟨fun _ => hL, .inr ⟨fun h => hE h.2, rfl, rfl, .inr ⟨rfl, hp8⟩⟩⟩)⟩ rfl
    · refine GX.wa_R ?_; intros
      exact rt1 ⟨q, false, (fun _ => ⟨hm, hL⟩), (fun h => by cases h)⟩ rfl
  | false =>
    refine GX.wa_R ?_; intros
    refine GX.nmS 28 ?_; rintro aO cO rfl rfl
    refine GX.o (cl (both_spec aT aO cT cO st o.stale (by omega) (by omega)) fun s => ?_)
    obtain ⟨a6, c6⟩ := s
    dsimp only
    refine GX.wa_R ?_; intros
    refine GX.drawn3 (RowR bl 66 [.slice v.aC t.classes.length v.cC, .slice v.aG t.globals.length v.cG, .slice v.aU t.units.length v.cU, .int .i64 t.main, .int .i64 u.params, .slice v.aV u.vars.length v.cV, .int .i64 u.result, .slice v.aT u.takes.length v.cT, .slice v.aO u.owns.length v.cO, .slice v.aI u.ins.length v.cI, .slice v.aF (flds t).length v.cF, .slice v.aS (GuaM.both (glob t) (out t k)).length v.cS, .slice v.aL (glob t).length v.cL, .slice v.aX (outs t).length v.cX, .int .i64 0, .slice none 0 0, .bool false, .int .i64 0, .int .i64 0, .int .i64 0, .slice v.aJ u.ins.length v.cJ, .slice (some ⟨v.st, 0, none⟩) u.ins.length u.ins.length, .slice q.ao q.xs.length q.cap, .slice (some ⟨v.wt, 0, none⟩) u.ins.length u.ins.length]) (RowR b5 48 [.bool true, .slice aL L.length cL, .slice a6 (puts (st ++ o.stale)).length c6]) (GX.Own 48 tyState (some ⟨v.st, 0, none⟩) u.ins.length q.S) (fun j => !(List.contains [7] j)) [(0, true), (1, true), (2, true), (3, true), (4, true), (5, true), (6, true), (7, false)] rfl (by kernel_rfl) (by kernel_rfl) (by first | ((repeat (first | apply Go.GX.SelR.nil | apply Go.GX.SelR.cons | (with_reducible apply Go.GX.TakeR.head) | apply Go.GX.TakeR.tail)); done) | (repeat (first | apply Go.GX.SelR.nil | apply Go.GX.SelR.cons | apply Go.GX.TakeR.head | apply Go.GX.TakeR.tail))) ?_; intro wd F hW hR
    refine GX.wa_T ?_; intros
    refine GX.unpin (GX.Own 48 tyState (some ⟨v.st, 0, none⟩) u.ins.length q.S) ?_
    refine GX.wa_T ?_; intros
    refine GX.unpin (RowR bl 66 [.slice v.aC t.classes.length v.cC, .slice v.aG t.globals.length v.cG, .slice v.aU t.units.length v.cU, .int .i64 t.main, .int .i64 u.params, .slice v.aV u.vars.length v.cV, .int .i64 u.result, .slice v.aT u.takes.length v.cT, .slice v.aO u.owns.length v.cO, .slice v.aI u.ins.length v.cI, .slice v.aF (flds t).length v.cF, .slice v.aS (GuaM.both (glob t) (out t k)).length v.cS, .slice v.aL (glob t).length v.cL, .slice v.aX (outs t).length v.cX, .int .i64 0, .slice none 0 0, .bool false, .int .i64 0, .int .i64 0, .int .i64 0, .slice v.aJ u.ins.length v.cJ, .slice (some ⟨v.st, 0, none⟩) u.ins.length u.ins.length, .slice q.ao q.xs.length q.cap, .slice (some ⟨v.wt, 0, none⟩) u.ins.length u.ins.length]) ?_
    refine GX.unpin (RowR b5 48 [.bool true, .slice aL L.length cL, .slice a6 (puts (st ++ o.stale)).length c6]) ?_
    cases wj with
    | true =>
      refine GX.wa_R ?_; intros
      exact rt1 ⟨⟨q.ao, q.cap, q.xs, q.S.set j ⟨true, L, puts (st ++ o.stale)⟩, q.W⟩, true, (fun h => by cases h), (fun _ => ⟨(fun h => by rw [hm] at h; cases h), .inr ⟨(fun h => by have := h.1; rw [hm] at this; cases this), rfl, (set_id hw).symm, .inl ⟨rfl, rfl⟩⟩⟩)⟩ rfl
    | false =>
      refine GX.wa_R ?_; intros
      refine GX.o (mki ?_)
      refine GX.wa_R ?_; intros
      refine GX.o (mki ?_)
      refine GX.o (cl (hpush_spec bl 22 q.cap q.ao [.slice v.aC t.classes.length v.cC, .slice v.aG t.globals.length v.cG, .slice v.aU t.units.length v.cU, .int .i64 t.main, .int .i64 u.params, .slice v.aV u.vars.length v.cV, .int .i64 u.result, .slice v.aT u.takes.length v.cT, .slice v.aO u.owns.length v.cO, .slice v.aI u.ins.length v.cI, .slice v.aF (flds t).length v.cF, .slice v.aS (GuaM.both (glob t) (out t k)).length v.cS, .slice v.aL (glob t).length v.cL, .slice v.aX (outs t).length v.cX, .int .i64 0, .slice none 0 0, .bool false, .int .i64 0, .int .i64 0, .int .i64 0, .slice v.aJ u.ins.length v.cJ, .slice (some ⟨v.st, 0, none⟩) u.ins.length u.ins.length, .slice q.ao q.xs.length q.cap, .slice (some ⟨v.wt, 0, none⟩) u.ins.length u.ins.length] q.xs j rfl (by omega)) fun s => ?_)
      obtain ⟨⟨a8, c8, ys⟩, hp8⟩ := s
      simp only [List.set_cons_zero, List.set_cons_succ]
      refine GX.wa_R ?_; intros
      exact rt1 ⟨⟨a8, c8, ys, q.S.set j ⟨true, L, puts (st ++ o.stale)⟩, q.W.set j true⟩, true, (fun h => by cases h), (fun _ => ⟨(fun h => by rw [hm] at h; cases h), .inr ⟨(fun h => by have := h.1; rw [hm] at this; cases this), rfl, rfl, .inr ⟨rfl, hp8⟩⟩⟩)⟩ rfl
end Go.Proofs.YtomfpmbapdhbgaaGreat

/- Regions that draw their order as a tree, with what is one's own pinned. No program in sight. -/
namespace Go.GX
open Go Go.RowKit Go.RR Go.RX
section
variable {P : Program} {n : Nat} {env : Env} {b : Base} {ps : List Pf} {hp : List Res} {Q : Exit → Act → World → Prop} {K : Act → World → Prop}
theorem drawnTR {id : Nat} {l : List Oper} (hpS : List Res) (hold : Nat → Bool) (t : Tr) {rest : List Res} [hm : Mixed P] (hs : Region.noSelect l.toArray = true) (hpl : (t.isPlan && t.ok l.toArray hold l.length (Array.replicate l.length false)) = true)
    (hl : SelR hpS hp rest) (h : ∀ wd F, AllP F wd ps → AllR F wd hpS → G n env b (Kept wd F :: ps) (hpS.map (Pin wd) ++ rest) (wpT P l.toArray (NoPanic Q) (SS wd F hpS) hold t)) : G n env b ps hp ((Code.region id l.toArray true).wp P Q) := by
  constructor
  rintro w ⟨F, s⟩
  have s := s.drew.perm hl.perm
  refine RX.drawnT (SS w.drew F hpS) hold t hs hpl ((h w.drew F s.fs (fun r hr => s.rs r (by simp [hr]))).run w.drew ⟨F, s.upd, s.lt, s.old, ?_, ?_, ?_, ?_, ?_⟩)
  · intro p hp
    rcases List.mem_cons.1 hp with rfl | hp
    · exact ⟨Agree.refl _ _, fun _ _ h => h⟩
    · exact s.fs p hp
  · intro r hr
    rw [List.mem_append, List.mem_map] at hr
    rcases hr with ⟨r', hr', rfl⟩ | hr
    · exact ⟨s.rs r' (by simp [hr']), Agree.refl _ _⟩
    · exact s.rs r (by simp [hr])
  · intro r hr
    rw [List.mem_append, List.mem_map] at hr
    rcases hr with ⟨r', hr', rfl⟩ | hr
    · exact s.apF r' (by simp [hr'])
    · exact s.apF r (by simp [hr])
  · have := List.pairwise_append.1 s.apart
    refine List.pairwise_append.2 ⟨List.pairwise_map.2 (this.1.imp fun h => h), this.2.1, fun r hr q hq => ?_⟩
    obtain ⟨r', hr', rfl⟩ := List.mem_map.1 hr
    exact this.2.2 r' hr' q hq
  · intro r hr
    rw [List.mem_append, List.mem_map] at hr
    rcases hr with ⟨r', hr', rfl⟩ | hr
    · exact s.on r' (by simp [hr'])
    · exact s.on r (by simp [hr])
theorem drawnT2 {id : Nat} {l : List Oper} (r0 r1 : Res) (hold : Nat → Bool) (t : Tr) {rest : List Res} [hm : Mixed P] (hs : Region.noSelect l.toArray = true) (hpl : (t.isPlan && t.ok l.toArray hold l.length (Array.replicate l.length false)) = true)
    (hl : SelR [r0, r1] hp rest) (h : ∀ wd F, AllP F wd ps → AllR F wd [r0, r1] → G n env b (Kept wd F :: ps) (Pin wd r0 :: Pin wd r1 :: rest) (wpT P l.toArray (NoPanic Q) (SS wd F [r0, r1]) hold t)) : G n env b ps hp ((Code.region id l.toArray true).wp P Q) := drawnTR [r0, r1] hold t hs hpl hl h
theorem ld_rowP {bl i sz : Nat} {te t : TypeId} {x : Operand} {vs cs : List Value} {rest : List Res} [UAgg P t] [USize P t sz] [hf : FRow bl hp te vs rest] (hx : ev env x = some (.pointer (some ⟨bl, i, none⟩))) (hc : (vs.drop i).take sz = cs) (hsz : cs.length = sz) : RdV P n env ps hp (.load t x) (.agg cs.toArray) := fun F w _ h2 => by
  have hm := hf.p.mem_iff.2 List.mem_cons_self
  have hr : Row w bl te vs := h2 _ hm
  refine run_loadAgg hx hsz (fun w' ha => CellsAt.move (fun j c hj => ?_) ha (.inr ⟨_, hm, rfl⟩))
  refine hr.cell_some ?_
  rw [← hc, List.getElem?_take] at hj
  split at hj
  · rw [List.getElem?_drop] at hj; exact hj
  · cases hj
/-- A part of a row of cells, as a struct's value. -/
theorem lrP {d : Nat} {ty : TypeId} {pos : String} {aft : Array Edge} {gd : Option (Nat × Bool)} {bl i sz : Nat} {te t : TypeId} {x : Operand} {vs cs : List Value} {rest : List Res} [UAgg P t] [USize P t sz] (h : G n ((d, .agg cs.toArray) :: env) b ps hp K) (hx : ev env x = some (.pointer (some ⟨bl, i, none⟩)) := by exact rfl) (hf : FRow bl hp te vs rest := by exact inferInstance) (hc : (vs.drop i).take sz = cs := by exact rfl) (hsz : cs.length = sz := by exact rfl) (hd : Nat.blt d n = true := by exact rfl) :
    GO P n env b ps hp ⟨some d, .load t x, ty, pos, aft, gd⟩ K Q := rdv (ld_rowP hx hc hsz) hd h
end
end Go.GX
