import Derived.Test.YtkagjpkgboeaiaaR19
import Derived.Test.YtkagjpkgboeaiaaR20
import Derived.Test.YtkagjpkgboeaiaaR21
import Derived.Test.YtkagjpkgboeaiaaR22
/- Where a site is taken out of the least, it fits no longer; the reference's Fits over a table of one's own. -/
namespace Go.SolM
open Go.Api Go.RiseM
theorem breaks {d : Dim} {l : List Con} {p : Points} (hl : ∀ c ∈ l, May d c) (hs : Sited d p) {n s : Nat} (hi : In d l n s) (hn : ¬ XP d p n s) : ¬ FitsP p l := fun h => hn (in_least ((fitsP_iff hs hl).1 h) hi)
/-- A list without its k-th. -/
def cutAt (y : List Int) (k : Nat) : List Int := y.take k ++ y.drop (k + 1)
theorem cut_sub {y : List Int} {k : Nat} {x : Int} (h : x ∈ cutAt y k) : x ∈ y := by
  unfold cutAt at h
  rw [List.mem_append] at h
  exact h.elim List.mem_of_mem_take List.mem_of_mem_drop
theorem cut_not {y : List Int} {k : Nat} {x : Int} (hr : Rise y) (hx : y[k]? = some x) : x ∉ cutAt y k := by
  obtain ⟨hk, rfl⟩ := List.getElem?_eq_some_iff.1 hx
  unfold Rise at hr
  unfold cutAt
  rw [List.mem_append]
  rintro (h | h)
  · obtain ⟨j, hj, e⟩ := List.mem_take_iff_getElem.1 h
    have := List.pairwise_iff_getElem.1 hr j k (by omega) hk (by omega)
    omega
  · obtain ⟨j, hj, e⟩ := List.mem_drop_iff_getElem.1 h
    have := List.pairwise_iff_getElem.1 hr k (k + 1 + j) hk (by omega) (by omega)
    omega
theorem getD_set_eq {α : Type} {l : List α} {i : Nat} {x z : α} (h : i < l.length) : (l.set i x).getD i z = x := by rw [List.getD_eq_getElem?_getD, List.getElem?_set_self h]; rfl
theorem getD_set_ne {α : Type} {l : List α} {i j : Nat} {x z : α} (h : i ≠ j) : (l.set i x).getD j z = l.getD j z := by rw [List.getD_eq_getElem?_getD, List.getElem?_set_ne h, ← List.getD_eq_getElem?_getD]
theorem rise_cell {d : Dim} {l : List Con} (hl : ∀ c ∈ l, May d c) (n : Nat) : Rise (cell d (pts d l) n) := by
  rcases pts_cell hl (n := n) with h | ⟨h, _⟩
  · rw [h]; exact listOf_rise d l n
  · rw [h]; simp [Rise]
theorem breaks_cell {d : Dim} {l : List Con} {p q : Points} (hl : ∀ c ∈ l, May d c) (hp : p = pts d l) (hq : Shape d q) (hsub : ∀ n x, x ∈ cell d q n → x ∈ cell d p n) {n k : Nat} {x : Int} (hx : (cell d p n)[k]? = some x) (hc : cell d q n = cutAt (cell d p n) k) : ¬ FitsP q l := by
  subst hp
  have hS := pts_sited hl
  have hxm := List.mem_of_getElem? hx
  have hb := hS.ok n x hxm
  obtain ⟨s, rfl⟩ := Int.eq_ofNat_of_zero_le hb.1
  refine breaks hl ⟨hq, fun n' y hy => hS.ok n' y (hsub n' y hy)⟩ (n := n) (s := s) ((pts_XP hl n s).1 hxm) ?_
  unfold XP
  rw [hc]
  exact cut_not (rise_cell hl n) hx
theorem breaks_node {d : Dim} {l : List Con} {X : List (List Int)} {F : List (List (List Int))} (hl : ∀ c ∈ l, May d c) (hp : (⟨X, F⟩ : Points) = pts d l) {i k : Nat} {y : List Int} (hy : X[i]? = some y) (hk : k < y.length) : ¬ FitsP ⟨X.set i (cutAt y k), F⟩ l := by
  have hi := (List.getElem?_eq_some_iff.1 hy).1
  have hsh : Shape d ⟨X, F⟩ := hp ▸ pts_shape d l
  have hiN : i < d.N := by have := hsh.n; dsimp only at this; omega
  have e : cell d ⟨X, F⟩ i = y := by rw [cell_node hiN]; show X.getD i [] = y; rw [List.getD_eq_getElem?_getD, hy]; rfl
  refine breaks_cell hl hp ⟨by dsimp only; rw [List.length_set]; exact hsh.n, hsh.s, hsh.w⟩ (fun n x hx => ?_) (n := i) (k := k) (x := y[k]) ?_ ?_
  · by_cases hn : n < d.N
    · rw [cell_node hn] at hx ⊢
      dsimp only at hx ⊢
      by_cases hni : i = n
      · subst hni
        rw [getD_set_eq hi] at hx
        rw [cell_node hiN] at e
        dsimp only at e
        rw [e]; exact cut_sub hx
      · rwa [getD_set_ne hni] at hx
    · unfold cell at hx ⊢
      rw [if_neg hn] at hx ⊢; exact hx
  · rw [e]; exact List.getElem?_eq_getElem hk
  · rw [e, cell_node hiN]
    exact getD_set_eq hi
theorem breaks_field {d : Dim} {l : List Con} {X : List (List Int)} {F : List (List (List Int))} (hl : ∀ c ∈ l, May d c) (hp : (⟨X, F⟩ : Points) = pts d l) {i j k : Nat} {r : List (List Int)} {y : List Int} (hr : F[i]? = some r) (hy : r[j]? = some y) (hk : k < y.length) : ¬ FitsP ⟨X, F.set i (r.set j (cutAt y k))⟩ l := by
  have hi := (List.getElem?_eq_some_iff.1 hr).1
  have hj := (List.getElem?_eq_some_iff.1 hy).1
  have hsh : Shape d ⟨X, F⟩ := hp ▸ pts_shape d l
  have hjW : j < d.W := by have := hsh.w r (List.mem_of_getElem? hr); omega
  have e1 : F.getD i [] = r := by rw [List.getD_eq_getElem?_getD, hr]; rfl
  have e2 : r.getD j [] = y := by rw [List.getD_eq_getElem?_getD, hy]; rfl
  have e : cell d ⟨X, F⟩ (d.fld i j) = y := by rw [cell_fld hjW]; show (F.getD i []).getD j [] = y; rw [e1, e2]
  refine breaks_cell hl hp ⟨hsh.n, by dsimp only; rw [List.length_set]; exact hsh.s, fun t ht => ?_⟩ (fun n x hx => ?_) (n := d.fld i j) (k := k) (x := y[k]) ?_ ?_
  · rcases List.mem_or_eq_of_mem_set ht with ht | rfl
    · exact hsh.w t ht
    · rw [List.length_set]; exact hsh.w r (List.mem_of_getElem? hr)
  · unfold cell at hx ⊢
    by_cases hn : n < d.N
    · rw [if_pos hn] at hx ⊢; exact hx
    · rw [if_neg hn] at hx ⊢
      dsimp only at hx ⊢
      generalize (n - d.N) / d.W = a at hx ⊢
      generalize (n - d.N) % d.W = b at hx ⊢
      by_cases ha : i = a
      · subst ha
        rw [getD_set_eq hi] at hx
        rw [e1]
        by_cases hb : j = b
        · subst hb
          rw [getD_set_eq hj] at hx
          rw [e2]; exact cut_sub hx
        · rwa [getD_set_ne hb] at hx
      · rwa [getD_set_ne ha] at hx
  · rw [e]; exact List.getElem?_eq_getElem hk
  · rw [e, cell_fld hjW]
    show ((F.set i (r.set j (cutAt y k))).getD i []).getD j [] = _
    rw [getD_set_eq hi, getD_set_eq hj]
end Go.SolM
namespace Go.Proofs.Ytkagjpkgboeaiaa
open Go Go.RR Go.RX Go.GX Go.Api Go.RiseM Go.SolM
theorem rFitsO_spec {t1 t2 t3 : TypeId} (a1 a2 : Option Addr) (c1 c2 : Nat) (X : List (List Int)) (L : List (Option Addr × Nat × List (List Int))) (h1 : X.length = c1) (h2 : L.length = c2) (ao : Option Addr) (cap : Nat) (l : List Con) :
    Does Try.prog 14 [.agg #[.slice a1 c1 c1, .slice a2 c2 c2], .slice ao l.length cap] [Sl tyCon ao cap l] [GX.Own t1 (Ty.slice Ty.int) a1 c1 X, GX.Own t2 Ty.hdr a2 c2 (L.map GX.hd), Owns t3 (Ty.slice Ty.int) L]
      (fun _ : Unit => .bool (decide (FitsP ⟨X, L.map (·.2.2)⟩ l))) (fun _ => []) (fun _ => [GX.Own t1 (Ty.slice Ty.int) a1 c1 X, GX.Own t2 Ty.hdr a2 c2 (L.map GX.hd), Owns t3 (Ty.slice Ty.int) L]) :=
  GX.Does.lendG (facts := [Ag tyPoints [.slice a1 c1 c1, .slice a2 c2 c2] ⟨X, L.map (·.2.2)⟩]) (ps1 := [Sl tyCon ao cap l]) (val := fun _ : Unit => .bool (decide (FitsP ⟨X, L.map (·.2.2)⟩ l))) (rFits_spec [.slice a1 c1 c1, .slice a2 c2 c2] ⟨X, L.map (·.2.2)⟩ ao cap l) (ownPts h1.symm h2.symm _)
end Go.Proofs.Ytkagjpkgboeaiaa

/- The walks over two functions that compare lists: Ints and Same. -/
namespace Go.Proofs.Ytkagjpkgboeaiaa
open Go Go.RR Go.RX Go.GX
attribute [local irreducible] wpList Code.wp wpPlan Exit.then Exit.inBlock bodyPost NoPanic Went GX.Post GX.Again GX.Meet GX.RowR GX.Own GX.Owns GX.Box GX.Sl GX.Pt GX.Ag GX.MapR GX.Kept GX.Pin

theorem same_spec (ao1 ao2 : Option Addr) (cap1 cap2 : Nat) (xs ys : List (List Int)) : Does Try.prog 28 [.slice ao1 xs.length cap1, .slice ao2 ys.length cap2] [Sl (Ty.slice Ty.int) ao1 cap1 xs, Sl (Ty.slice Ty.int) ao2 cap2 ys] []
    (fun _ : Unit => .bool (decide (xs = ys))) (fun _ => []) (fun _ => []) := by
  refine enter Try.func28 rfl Try.ntmps28 rfl fun b => ?_
  refine sln ao1 fun h1 h2 _ => ?_
  by_cases hl : xs.length = ys.length
  · repeat (first | (apply GX.s_list; first | apply GX.nil | (refine GX.o ?_; first | (apply GX.k_load; first | refine GX.lr ?_ | refine GX.lrA ?_ | refine GX.ln ?_ | refine GX.lb ?_ | refine GX.lh ?_ | (refine GX.ls ?_; intro ao cap _ _) | (refine GX.lA ?_; intro cs) | (refine GX.l0 ?_; intro cs) | refine GX.o1n ?_ | refine GX.o1b ?_ | refine GX.o1h ?_ | (refine GX.o1s ?_; intro ao cap _ _) | refine GX.omn ?_ | refine GX.omb ?_ | refine GX.omh ?_ | (refine GX.oms ?_; intro ao cap _ _) | refine GX.ofn ?_ | refine GX.ofb ?_ | refine GX.ofh ?_ | (refine GX.ofs ?_; intro ao cap _ _) | (refine GX.oA ?_; intro cs)) | (apply GX.k_move; refine GX.m ?_) | (apply GX.k_indexAddr; first | refine GX.io1 ?_ | refine GX.ioh ?_ | refine GX.i1 ?_ | refine GX.ih ?_ | (refine GX.ix ?_; intro bl o)) | (apply GX.k_binOp_lss; refine GX.b_lss ?_) | (apply GX.k_binOp_add; first | refine GX.b_inc ?_ | refine GX.b_add ?_ | refine GX.b_addw ?_) | (apply GX.k_assign; refine GX.a ?_) | (apply GX.k_call; refine GX.c_len ?_) | (apply GX.k_unOp; first | refine GX.nt ?_ | refine GX.nf ?_ | refine GX.nd ?_ | refine GX.n_ ?_) | (apply GX.k_binOp_neq; first | refine GX.b_neq ?_ | refine GX.b_pm ?_ | refine GX.b_nm ?_ | refine GX.b_neqs ?_ | refine GX.b_neqtf ?_ | refine GX.b_neqft ?_ | refine GX.b_neqb ?_)) | refine GX.gt ?_ | refine GX.gf ?_ | refine GX.gbt ?_ | refine GX.gbf ?_ | refine GX.un ?_ | refine GX.un0 ?_) | apply GX.then_normal | apply GX.seq | apply GX.region | (apply GX.s_cond; first | refine GX.ct ?_ | refine GX.cf ?_ | refine GX.cdf ?_ | refine GX.cdt ?_ | refine GX.cbt ?_ | refine GX.cbf ?_) | apply GX.skip | apply GX.block | apply GX.inBlock_normal | apply GX.exit | apply GX.then_exit | apply GX.inBlock_exit | refine GX.ibo ?_ | apply GX.ret | apply GX.then_ret | apply GX.inBlock_ret)
    refine GX.loop (σ := Nat) (fun i => [(0, .slice ao1 xs.length cap1), (1, .slice ao2 ys.length cap2), (5, .int .i64 (i : Int))]) (fun _ => []) (fun _ => [])
      (fun i => i ≤ xs.length ∧ xs.take i = ys.take i) (fun i => xs.length - i) 0 ⟨rfl, rfl, rfl, trivial⟩ ⟨by omega, by simp⟩ (fun i hi => ?_)
    obtain ⟨hi, ht⟩ := hi
    by_cases hlt : i < xs.length
    · obtain ⟨x, hx⟩ := get_lt hlt
      obtain ⟨y, hy⟩ := get_lt (show i < ys.length by omega)
      repeat (first | (apply GX.s_list; first | apply GX.nil | (refine GX.o ?_; first | (apply GX.k_load; first | refine GX.lr ?_ | refine GX.lrA ?_ | refine GX.ln ?_ | refine GX.lb ?_ | refine GX.lh ?_ | (refine GX.ls ?_; intro ao cap _ _) | (refine GX.lA ?_; intro cs) | (refine GX.l0 ?_; intro cs) | refine GX.o1n ?_ | refine GX.o1b ?_ | refine GX.o1h ?_ | (refine GX.o1s ?_; intro ao cap _ _) | refine GX.omn ?_ | refine GX.omb ?_ | refine GX.omh ?_ | (refine GX.oms ?_; intro ao cap _ _) | refine GX.ofn ?_ | refine GX.ofb ?_ | refine GX.ofh ?_ | (refine GX.ofs ?_; intro ao cap _ _) | (refine GX.oA ?_; intro cs)) | (apply GX.k_move; refine GX.m ?_) | (apply GX.k_indexAddr; first | refine GX.io1 ?_ | refine GX.ioh ?_ | refine GX.i1 ?_ | refine GX.ih ?_ | (refine GX.ix ?_; intro bl o)) | (apply GX.k_binOp_lss; refine GX.b_lss ?_) | (apply GX.k_binOp_add; first | refine GX.b_inc ?_ | refine GX.b_add ?_ | refine GX.b_addw ?_) | (apply GX.k_assign; refine GX.a ?_) | (apply GX.k_call; refine GX.c_len ?_) | (apply GX.k_unOp; first | refine GX.nt ?_ | refine GX.nf ?_ | refine GX.nd ?_ | refine GX.n_ ?_) | (apply GX.k_binOp_neq; first | refine GX.b_neq ?_ | refine GX.b_pm ?_ | refine GX.b_nm ?_ | refine GX.b_neqs ?_ | refine GX.b_neqtf ?_ | refine GX.b_neqft ?_ | refine GX.b_neqb ?_)) | refine GX.gt ?_ | refine GX.gf ?_ | refine GX.gbt ?_ | refine GX.gbf ?_ | refine GX.un ?_ | refine GX.un0 ?_) | apply GX.then_normal | apply GX.seq | apply GX.region | (apply GX.s_cond; first | refine GX.ct ?_ | refine GX.cf ?_ | refine GX.cdf ?_ | refine GX.cdt ?_ | refine GX.cbt ?_ | refine GX.cbf ?_) | apply GX.skip | apply GX.block | apply GX.inBlock_normal | apply GX.exit | apply GX.then_exit | apply GX.inBlock_exit | refine GX.ibo ?_ | apply GX.ret | apply GX.then_ret | apply GX.inBlock_ret)
      refine GX.drawn0  (fun j => !(List.contains [8] j)) [(0, true), (1, true), (2, true), (3, true), (4, true), (5, true), (6, true), (7, true), (8, false), (9, true)] rfl (by kernel_rfl) (by kernel_rfl) (by first | ((repeat (first | apply Go.GX.SelR.nil | apply Go.GX.SelR.cons | (with_reducible apply Go.GX.TakeR.head) | apply Go.GX.TakeR.tail)); done) | (repeat (first | apply Go.GX.SelR.nil | apply Go.GX.SelR.cons | apply Go.GX.TakeR.head | apply Go.GX.TakeR.tail))) ?_; intro wd F hW hR
      repeat (first | (apply GX.s_take; first | (refine GX.tkp ?_; first | (apply GX.t_move; refine GX.tm ?_) | (apply GX.t_indexAddr; first | refine GX.ti1 ?_ | refine GX.tih ?_) | (apply GX.t_unOp; first | refine GX.tnt ?_ | refine GX.tnf ?_ | refine GX.tnd ?_ | refine GX.tn_ ?_)) | ((first | refine GX.tkr ?_ | refine GX.tkrE ?_); first | (apply GX.r_load; first | refine GX.rlr ?_ | refine GX.rlrA ?_ | refine GX.rln ?_ | refine GX.rlb ?_ | refine GX.rlh ?_ | (refine GX.rls ?_; intro ao cap _ _ _) | (refine GX.rlA ?_; intro cs _) | (refine GX.rl0 ?_; intro cs _) | refine GX.ro1n ?_ | refine GX.ro1b ?_ | refine GX.ro1h ?_ | (refine GX.ro1s ?_; intro ao cap _ _ _) | refine GX.romn ?_ | refine GX.romb ?_ | refine GX.romh ?_ | (refine GX.roms ?_; intro ao cap _ _ _) | refine GX.rofn ?_ | refine GX.rofb ?_ | refine GX.rofh ?_ | (refine GX.rofs ?_; intro ao cap _ _ _) | (refine GX.roA ?_; intro cs _)) | (apply GX.r_indexAddr; first | refine GX.rio1 ?_ | refine GX.rioh ?_ | (refine GX.rix ?_; intro bl o _))) | (refine GX.tkx ?_; first | (refine GX.xix ?_; intro _ _ _)) | refine GX.pgt ?_ | refine GX.pgf ?_ | refine GX.pgbt ?_ | refine GX.pgbf ?_ | refine GX.tkn ?_ | refine GX.tknE ?_) | (apply GX.s_go; first | (refine GX.gow ?_; first | (apply GX.k_load; first | refine GX.lr ?_ | refine GX.lrA ?_ | refine GX.ln ?_ | refine GX.lb ?_ | refine GX.lh ?_ | (refine GX.ls ?_; intro ao cap _ _) | (refine GX.lA ?_; intro cs) | (refine GX.l0 ?_; intro cs) | refine GX.o1n ?_ | refine GX.o1b ?_ | refine GX.o1h ?_ | (refine GX.o1s ?_; intro ao cap _ _) | refine GX.omn ?_ | refine GX.omb ?_ | refine GX.omh ?_ | (refine GX.oms ?_; intro ao cap _ _) | refine GX.ofn ?_ | refine GX.ofb ?_ | refine GX.ofh ?_ | (refine GX.ofs ?_; intro ao cap _ _) | (refine GX.oA ?_; intro cs)) | (apply GX.k_move; refine GX.m ?_) | (apply GX.k_indexAddr; first | refine GX.io1 ?_ | refine GX.ioh ?_ | refine GX.i1 ?_ | refine GX.ih ?_ | (refine GX.ix ?_; intro bl o)) | (apply GX.k_unOp; first | refine GX.nt ?_ | refine GX.nf ?_ | refine GX.nd ?_ | refine GX.n_ ?_)) | refine GX.pgt ?_ | refine GX.pgf ?_ | refine GX.pgbt ?_ | refine GX.pgbf ?_ | refine GX.gon ?_) | (apply GX.s_went; first | refine GX.wentF ?_ | refine GX.went ?_ | refine GX.wentE ?_) | apply GX.done)
      refine GX.gow ?_
      refine (cl (ints_same _ _ _ _ x y) fun _ => ?_)
      repeat (first | (apply GX.s_take; first | (refine GX.tkp ?_; first | (apply GX.t_move; refine GX.tm ?_) | (apply GX.t_indexAddr; first | refine GX.ti1 ?_ | refine GX.tih ?_) | (apply GX.t_unOp; first | refine GX.tnt ?_ | refine GX.tnf ?_ | refine GX.tnd ?_ | refine GX.tn_ ?_)) | ((first | refine GX.tkr ?_ | refine GX.tkrE ?_); first | (apply GX.r_load; first | refine GX.rlr ?_ | refine GX.rlrA ?_ | refine GX.rln ?_ | refine GX.rlb ?_ | refine GX.rlh ?_ | (refine GX.rls ?_; intro ao cap _ _ _) | (refine GX.rlA ?_; intro cs _) | (refine GX.rl0 ?_; intro cs _) | refine GX.ro1n ?_ | refine GX.ro1b ?_ | refine GX.ro1h ?_ | (refine GX.ro1s ?_; intro ao cap _ _ _) | refine GX.romn ?_ | refine GX.romb ?_ | refine GX.romh ?_ | (refine GX.roms ?_; intro ao cap _ _ _) | refine GX.rofn ?_ | refine GX.rofb ?_ | refine GX.rofh ?_ | (refine GX.rofs ?_; intro ao cap _ _ _) | (refine GX.roA ?_; intro cs _)) | (apply GX.r_indexAddr; first | refine GX.rio1 ?_ | refine GX.rioh ?_ | (refine GX.rix ?_; intro bl o _))) | (refine GX.tkx ?_; first | (refine GX.xix ?_; intro _ _ _)) | refine GX.pgt ?_ | refine GX.pgf ?_ | refine GX.pgbt ?_ | refine GX.pgbf ?_ | refine GX.tkn ?_ | refine GX.tknE ?_) | (apply GX.s_go; first | (refine GX.gow ?_; first | (apply GX.k_load; first | refine GX.lr ?_ | refine GX.lrA ?_ | refine GX.ln ?_ | refine GX.lb ?_ | refine GX.lh ?_ | (refine GX.ls ?_; intro ao cap _ _) | (refine GX.lA ?_; intro cs) | (refine GX.l0 ?_; intro cs) | refine GX.o1n ?_ | refine GX.o1b ?_ | refine GX.o1h ?_ | (refine GX.o1s ?_; intro ao cap _ _) | refine GX.omn ?_ | refine GX.omb ?_ | refine GX.omh ?_ | (refine GX.oms ?_; intro ao cap _ _) | refine GX.ofn ?_ | refine GX.ofb ?_ | refine GX.ofh ?_ | (refine GX.ofs ?_; intro ao cap _ _) | (refine GX.oA ?_; intro cs)) | (apply GX.k_move; refine GX.m ?_) | (apply GX.k_indexAddr; first | refine GX.io1 ?_ | refine GX.ioh ?_ | refine GX.i1 ?_ | refine GX.ih ?_ | (refine GX.ix ?_; intro bl o)) | (apply GX.k_unOp; first | refine GX.nt ?_ | refine GX.nf ?_ | refine GX.nd ?_ | refine GX.n_ ?_)) | refine GX.pgt ?_ | refine GX.pgf ?_ | refine GX.pgbt ?_ | refine GX.pgbf ?_ | refine GX.gon ?_) | (apply GX.s_went; first | refine GX.wentF ?_ | refine GX.went ?_ | refine GX.wentE ?_) | apply GX.done)
      by_cases hxy : x = y
      · have hnn : ¬ ¬ x = y := fun h => h hxy
        repeat (first | (apply GX.s_list; first | apply GX.nil | (refine GX.o ?_; first | (apply GX.k_load; first | refine GX.lr ?_ | refine GX.lrA ?_ | refine GX.ln ?_ | refine GX.lb ?_ | refine GX.lh ?_ | (refine GX.ls ?_; intro ao cap _ _) | (refine GX.lA ?_; intro cs) | (refine GX.l0 ?_; intro cs) | refine GX.o1n ?_ | refine GX.o1b ?_ | refine GX.o1h ?_ | (refine GX.o1s ?_; intro ao cap _ _) | refine GX.omn ?_ | refine GX.omb ?_ | refine GX.omh ?_ | (refine GX.oms ?_; intro ao cap _ _) | refine GX.ofn ?_ | refine GX.ofb ?_ | refine GX.ofh ?_ | (refine GX.ofs ?_; intro ao cap _ _) | (refine GX.oA ?_; intro cs)) | (apply GX.k_move; refine GX.m ?_) | (apply GX.k_indexAddr; first | refine GX.io1 ?_ | refine GX.ioh ?_ | refine GX.i1 ?_ | refine GX.ih ?_ | (refine GX.ix ?_; intro bl o)) | (apply GX.k_binOp_lss; refine GX.b_lss ?_) | (apply GX.k_binOp_add; first | refine GX.b_inc ?_ | refine GX.b_add ?_ | refine GX.b_addw ?_) | (apply GX.k_assign; refine GX.a ?_) | (apply GX.k_call; refine GX.c_len ?_) | (apply GX.k_unOp; first | refine GX.nt ?_ | refine GX.nf ?_ | refine GX.nd ?_ | refine GX.n_ ?_) | (apply GX.k_binOp_neq; first | refine GX.b_neq ?_ | refine GX.b_pm ?_ | refine GX.b_nm ?_ | refine GX.b_neqs ?_ | refine GX.b_neqtf ?_ | refine GX.b_neqft ?_ | refine GX.b_neqb ?_)) | refine GX.gt ?_ | refine GX.gf ?_ | refine GX.gbt ?_ | refine GX.gbf ?_ | refine GX.un ?_ | refine GX.un0 ?_) | apply GX.then_normal | apply GX.seq | apply GX.region | (apply GX.s_cond; first | refine GX.ct ?_ | refine GX.cf ?_ | refine GX.cdf ?_ | refine GX.cdt ?_ | refine GX.cbt ?_ | refine GX.cbf ?_) | apply GX.skip | apply GX.block | apply GX.inBlock_normal | apply GX.exit | apply GX.then_exit | apply GX.inBlock_exit | refine GX.ibo ?_ | apply GX.ret | apply GX.then_ret | apply GX.inBlock_ret)
        subst hxy
        exact again (i + 1) ⟨rfl, rfl, rfl, trivial⟩ ⟨by omega, take_eq_succ ht hx hy⟩ (by omega)
      · repeat (first | (apply GX.s_list; first | apply GX.nil | (refine GX.o ?_; first | (apply GX.k_load; first | refine GX.lr ?_ | refine GX.lrA ?_ | refine GX.ln ?_ | refine GX.lb ?_ | refine GX.lh ?_ | (refine GX.ls ?_; intro ao cap _ _) | (refine GX.lA ?_; intro cs) | (refine GX.l0 ?_; intro cs) | refine GX.o1n ?_ | refine GX.o1b ?_ | refine GX.o1h ?_ | (refine GX.o1s ?_; intro ao cap _ _) | refine GX.omn ?_ | refine GX.omb ?_ | refine GX.omh ?_ | (refine GX.oms ?_; intro ao cap _ _) | refine GX.ofn ?_ | refine GX.ofb ?_ | refine GX.ofh ?_ | (refine GX.ofs ?_; intro ao cap _ _) | (refine GX.oA ?_; intro cs)) | (apply GX.k_move; refine GX.m ?_) | (apply GX.k_indexAddr; first | refine GX.io1 ?_ | refine GX.ioh ?_ | refine GX.i1 ?_ | refine GX.ih ?_ | (refine GX.ix ?_; intro bl o)) | (apply GX.k_binOp_lss; refine GX.b_lss ?_) | (apply GX.k_binOp_add; first | refine GX.b_inc ?_ | refine GX.b_add ?_ | refine GX.b_addw ?_) | (apply GX.k_assign; refine GX.a ?_) | (apply GX.k_call; refine GX.c_len ?_) | (apply GX.k_unOp; first | refine GX.nt ?_ | refine GX.nf ?_ | refine GX.nd ?_ | refine GX.n_ ?_) | (apply GX.k_binOp_neq; first | refine GX.b_neq ?_ | refine GX.b_pm ?_ | refine GX.b_nm ?_ | refine GX.b_neqs ?_ | refine GX.b_neqtf ?_ | refine GX.b_neqft ?_ | refine GX.b_neqb ?_)) | refine GX.gt ?_ | refine GX.gf ?_ | refine GX.gbt ?_ | refine GX.gbf ?_ | refine GX.un ?_ | refine GX.un0 ?_) | apply GX.then_normal | apply GX.seq | apply GX.region | (apply GX.s_cond; first | refine GX.ct ?_ | refine GX.cf ?_ | refine GX.cdf ?_ | refine GX.cdt ?_ | refine GX.cbt ?_ | refine GX.cbf ?_) | apply GX.skip | apply GX.block | apply GX.inBlock_normal | apply GX.exit | apply GX.then_exit | apply GX.inBlock_exit | refine GX.ibo ?_ | apply GX.ret | apply GX.then_ret | apply GX.inBlock_ret)
        have he : decide (xs = ys) = false := decide_eq_false fun e => hxy (by subst e; rw [hx] at hy; exact Option.some.inj hy)
        exact rt1 () (congrArg Value.bool he)
    · have hil : i = xs.length := by omega
      subst hil
      repeat (first | (apply GX.s_list; first | apply GX.nil | (refine GX.o ?_; first | (apply GX.k_load; first | refine GX.lr ?_ | refine GX.lrA ?_ | refine GX.ln ?_ | refine GX.lb ?_ | refine GX.lh ?_ | (refine GX.ls ?_; intro ao cap _ _) | (refine GX.lA ?_; intro cs) | (refine GX.l0 ?_; intro cs) | refine GX.o1n ?_ | refine GX.o1b ?_ | refine GX.o1h ?_ | (refine GX.o1s ?_; intro ao cap _ _) | refine GX.omn ?_ | refine GX.omb ?_ | refine GX.omh ?_ | (refine GX.oms ?_; intro ao cap _ _) | refine GX.ofn ?_ | refine GX.ofb ?_ | refine GX.ofh ?_ | (refine GX.ofs ?_; intro ao cap _ _) | (refine GX.oA ?_; intro cs)) | (apply GX.k_move; refine GX.m ?_) | (apply GX.k_indexAddr; first | refine GX.io1 ?_ | refine GX.ioh ?_ | refine GX.i1 ?_ | refine GX.ih ?_ | (refine GX.ix ?_; intro bl o)) | (apply GX.k_binOp_lss; refine GX.b_lss ?_) | (apply GX.k_binOp_add; first | refine GX.b_inc ?_ | refine GX.b_add ?_ | refine GX.b_addw ?_) | (apply GX.k_assign; refine GX.a ?_) | (apply GX.k_call; refine GX.c_len ?_) | (apply GX.k_unOp; first | refine GX.nt ?_ | refine GX.nf ?_ | refine GX.nd ?_ | refine GX.n_ ?_) | (apply GX.k_binOp_neq; first | refine GX.b_neq ?_ | refine GX.b_pm ?_ | refine GX.b_nm ?_ | refine GX.b_neqs ?_ | refine GX.b_neqtf ?_ | refine GX.b_neqft ?_ | refine GX.b_neqb ?_)) | refine GX.gt ?_ | refine GX.gf ?_ | refine GX.gbt ?_ | refine GX.gbf ?_ | refine GX.un ?_ | refine GX.un0 ?_) | apply GX.then_normal | apply GX.seq | apply GX.region | (apply GX.s_cond; first | refine GX.ct ?_ | refine GX.cf ?_ | refine GX.cdf ?_ | refine GX.cdt ?_ | refine GX.cbt ?_ | refine GX.cbf ?_) | apply GX.skip | apply GX.block | apply GX.inBlock_normal | apply GX.exit | apply GX.then_exit | apply GX.inBlock_exit | refine GX.ibo ?_ | apply GX.ret | apply GX.then_ret | apply GX.inBlock_ret)
      have he : decide (xs = ys) = true := by
        rw [List.take_length, hl, List.take_length] at ht
        exact decide_eq_true ht
      exact rt1 () (congrArg Value.bool he)
  · repeat (first | (apply GX.s_list; first | apply GX.nil | (refine GX.o ?_; first | (apply GX.k_load; first | refine GX.lr ?_ | refine GX.lrA ?_ | refine GX.ln ?_ | refine GX.lb ?_ | refine GX.lh ?_ | (refine GX.ls ?_; intro ao cap _ _) | (refine GX.lA ?_; intro cs) | (refine GX.l0 ?_; intro cs) | refine GX.o1n ?_ | refine GX.o1b ?_ | refine GX.o1h ?_ | (refine GX.o1s ?_; intro ao cap _ _) | refine GX.omn ?_ | refine GX.omb ?_ | refine GX.omh ?_ | (refine GX.oms ?_; intro ao cap _ _) | refine GX.ofn ?_ | refine GX.ofb ?_ | refine GX.ofh ?_ | (refine GX.ofs ?_; intro ao cap _ _) | (refine GX.oA ?_; intro cs)) | (apply GX.k_move; refine GX.m ?_) | (apply GX.k_indexAddr; first | refine GX.io1 ?_ | refine GX.ioh ?_ | refine GX.i1 ?_ | refine GX.ih ?_ | (refine GX.ix ?_; intro bl o)) | (apply GX.k_binOp_lss; refine GX.b_lss ?_) | (apply GX.k_binOp_add; first | refine GX.b_inc ?_ | refine GX.b_add ?_ | refine GX.b_addw ?_) | (apply GX.k_assign; refine GX.a ?_) | (apply GX.k_call; refine GX.c_len ?_) | (apply GX.k_unOp; first | refine GX.nt ?_ | refine GX.nf ?_ | refine GX.nd ?_ | refine GX.n_ ?_) | (apply GX.k_binOp_neq; first | refine GX.b_neq ?_ | refine GX.b_pm ?_ | refine GX.b_nm ?_ | refine GX.b_neqs ?_ | refine GX.b_neqtf ?_ | refine GX.b_neqft ?_ | refine GX.b_neqb ?_)) | refine GX.gt ?_ | refine GX.gf ?_ | refine GX.gbt ?_ | refine GX.gbf ?_ | refine GX.un ?_ | refine GX.un0 ?_) | apply GX.then_normal | apply GX.seq | apply GX.region | (apply GX.s_cond; first | refine GX.ct ?_ | refine GX.cf ?_ | refine GX.cdf ?_ | refine GX.cdt ?_ | refine GX.cbt ?_ | refine GX.cbf ?_) | apply GX.skip | apply GX.block | apply GX.inBlock_normal | apply GX.exit | apply GX.then_exit | apply GX.inBlock_exit | refine GX.ibo ?_ | apply GX.ret | apply GX.then_ret | apply GX.inBlock_ret)
    have he : decide (xs = ys) = false := decide_eq_false fun e => hl (by rw [e])
    exact rt1 () (congrArg Value.bool he)
end Go.Proofs.Ytkagjpkgboeaiaa

/- The walk over 'known' of chapter 20's laws. -/
namespace Go.SolM
open Go.Api Go.RiseM
def d20 : Dim := ⟨3, 2, 1⟩
def l20 : List Con := [⟨1, 0, 1, 0⟩, ⟨2, 1, 0, 0⟩, ⟨4, 0, 1, 0⟩, ⟨3, 2, 1, 0⟩]
def p20 : Points := ⟨[[1], [1], [1]], [[[]], [[1]]]⟩
theorem may20 : ∀ c ∈ l20, May d20 c := by decide
theorem in20 (n s : Nat) : In d20 l20 n s ↔ s = 1 ∧ (n = 0 ∨ n = 1 ∨ n = 2 ∨ n = 4) := by
  have hc := in_closed d20 l20
  have c1 := hc ⟨1, 0, 1, 0⟩ (by simp [l20])
  have c2 := hc ⟨2, 1, 0, 0⟩ (by simp [l20])
  have c3 := hc ⟨4, 0, 1, 0⟩ (by simp [l20])
  have c4 := hc ⟨3, 2, 1, 0⟩ (by simp [l20])
  simp only [Fit, Dim.fld, d20] at c1 c2 c3 c4
  simp at c1 c2 c3 c4
  constructor
  · refine in_least (X := fun n s => s = 1 ∧ (n = 0 ∨ n = 1 ∨ n = 2 ∨ n = 4)) fun c hc => ?_
    simp only [l20, List.mem_cons, List.not_mem_nil, or_false] at hc
    rcases hc with rfl | rfl | rfl | rfl <;> simp [Fit, Dim.fld, d20] <;> omega
  · have h0 := c1
    have h1 := c2 1 h0
    have h4 := c3 1 1 h0 h1
    have h2 := c4 1 1 h1 h4
    rintro ⟨rfl, rfl | rfl | rfl | rfl⟩
    · exact h0
    · exact h1
    · exact h2
    · exact h4
theorem list20 (n : Nat) : listOf d20 l20 n = if n = 0 ∨ n = 1 ∨ n = 2 ∨ n = 4 then [1] else [] := by
  refine Rise.eq (listOf_rise _ _ _) (by split <;> simp [Rise]) fun x => ?_
  rw [listOf_mem]
  constructor
  · rintro ⟨s, rfl, _, h⟩
    obtain ⟨rfl, h7⟩ := (in20 n s).1 h
    split
    · simp
    · rename_i hn; exact absurd h7 hn
  · intro h
    split at h
    · rename_i hn
      simp at h
      exact ⟨1, h, by decide, (in20 n 1).2 ⟨rfl, hn⟩⟩
    · simp at h
theorem pts20 : pts d20 l20 = p20 := by
  have e : listOf d20 l20 = fun n => if n = 0 ∨ n = 1 ∨ n = 2 ∨ n = 4 then [1] else [] := funext list20
  unfold pts fieldsOf
  rw [e]
  rfl
end Go.SolM
namespace Go.Proofs.Ytkagjpkgboeaiaa
open Go Go.RR Go.RX Go.GX Go.Api Go.RiseM Go.SolM
attribute [local irreducible] wpList Code.wp wpPlan Exit.then Exit.inBlock bodyPost NoPanic Went GX.Post GX.Again GX.Meet GX.RowR GX.Own GX.Owns GX.Box GX.Sl GX.Pt GX.Ag GX.MapR GX.Kept GX.Pin wpT GoK AtEnd Both
theorem fair20 : Fair 3 2 1 l20 := ⟨by unfold Dims; decide, may20⟩
theorem known20_spec : Does Try.prog 11 [] [] [] (fun _ : Unit => .bool true) (fun _ => []) (fun _ => []) := by
  refine enter Try.func11 rfl Try.ntmps11 rfl fun b => ?_
  refine GX.wbR ?_; intros
  refine GX.o (cl (points_spec _ _ l20 3 2 1 (by decide)) fun s => ?_)
  obtain ⟨cs, p, y, h⟩ := s
  obtain ⟨h1, _⟩ | ⟨_, rfl, rfl⟩ := h.symm
  · exact absurd fair20 h1
  dsimp only
  rw [show (⟨(3 : Int).toNat, (2 : Int).toNat, (1 : Int).toNat⟩ : Dim) = d20 from rfl, pts20]
  have h1 : p20.nodes = [[1], [1], [1]] := rfl
  have h2 : p20.fields.length = 2 := rfl
  have h3 : p20.fields[1]? = some [[1]] := rfl
  have h5 : FitsP p20 [⟨2, 2, 0, 0⟩] := by decide
  have h6 : ¬ FitsP p20 [⟨1, 0, 0, 0⟩] := by decide
  refine GX.wbR ?_; intros
  refine GX.o (cl (same_spec _ _ _ _ p20.nodes [[1], [1], [1]]) fun _ => ?_)
  refine GX.wbR ?_; intros
  refine GX.o (cl (same_spec _ _ _ _ [[1]] [[1]]) fun _ => ?_)
  rw [decide_eq_true (show ([[1]] : List (List Int)) = [[1]] from rfl)]
  refine GX.wbR ?_; intros
  refine GX.o (cl (sFits_spec _ p20 _ _ [⟨2, 2, 0, 0⟩]) fun _ => ?_)
  refine GX.wbR ?_; intros
  refine GX.o (cl (sFits_spec _ p20 _ _ [⟨1, 0, 0, 0⟩]) fun _ => ?_)
  refine GX.wbR ?_; intros
  exact rtT ()
end Go.Proofs.Ytkagjpkgboeaiaa
