import Derived.Test.YtkagjpkgboeaiaaR11
import Derived.Test.YtkagjpkgboeaiaaR12
import Derived.Test.YtkagjpkgboeaiaaR14
import Derived.Test.YtkagjpkgboeaiaaR17
import Derived.Test.YtkagjpkgboeaiaaR20
/- slices.Index and slices.Contains over ints. -/
namespace Go.Proofs.Ytkagjpkgboeaiaa
open Go Go.RR Go.RX Go.GX
attribute [local irreducible] wpList Code.wp wpPlan Exit.then Exit.inBlock bodyPost NoPanic Went GX.Post GX.Again GX.Meet GX.RowR GX.Own GX.Owns GX.Box GX.Sl GX.Pt GX.Ag GX.MapR GX.Kept GX.Pin

theorem index_spec (ao : Option Addr) (cap : Nat) (l : List Int) (v : Int) : Does Try.prog 53 [.slice ao l.length cap, .int .i64 v] [Sl Ty.int ao cap l] []
    (fun _ : Unit => .int .i64 (idxF (fun x => decide (v = x)) l)) (fun _ => []) (fun _ => []) := by
  refine enter Try.func53 rfl Try.ntmps53 rfl fun b => ?_
  refine sln ao fun h1 h2 _ => ?_
  repeat (first | (apply GX.s_list; first | apply GX.nil | (refine GX.o ?_; first | (apply GX.k_load; first | refine GX.lr ?_ | refine GX.lrA ?_ | refine GX.ln ?_ | refine GX.lb ?_ | refine GX.lh ?_ | (refine GX.ls ?_; intro ao cap _ _) | (refine GX.lA ?_; intro cs) | (refine GX.l0 ?_; intro cs) | refine GX.o1n ?_ | refine GX.o1b ?_ | refine GX.o1h ?_ | (refine GX.o1s ?_; intro ao cap _ _) | refine GX.omn ?_ | refine GX.omb ?_ | refine GX.omh ?_ | (refine GX.oms ?_; intro ao cap _ _) | refine GX.ofn ?_ | refine GX.ofb ?_ | refine GX.ofh ?_ | (refine GX.ofs ?_; intro ao cap _ _) | (refine GX.oA ?_; intro cs)) | (apply GX.k_move; refine GX.m ?_) | (apply GX.k_indexAddr; first | refine GX.io1 ?_ | refine GX.ioh ?_ | refine GX.i1 ?_ | refine GX.ih ?_ | (refine GX.ix ?_; intro bl o)) | (apply GX.k_binOp_lss; refine GX.b_lss ?_) | (apply GX.k_binOp_add; first | refine GX.b_inc ?_ | refine GX.b_add ?_ | refine GX.b_addw ?_) | (apply GX.k_assign; refine GX.a ?_) | (apply GX.k_call; refine GX.c_len ?_) | (apply GX.k_binOp_eql; first | refine GX.b_eql ?_ | refine GX.b_pn ?_ | refine GX.b_nn ?_ | refine GX.b_snn ?_ | refine GX.b_sns ?_ | refine GX.b_eqls ?_ | refine GX.b_eqltf ?_ | refine GX.b_eqlft ?_ | refine GX.b_eqlb ?_)) | refine GX.gt ?_ | refine GX.gf ?_ | refine GX.gbt ?_ | refine GX.gbf ?_ | refine GX.un ?_ | refine GX.un0 ?_) | apply GX.then_normal | apply GX.seq | apply GX.region | (apply GX.s_cond; first | refine GX.ct ?_ | refine GX.cf ?_ | refine GX.cdf ?_ | refine GX.cdt ?_ | refine GX.cbt ?_ | refine GX.cbf ?_) | apply GX.skip | apply GX.block | apply GX.inBlock_normal | apply GX.exit | apply GX.then_exit | apply GX.inBlock_exit | refine GX.ibo ?_ | apply GX.ret | apply GX.then_ret | apply GX.inBlock_ret)
  refine GX.loop (σ := Nat) (fun i => [(0, .slice ao l.length cap), (1, .int .i64 v), (7, .int .i64 (l.length : Int)), (8, .int .i64 (i : Int))]) (fun _ => []) (fun _ => [])
    (fun i => i ≤ l.length ∧ ∀ y ∈ l.take i, decide (v = y) = false) (fun i => l.length - i) 0 ⟨rfl, rfl, rfl, rfl, trivial⟩ ⟨by omega, by simp⟩ (fun i hi => ?_)
  obtain ⟨hi, hn⟩ := hi
  by_cases hlt : i < l.length
  · obtain ⟨x, hx⟩ := get_lt hlt
    by_cases hxv : v = x
    · repeat (first | (apply GX.s_list; first | apply GX.nil | (refine GX.o ?_; first | (apply GX.k_load; first | refine GX.lr ?_ | refine GX.lrA ?_ | refine GX.ln ?_ | refine GX.lb ?_ | refine GX.lh ?_ | (refine GX.ls ?_; intro ao cap _ _) | (refine GX.lA ?_; intro cs) | (refine GX.l0 ?_; intro cs) | refine GX.o1n ?_ | refine GX.o1b ?_ | refine GX.o1h ?_ | (refine GX.o1s ?_; intro ao cap _ _) | refine GX.omn ?_ | refine GX.omb ?_ | refine GX.omh ?_ | (refine GX.oms ?_; intro ao cap _ _) | refine GX.ofn ?_ | refine GX.ofb ?_ | refine GX.ofh ?_ | (refine GX.ofs ?_; intro ao cap _ _) | (refine GX.oA ?_; intro cs)) | (apply GX.k_move; refine GX.m ?_) | (apply GX.k_indexAddr; first | refine GX.io1 ?_ | refine GX.ioh ?_ | refine GX.i1 ?_ | refine GX.ih ?_ | (refine GX.ix ?_; intro bl o)) | (apply GX.k_binOp_lss; refine GX.b_lss ?_) | (apply GX.k_binOp_add; first | refine GX.b_inc ?_ | refine GX.b_add ?_ | refine GX.b_addw ?_) | (apply GX.k_assign; refine GX.a ?_) | (apply GX.k_call; refine GX.c_len ?_) | (apply GX.k_binOp_eql; first | refine GX.b_eql ?_ | refine GX.b_pn ?_ | refine GX.b_nn ?_ | refine GX.b_snn ?_ | refine GX.b_sns ?_ | refine GX.b_eqls ?_ | refine GX.b_eqltf ?_ | refine GX.b_eqlft ?_ | refine GX.b_eqlb ?_)) | refine GX.gt ?_ | refine GX.gf ?_ | refine GX.gbt ?_ | refine GX.gbf ?_ | refine GX.un ?_ | refine GX.un0 ?_) | apply GX.then_normal | apply GX.seq | apply GX.region | (apply GX.s_cond; first | refine GX.ct ?_ | refine GX.cf ?_ | refine GX.cdf ?_ | refine GX.cdt ?_ | refine GX.cbt ?_ | refine GX.cbf ?_) | apply GX.skip | apply GX.block | apply GX.inBlock_normal | apply GX.exit | apply GX.then_exit | apply GX.inBlock_exit | refine GX.ibo ?_ | apply GX.ret | apply GX.then_ret | apply GX.inBlock_ret)
      exact rt1 () (congrArg (Value.int .i64) (idxF_some hx (decide_eq_true hxv) hn))
    · repeat (first | (apply GX.s_list; first | apply GX.nil | (refine GX.o ?_; first | (apply GX.k_load; first | refine GX.lr ?_ | refine GX.lrA ?_ | refine GX.ln ?_ | refine GX.lb ?_ | refine GX.lh ?_ | (refine GX.ls ?_; intro ao cap _ _) | (refine GX.lA ?_; intro cs) | (refine GX.l0 ?_; intro cs) | refine GX.o1n ?_ | refine GX.o1b ?_ | refine GX.o1h ?_ | (refine GX.o1s ?_; intro ao cap _ _) | refine GX.omn ?_ | refine GX.omb ?_ | refine GX.omh ?_ | (refine GX.oms ?_; intro ao cap _ _) | refine GX.ofn ?_ | refine GX.ofb ?_ | refine GX.ofh ?_ | (refine GX.ofs ?_; intro ao cap _ _) | (refine GX.oA ?_; intro cs)) | (apply GX.k_move; refine GX.m ?_) | (apply GX.k_indexAddr; first | refine GX.io1 ?_ | refine GX.ioh ?_ | refine GX.i1 ?_ | refine GX.ih ?_ | (refine GX.ix ?_; intro bl o)) | (apply GX.k_binOp_lss; refine GX.b_lss ?_) | (apply GX.k_binOp_add; first | refine GX.b_inc ?_ | refine GX.b_add ?_ | refine GX.b_addw ?_) | (apply GX.k_assign; refine GX.a ?_) | (apply GX.k_call; refine GX.c_len ?_) | (apply GX.k_binOp_eql; first | refine GX.b_eql ?_ | refine GX.b_pn ?_ | refine GX.b_nn ?_ | refine GX.b_snn ?_ | refine GX.b_sns ?_ | refine GX.b_eqls ?_ | refine GX.b_eqltf ?_ | refine GX.b_eqlft ?_ | refine GX.b_eqlb ?_)) | refine GX.gt ?_ | refine GX.gf ?_ | refine GX.gbt ?_ | refine GX.gbf ?_ | refine GX.un ?_ | refine GX.un0 ?_) | apply GX.then_normal | apply GX.seq | apply GX.region | (apply GX.s_cond; first | refine GX.ct ?_ | refine GX.cf ?_ | refine GX.cdf ?_ | refine GX.cdt ?_ | refine GX.cbt ?_ | refine GX.cbf ?_) | apply GX.skip | apply GX.block | apply GX.inBlock_normal | apply GX.exit | apply GX.then_exit | apply GX.inBlock_exit | refine GX.ibo ?_ | apply GX.ret | apply GX.then_ret | apply GX.inBlock_ret)
      exact again (i + 1) ⟨rfl, rfl, rfl, rfl, trivial⟩ ⟨by omega, take_all_succ (p := fun y => decide (v = y)) hx (decide_eq_false hxv) hn⟩ (by omega)
  · have hil : i = l.length := by omega
    subst hil
    rw [List.take_length] at hn
    repeat (first | (apply GX.s_list; first | apply GX.nil | (refine GX.o ?_; first | (apply GX.k_load; first | refine GX.lr ?_ | refine GX.lrA ?_ | refine GX.ln ?_ | refine GX.lb ?_ | refine GX.lh ?_ | (refine GX.ls ?_; intro ao cap _ _) | (refine GX.lA ?_; intro cs) | (refine GX.l0 ?_; intro cs) | refine GX.o1n ?_ | refine GX.o1b ?_ | refine GX.o1h ?_ | (refine GX.o1s ?_; intro ao cap _ _) | refine GX.omn ?_ | refine GX.omb ?_ | refine GX.omh ?_ | (refine GX.oms ?_; intro ao cap _ _) | refine GX.ofn ?_ | refine GX.ofb ?_ | refine GX.ofh ?_ | (refine GX.ofs ?_; intro ao cap _ _) | (refine GX.oA ?_; intro cs)) | (apply GX.k_move; refine GX.m ?_) | (apply GX.k_indexAddr; first | refine GX.io1 ?_ | refine GX.ioh ?_ | refine GX.i1 ?_ | refine GX.ih ?_ | (refine GX.ix ?_; intro bl o)) | (apply GX.k_binOp_lss; refine GX.b_lss ?_) | (apply GX.k_binOp_add; first | refine GX.b_inc ?_ | refine GX.b_add ?_ | refine GX.b_addw ?_) | (apply GX.k_assign; refine GX.a ?_) | (apply GX.k_call; refine GX.c_len ?_) | (apply GX.k_binOp_eql; first | refine GX.b_eql ?_ | refine GX.b_pn ?_ | refine GX.b_nn ?_ | refine GX.b_snn ?_ | refine GX.b_sns ?_ | refine GX.b_eqls ?_ | refine GX.b_eqltf ?_ | refine GX.b_eqlft ?_ | refine GX.b_eqlb ?_)) | refine GX.gt ?_ | refine GX.gf ?_ | refine GX.gbt ?_ | refine GX.gbf ?_ | refine GX.un ?_ | refine GX.un0 ?_) | apply GX.then_normal | apply GX.seq | apply GX.region | (apply GX.s_cond; first | refine GX.ct ?_ | refine GX.cf ?_ | refine GX.cdf ?_ | refine GX.cdt ?_ | refine GX.cbt ?_ | refine GX.cbf ?_) | apply GX.skip | apply GX.block | apply GX.inBlock_normal | apply GX.exit | apply GX.then_exit | apply GX.inBlock_exit | refine GX.ibo ?_ | apply GX.ret | apply GX.then_ret | apply GX.inBlock_ret)
    exact rt1 () (congrArg (Value.int .i64) (idxF_none hn))
theorem contains_spec (ao : Option Addr) (cap : Nat) (l : List Int) (v : Int) : Does Try.prog 44 [.slice ao l.length cap, .int .i64 v] [Sl Ty.int ao cap l] []
    (fun _ : Unit => .bool (decide (v ∈ l))) (fun _ => []) (fun _ => []) := by
  refine enter Try.func44 rfl Try.ntmps44 rfl fun b => ?_
  repeat (first | (apply GX.s_list; first | apply GX.nil | (refine GX.o ?_; first | (apply GX.k_move; refine GX.m ?_) | (apply GX.k_assign; refine GX.a ?_) | (apply GX.k_binOp_geq; refine GX.b_geq ?_)) | refine GX.gt ?_ | refine GX.gf ?_ | refine GX.gbt ?_ | refine GX.gbf ?_ | refine GX.un ?_ | refine GX.un0 ?_) | apply GX.then_normal | apply GX.seq | apply GX.region | (apply GX.s_cond; first | refine GX.ct ?_ | refine GX.cf ?_ | refine GX.cdf ?_ | refine GX.cdt ?_ | refine GX.cbt ?_ | refine GX.cbf ?_) | apply GX.skip | apply GX.block | apply GX.inBlock_normal | apply GX.exit | apply GX.then_exit | apply GX.inBlock_exit | refine GX.ibo ?_ | apply GX.ret | apply GX.then_ret | apply GX.inBlock_ret)
  refine GX.o (cl (index_spec ao cap l v) fun _ => ?_)
  have e : decide (v ∈ l) = decide (0 ≤ idxF (fun x => decide (v = x)) l) := by
    rw [idxF_any, Bool.eq_iff_iff, List.any_eq_true]
    simp
  rw [e]
  repeat (first | (apply GX.s_list; first | apply GX.nil | (refine GX.o ?_; first | (apply GX.k_move; refine GX.m ?_) | (apply GX.k_assign; refine GX.a ?_) | (apply GX.k_binOp_geq; refine GX.b_geq ?_)) | refine GX.gt ?_ | refine GX.gf ?_ | refine GX.gbt ?_ | refine GX.gbf ?_ | refine GX.un ?_ | refine GX.un0 ?_) | apply GX.then_normal | apply GX.seq | apply GX.region | (apply GX.s_cond; first | refine GX.ct ?_ | refine GX.cf ?_ | refine GX.cdf ?_ | refine GX.cdt ?_ | refine GX.cbt ?_ | refine GX.cbf ?_) | apply GX.skip | apply GX.block | apply GX.inBlock_normal | apply GX.exit | apply GX.then_exit | apply GX.inBlock_exit | refine GX.ibo ?_ | apply GX.ret | apply GX.then_ret | apply GX.inBlock_ret)
  exact rt1 () rfl
end Go.Proofs.Ytkagjpkgboeaiaa

/- What fits constraints, plainly. No program in sight. -/
namespace Go.SolM
open Go.Api Go.RiseM
abbrev SubL (x y : List Int) : Prop := ∀ z ∈ x, z ∈ y
def nd (p : Points) (a : Int) : List Int := p.nodes.getD a.toNat []
def row (p : Points) (a : Int) : List (List Int) := p.fields.getD a.toNat []
def fieldOf (p : Points) (x f : Int) : List Int := (row p x).getD f.toNat []
def FieldAt (p : Points) (x f : Int) : Prop := Below p.fields.length x ∧ Below (row p x).length f
instance (n : Nat) (x : Int) : Decidable (Below n x) := by unfold Below; infer_instance
instance (p : Points) (x f : Int) : Decidable (FieldAt p x f) := by unfold FieldAt; infer_instance
def Alike (x y : List (List Int)) : Prop := x.length = y.length ∧ ∀ i, i < x.length → SubL (x.getD i []) (y.getD i []) ∧ SubL (y.getD i []) (x.getD i [])
instance (x y : List (List Int)) : Decidable (Alike x y) := by unfold Alike; infer_instance
def FitP (p : Points) (c : Con) : Prop :=
  if c.kind = 5 then Below p.fields.length c.a ∧ Below p.fields.length c.b ∧ Alike (row p c.a) (row p c.b)
  else Below p.nodes.length c.a ∧
    if c.kind = 1 then c.b ∈ nd p c.a
    else Below p.nodes.length c.b ∧
      if c.kind = 2 then SubL (nd p c.b) (nd p c.a)
      else if c.kind = 3 then ∀ x ∈ nd p c.b, FieldAt p x c.f ∧ SubL (fieldOf p x c.f) (nd p c.a)
      else if c.kind = 4 then ∀ x ∈ nd p c.a, FieldAt p x c.f ∧ SubL (nd p c.b) (fieldOf p x c.f)
      else False
instance (p : Points) (c : Con) : Decidable (FitP p c) := by unfold FitP; infer_instance
def FitsP (p : Points) (l : List Con) : Prop := ∀ c ∈ l, FitP p c
instance (p : Points) (l : List Con) : Decidable (FitsP p l) := by unfold FitsP; infer_instance
/-! What a table of points says of cells. -/
structure Shape (d : Dim) (p : Points) : Prop where
  n : p.nodes.length = d.N
  s : p.fields.length = d.S
  w : ∀ r ∈ p.fields, r.length = d.W
def cell (d : Dim) (p : Points) (n : Nat) : List Int := if n < d.N then p.nodes.getD n [] else (p.fields.getD ((n - d.N) / d.W) []).getD ((n - d.N) % d.W) []
def XP (d : Dim) (p : Points) (n s : Nat) : Prop := (s : Int) ∈ cell d p n
structure Sited (d : Dim) (p : Points) : Prop where
  shape : Shape d p
  ok : ∀ n, ∀ x ∈ cell d p n, Below d.S x
theorem cell_node {d : Dim} {p : Points} {n : Nat} (h : n < d.N) : cell d p n = p.nodes.getD n [] := if_pos h
theorem cell_fld {d : Dim} {p : Points} {s f : Nat} (hf : f < d.W) : cell d p (d.fld s f) = (p.fields.getD s []).getD f [] := by
  unfold cell
  rw [if_neg (by unfold Dim.fld; omega)]
  have e : d.fld s f - d.N = s * d.W + f := by unfold Dim.fld; omega
  rw [e, Nat.mul_comm s, Nat.mul_add_div (by omega), Nat.div_eq_of_lt hf, Nat.mul_add_mod, Nat.mod_eq_of_lt hf, Nat.add_zero]
theorem sub_iff {d : Dim} {p : Points} (h : Sited d p) (n m : Nat) : SubL (cell d p n) (cell d p m) ↔ ∀ s, XP d p n s → XP d p m s := by
  constructor
  · intro h1 s hs; exact h1 _ hs
  · intro h1 z hz
    obtain ⟨s, rfl⟩ := Int.eq_ofNat_of_zero_le (h.ok n z hz).1
    exact h1 s hz
theorem row_len {d : Dim} {p : Points} (h : Shape d p) {s : Nat} (hs : s < d.S) : (p.fields.getD s []).length = d.W := by
  rw [List.getD_eq_getElem?_getD, List.getElem?_eq_getElem (by rw [h.s]; exact hs)]
  exact h.w _ (List.getElem_mem _)
theorem row_cell {d : Dim} {p : Points} {x : Int} {f : Nat} (hf : f < d.W) : (row p x).getD f [] = cell d p (d.fld x.toNat f) := (cell_fld hf).symm
/-- What the programs ask of a table is what the plain words say. -/
theorem fitP_iff {d : Dim} {p : Points} {c : Con} (h : Sited d p) (hc : May d c) : FitP p c ↔ Fit d (XP d p) c := by
  have hs := h.shape
  unfold May at hc
  unfold FitP Fit
  by_cases e5 : c.kind = 5
  · rw [if_pos e5]
    rw [if_neg (by omega), if_neg (by omega), if_neg (by omega), if_pos e5] at hc
    rw [if_neg (by omega), if_neg (by omega), if_neg (by omega), if_neg (by omega), hs.s]
    have ha := row_len hs (s := c.a.toNat) (by omega)
    have hb := row_len hs (s := c.b.toNat) (by omega)
    have ha : (row p c.a).length = d.W := ha
    have hb : (row p c.b).length = d.W := hb
    unfold Alike
    rw [ha, hb]
    constructor
    · rintro ⟨_, _, _, h1⟩ f hf s
      have := h1 f hf
      rw [row_cell hf, row_cell hf, sub_iff h, sub_iff h] at this
      exact ⟨this.1 s, this.2 s⟩
    · intro h1
      refine ⟨hc.1, hc.2, rfl, fun f hf => ?_⟩
      rw [row_cell hf, row_cell hf, sub_iff h, sub_iff h]
      exact ⟨fun s hs => (h1 f hf s).1 hs, fun s hs => (h1 f hf s).2 hs⟩
  rw [if_neg e5, hs.n]
  have hba : Below d.N c.a := by
    by_cases e1 : c.kind = 1
    · rw [if_pos e1] at hc; exact hc.1
    rw [if_neg e1] at hc
    by_cases e2 : c.kind = 2
    · rw [if_pos e2] at hc; exact hc.1
    rw [if_neg e2] at hc
    by_cases e3 : c.kind = 3 ∨ c.kind = 4
    · rw [if_pos e3] at hc; exact hc.1
    rw [if_neg e3, if_neg e5] at hc; exact hc.elim
  have hna : nd p c.a = cell d p c.a.toNat := (cell_node (by have := hba; omega)).symm
  by_cases e1 : c.kind = 1
  · rw [if_pos e1] at hc
    rw [if_pos e1, if_pos e1, hna]
    have e : c.b = ((c.b.toNat : Nat) : Int) := by have := hc.2.1; omega
    constructor
    · rintro ⟨_, h1⟩; unfold XP; rwa [← e]
    · intro h1; refine ⟨hba, ?_⟩; unfold XP at h1; rwa [← e] at h1
  rw [if_neg e1] at hc ⊢
  rw [if_neg e1]
  have hbb : Below d.N c.b := by
    by_cases e2 : c.kind = 2
    · rw [if_pos e2] at hc; exact hc.2
    rw [if_neg e2] at hc
    by_cases e3 : c.kind = 3 ∨ c.kind = 4
    · rw [if_pos e3] at hc; exact hc.2.1
    rw [if_neg e3, if_neg e5] at hc; exact hc.elim
  have hnb : nd p c.b = cell d p c.b.toNat := (cell_node (by have := hbb; omega)).symm
  by_cases e2 : c.kind = 2
  · rw [if_pos e2, if_pos e2, hna, hnb, sub_iff h]
    exact ⟨fun h1 => h1.2.2, fun h1 => ⟨hba, hbb, h1⟩⟩
  rw [if_neg e2] at hc
  rw [if_neg e2, if_neg e2]
  have e34 : c.kind = 3 ∨ c.kind = 4 := Classical.byContradiction fun e => by rw [if_neg e, if_neg e5] at hc; exact hc
  rw [if_pos e34] at hc
  have hff := hc.2.2
  have hfw : c.f.toNat < d.W := by omega
  have hat : ∀ n x, x ∈ cell d p n → FieldAt p x c.f ∧ fieldOf p x c.f = cell d p (d.fld x.toNat c.f.toNat) := fun n x hx => by
    have hx := h.ok n x hx
    have := row_len hs (s := x.toNat) (by omega)
    have : (row p x).length = d.W := this
    refine ⟨⟨by rw [hs.s]; exact hx, by rw [this]; exact hff⟩, row_cell hfw⟩
  by_cases e3 : c.kind = 3
  · rw [if_pos e3, if_pos e3, hna, hnb]
    constructor
    · rintro ⟨_, _, h1⟩ k s hk hs
      have h2 := (h1 _ hk).2
      rw [(hat _ _ hk).2, sub_iff h] at h2
      exact h2 s hs
    · intro h1
      refine ⟨hba, hbb, fun x hx => ⟨(hat _ x hx).1, ?_⟩⟩
      rw [(hat _ x hx).2, sub_iff h]
      have hb := h.ok _ x hx
      refine fun s hs => h1 x.toNat s ?_ hs
      unfold XP
      rwa [show ((x.toNat : Nat) : Int) = x by omega]
  have e4 : c.kind = 4 := by omega
  rw [if_neg e3, if_neg e3, if_pos e4, if_pos e4, hna, hnb]
  constructor
  · rintro ⟨_, _, h1⟩ k s hk hs
    have h2 := (h1 _ hk).2
    rw [(hat _ _ hk).2, sub_iff h] at h2
    exact h2 s hs
  · intro h1
    refine ⟨hba, hbb, fun x hx => ⟨(hat _ x hx).1, ?_⟩⟩
    rw [(hat _ x hx).2, sub_iff h]
    have hb := h.ok _ x hx
    refine fun s hs => h1 x.toNat s ?_ hs
    unfold XP
    rwa [show ((x.toNat : Nat) : Int) = x by omega]
theorem fitsP_iff {d : Dim} {p : Points} {l : List Con} (h : Sited d p) (hl : ∀ c ∈ l, May d c) : FitsP p l ↔ Closed d l (XP d p) :=
  ⟨fun h1 c hc => (fitP_iff h (hl c hc)).1 (h1 c hc), fun h1 c hc => (fitP_iff h (hl c hc)).2 (h1 c hc)⟩
/-! The least. -/
theorem getD_map {α : Type} (f : Nat → α) (m i : Nat) (z : α) (h : i < m) : ((List.range m).map f).getD i z = f i := by
  rw [List.getD_eq_getElem?_getD, List.getElem?_map, List.getElem?_range h]; rfl
theorem pts_shape (d : Dim) (l : List Con) : Shape d (pts d l) := ⟨by simp [pts], by simp [pts], fun r hr => by
  simp only [pts, List.mem_map] at hr
  obtain ⟨s, _, rfl⟩ := hr
  simp [fieldsOf]⟩
theorem getD_nil {α : Type} {l : List α} {i : Nat} {z : α} (h : l.length ≤ i) : l.getD i z = z := by
  rw [List.getD_eq_getElem?_getD, List.getElem?_eq_none h]; rfl
theorem pts_cell {d : Dim} {l : List Con} (hl : ∀ c ∈ l, May d c) {n : Nat} : cell d (pts d l) n = listOf d l n ∨ cell d (pts d l) n = [] ∧ d.M ≤ n := by
  by_cases h : n < d.N
  · left; rw [cell_node h]; exact getD_map _ _ _ _ h
  by_cases hM : n < d.M
  · left
    have hW : 0 < d.W := Nat.pos_of_ne_zero fun e => by unfold Dim.M at hM; rw [e, Nat.mul_zero] at hM; omega
    have hs : (n - d.N) / d.W < d.S := Nat.div_lt_of_lt_mul (by unfold Dim.M at hM; rw [Nat.mul_comm]; omega)
    have hf := Nat.mod_lt (n - d.N) hW
    have e : n = d.fld ((n - d.N) / d.W) ((n - d.N) % d.W) := by
      unfold Dim.fld
      have := Nat.div_add_mod (n - d.N) d.W
      rw [Nat.mul_comm] at this
      omega
    rw [e, cell_fld hf]
    show ((List.map (fieldsOf d l) (List.range d.S)).getD _ []).getD _ [] = _
    rw [getD_map _ _ _ _ hs]
    exact getD_map _ _ _ _ hf
  · right
    refine ⟨?_, by omega⟩
    unfold cell
    rw [if_neg h]
    by_cases hW : d.W = 0
    · by_cases hs : (n - d.N) / d.W < d.S
      · have := row_len (pts_shape d l) hs
        exact getD_nil (by rw [this]; omega)
      · rw [getD_nil (l := (pts d l).fields) (by rw [(pts_shape d l).s]; omega)]; rfl
    · have : ¬ (n - d.N) / d.W < d.S := fun h2 => by
        have := (Nat.div_lt_iff_lt_mul (by omega)).1 h2
        unfold Dim.M at hM; omega
      rw [getD_nil (l := (pts d l).fields) (by rw [(pts_shape d l).s]; omega)]; rfl
theorem pts_XP {d : Dim} {l : List Con} (hl : ∀ c ∈ l, May d c) (n s : Nat) : XP d (pts d l) n s ↔ In d l n s := by
  unfold XP
  rcases pts_cell hl (n := n) with h | ⟨h, h2⟩
  · rw [h, listOf_mem]
    constructor
    · rintro ⟨k, e, _, h1⟩; rwa [show s = k by omega]
    · intro h1; exact ⟨s, rfl, (in_lt hl h1).2, h1⟩
  · rw [h]
    constructor
    · intro h1; simp at h1
    · intro h1; have := (in_lt hl h1).1; omega
theorem pts_sited {d : Dim} {l : List Con} (hl : ∀ c ∈ l, May d c) : Sited d (pts d l) := ⟨pts_shape d l, fun n x hx => by
  rcases pts_cell hl (n := n) with h | ⟨h, _⟩
  · rw [h, listOf_mem] at hx
    obtain ⟨s, rfl, h1, _⟩ := hx
    exact ⟨by omega, by omega⟩
  · rw [h] at hx; simp at hx⟩
theorem closed_congr {d : Dim} {l : List Con} {X Y : Nat → Nat → Prop} (h : ∀ n s, X n s ↔ Y n s) : Closed d l X ↔ Closed d l Y := by
  have : X = Y := funext fun n => funext fun s => propext (h n s)
  rw [this]
theorem pts_fits {d : Dim} {l : List Con} (hl : ∀ c ∈ l, May d c) : FitsP (pts d l) l := by
  rw [fitsP_iff (pts_sited hl) hl, closed_congr (pts_XP hl)]
  exact in_closed d l
end Go.SolM

/- The walk over solve's Fits. -/
namespace Go.Proofs.Ytkagjpkgboeaiaa
open Go Go.RR Go.RX Go.GX Go.Api Go.RiseM Go.SolM
attribute [local irreducible] wpList Code.wp wpPlan Exit.then Exit.inBlock bodyPost NoPanic Went GX.Post GX.Again GX.Meet GX.RowR GX.Own GX.Owns GX.Box GX.Sl GX.Pt GX.Ag GX.MapR GX.Kept GX.Pin wpT GoK AtEnd Both
theorem sall1_spec (bl : Nat) (l : List Int) (n : Int) : Does Try.prog 55 [.int .i64 n, .pointer (some ⟨bl, 0, none⟩)] [Pt (Ty.slice Ty.int) bl 0 l] [] (fun _ : Unit => .bool (decide (¬ n ∈ l))) (fun _ => []) (fun _ => []) := by
  refine enter Try.func55 rfl Try.ntmps55 rfl fun b => ?_
  refine GX.wbR ?_; intros
  refine GX.o (cl (contains_spec _ _ l n) fun _ => ?_)
  refine GX.wbR ?_; intros
  exact rt1 () rfl
theorem sall_spec (a1 a2 : Option Addr) (c1 c2 : Nat) (l m : List Int) : Does Try.prog 45 [.slice a1 l.length c1, .slice a2 m.length c2] [Sl Ty.int a1 c1 l, Sl Ty.int a2 c2 m] []
    (fun _ : Unit => .bool (decide (SubL l m))) (fun _ => []) (fun _ => []) := by
  refine enter Try.func45 rfl Try.ntmps45 rfl fun b => ?_
  refine GX.wbR ?_; intros
  refine GX.nmP 3 ?_; rintro b3 rfl
  refine frzS b3 Ty.int m ?_
  refine GX.o (cl (containsFunc_spec a1 c1 l 55 [.pointer (some ⟨b3, 0, none⟩)] [Pt (Ty.slice Ty.int) b3 0 m] [] (fun n => decide (¬ n ∈ m)) (fun n _ => sall1_spec b3 m n)) fun _ => ?_)
  have e : (l.any fun n => decide (¬ n ∈ m)) = decide (¬ ∀ n ∈ l, n ∈ m) := by
    rw [Bool.eq_iff_iff, List.any_eq_true]
    simp
  rw [e]
  refine GX.wbR ?_; intros
  exact rt1 () (congrArg Value.bool (decide_eq_decide.2 Classical.not_not.symm))
theorem take_all_s {α : Type} {P : α → Prop} {l : List α} {i : Nat} {x : α} (h : ∀ y ∈ l.take i, P y) (hx : l[i]? = some x) (hp : P x) : ∀ y ∈ l.take (i + 1), P y := by
  intro y hy
  rw [List.take_add_one, hx, List.mem_append] at hy
  rcases hy with hy | hy
  · exact h y hy
  · simp at hy; subst hy; exact hp
theorem getD_some {α : Type} {l : List α} {i : Nat} {x z : α} (h : l[i]? = some x) : l.getD i z = x := by rw [List.getD_eq_getElem?_getD, h]; rfl
theorem alike_spec (a1 a2 : Option Addr) (c1 c2 : Nat) (x y : List (List Int)) : Does Try.prog 43 [.slice a1 x.length c1, .slice a2 y.length c2] [Sl (Ty.slice Ty.int) a1 c1 x, Sl (Ty.slice Ty.int) a2 c2 y] []
    (fun _ : Unit => .bool (decide (SolM.Alike x y))) (fun _ => []) (fun _ => []) := by
  refine enter Try.func43 rfl Try.ntmps43 rfl fun b => ?_
  refine sln a1 fun h1 _ _ => ?_
  refine sln a2 fun h2 _ _ => ?_
  by_cases hl : ¬ x.length = y.length
  · refine GX.wbR ?_; intros
    exact rt1 () (vN fun h => hl h.1)
  have hl := Classical.not_not.1 hl
  refine GX.wbR ?_; intros
  refine GX.loop (σ := Nat) (fun i => [(0, .slice a1 x.length c1), (1, .slice a2 y.length c2), (12, .int .i64 (x.length : Int)), (13, .int .i64 (i : Int))]) (fun _ => []) (fun _ => [])
    (fun i => i ≤ x.length ∧ ∀ j, j < i → SubL (x.getD j []) (y.getD j []) ∧ SubL (y.getD j []) (x.getD j [])) (fun i => x.length - i) 0 ⟨rfl, rfl, rfl, rfl, trivial⟩ ⟨by omega, fun j hj => by omega⟩ (fun i hi => ?_)
  obtain ⟨hi, hn⟩ := hi
  by_cases hlt : i < x.length
  · obtain ⟨u, hu⟩ := get_lt hlt
    obtain ⟨v, hv⟩ := get_lt (show i < y.length by omega)
    have gu : x.getD i [] = u := getD_some hu
    have gv : y.getD i [] = v := getD_some hv
    refine GX.wbR ?_; intros
    refine GX.drawn0  (fun j => !(List.contains [8, 19] j)) [(0, true), (1, true), (2, true), (3, true), (4, true), (5, true), (6, true), (7, true), (8, false), (9, true), (10, true), (11, true), (12, true), (13, true), (14, true), (15, true), (16, true), (17, true), (18, true), (19, false), (20, true), (21, true)] rfl (by kernel_rfl) (by kernel_rfl) (by first | ((repeat (first | apply Go.GX.SelR.nil | apply Go.GX.SelR.cons | (with_reducible apply Go.GX.TakeR.head) | apply Go.GX.TakeR.tail)); done) | (repeat (first | apply Go.GX.SelR.nil | apply Go.GX.SelR.cons | apply Go.GX.TakeR.head | apply Go.GX.TakeR.tail))) ?_; intro wd F hW hR
    refine GX.wbT ?_; intros
    refine GX.gow ?_
    refine (cl (sall_spec _ _ _ _ u v) fun _ => ?_)
    by_cases hs1 : ¬ SubL u v
    · refine GX.wbT ?_; intros
      refine GX.wbR ?_; intros
      exact rt1 () (vN fun h => hs1 (by have := (h.2 i hlt).1; rwa [gu, gv] at this))
    have hs1 := Classical.not_not.1 hs1
    refine GX.wbT ?_; intros
    refine GX.gow ?_
    refine (cl (sall_spec _ _ _ _ v u) fun _ => ?_)
    by_cases hs2 : ¬ SubL v u
    · refine GX.wbT ?_; intros
      refine GX.wbR ?_; intros
      exact rt1 () (vN fun h => hs2 (by have := (h.2 i hlt).2; rwa [gu, gv] at this))
    have hs2 := Classical.not_not.1 hs2
    refine GX.wbT ?_; intros
    refine GX.wbR ?_; intros
    refine again (i + 1) ⟨rfl, rfl, rfl, rfl, trivial⟩ ⟨by omega, fun j hj => ?_⟩ (by omega)
    by_cases e : j = i
    · subst e; rw [gu, gv]; exact ⟨hs1, hs2⟩
    · exact hn j (by omega)
  · obtain rfl : i = x.length := by omega
    refine GX.wbR ?_; intros
    exact rt1 () (vY ⟨hl, hn⟩)
end Go.Proofs.Ytkagjpkgboeaiaa

/- The walk over solve's each and fits. -/
namespace Go.Proofs.Ytkagjpkgboeaiaa
open Go Go.RR Go.RX Go.GX Go.Api Go.RiseM Go.SolM
attribute [local irreducible] wpList Code.wp wpPlan Exit.then Exit.inBlock bodyPost NoPanic Went GX.Post GX.Again GX.Meet GX.RowR GX.Own GX.Owns GX.Box GX.Sl GX.Pt GX.Ag GX.MapR GX.Kept GX.Pin wpT GoK AtEnd Both
theorem row_some {p : Points} {k : Nat} {r : List (List Int)} (h : p.fields[k]? = some r) : row p (k : Int) = r := by unfold row; exact getD_some h
theorem fieldOf_some {p : Points} {k m : Nat} {r : List (List Int)} {ys : List Int} (h : p.fields[k]? = some r) (h2 : r[m]? = some ys) : fieldOf p (k : Int) (m : Int) = ys := by unfold fieldOf; rw [row_some h]; exact getD_some h2
theorem nd_some {p : Points} {k : Nat} {r : List Int} (h : p.nodes[k]? = some r) : SolM.nd p (k : Int) = r := by unfold SolM.nd; exact getD_some h
set_option maxHeartbeats 1000000 in
theorem each_spec (cs : List Value) (p : Points) (ao : Option Addr) (cap : Nat) (xs : List Int) (f : Int) (fid : Nat) (caps : List Value) (psC : List Pf) (g : List Int → Bool) [UFunc Try.prog fid]
    (hg : ∀ (ys : List Int) (ao : Option Addr) (cap : Nat), Does Try.prog fid (.slice ao ys.length cap :: caps) (Sl Ty.int ao cap ys :: psC) [] (fun _ : Unit => .bool (g ys)) (fun _ => []) (fun _ => [])) :
    Does Try.prog 46 [.agg cs.toArray, .slice ao xs.length cap, .int .i64 f, .func (.func fid) #[] caps.toArray] (Ag tyPoints cs p :: Sl Ty.int ao cap xs :: psC) [] (fun _ : Unit => .bool (decide (∀ x ∈ xs, FieldAt p x f ∧ g (fieldOf p x f) = true))) (fun _ => []) (fun _ => []) := by
  refine enter Try.func46 rfl Try.ntmps46 rfl fun b => ?_
  refine sln ao fun h1 _ _ => ?_
  refine GX.wbR ?_; intros
  refine GX.nmP 4 ?_; rintro b4 rfl
  refine GX.loop (σ := Nat) (fun i => [(2, .int .i64 f), (3, .func (.func fid) #[] caps.toArray), (4, .pointer (some ⟨b4, 0, none⟩)), (11, .slice ao xs.length cap), (12, .int .i64 (xs.length : Int)), (13, .int .i64 (i : Int))]) (fun _ => []) (fun _ => [])
    (fun i => i ≤ xs.length ∧ ∀ x ∈ xs.take i, FieldAt p x f ∧ g (fieldOf p x f) = true) (fun i => xs.length - i) 0 ⟨rfl, rfl, rfl, rfl, rfl, rfl, trivial⟩ ⟨by omega, by simp⟩ (fun i hi => ?_)
  obtain ⟨hi, hn⟩ := hi
  by_cases hlt : i < xs.length
  · obtain ⟨x, hx⟩ := get_lt hlt
    have hxm := List.mem_of_getElem? hx
    refine GX.wbR ?_; intros
    refine GX.o (cl (within_spec x p.fields.length) fun _ => ?_)
    by_cases hb1 : ¬ (0 ≤ x ∧ x < (p.fields.length : Int))
    · refine GX.wbR ?_; intros
      exact rt1 () (vN fun h => hb1 (h x hxm).1.1)
    have hb1 := Classical.not_not.1 hb1
    obtain ⟨k, rfl⟩ := Int.eq_ofNat_of_zero_le hb1.1
    obtain ⟨r, hr⟩ := get_lt (show k < p.fields.length by omega)
    have hrow := row_some hr
    refine GX.wbR ?_; intros
    refine GX.o (cl (within_spec f r.length) fun _ => ?_)
    by_cases hb2 : ¬ (0 ≤ f ∧ f < (r.length : Int))
    · refine GX.wbR ?_; intros
      refine rt1 () (vN fun h => hb2 ?_)
      have := (h _ hxm).1.2
      rwa [hrow] at this
    have hb2 := Classical.not_not.1 hb2
    obtain ⟨m, rfl⟩ := Int.eq_ofNat_of_zero_le hb2.1
    obtain ⟨ys, hys⟩ := get_lt (show m < r.length by omega)
    have hfo := fieldOf_some hr hys
    refine GX.wbR ?_; intros
    refine GX.o (clvS (fs := []) (cs := caps) (hg ys _ _) ?_ fun _ => ?_)
    · intro p hp
      simp only [List.mem_cons] at hp ⊢
      rcases hp with hp | hp <;> simp [hp]
    cases hgy : g ys with
    | false =>
      refine GX.wbR ?_; intros
      refine rt1 () (vN fun h => ?_)
      have := (h _ hxm).2
      rw [hfo, hgy] at this
      cases this
    | true =>
      refine GX.wbR ?_; intros
      exact again (i + 1) ⟨rfl, rfl, rfl, rfl, rfl, rfl, trivial⟩ ⟨by omega, take_all_s hn hx ⟨⟨hb1, by rw [hrow]; exact hb2⟩, by rw [hfo]; exact hgy⟩⟩ (by omega)
  · rw [List.take_of_length_le (by omega)] at hn
    refine GX.wbR ?_; intros
    exact rt1 () (vY hn)
theorem fits1_spec (bl : Nat) (xs ys : List Int) (ao : Option Addr) (cap : Nat) : Does Try.prog 47 [.slice ao ys.length cap, .pointer (some ⟨bl, 0, none⟩)] [Sl Ty.int ao cap ys, Pt (Ty.slice Ty.int) bl 0 xs] [] (fun _ : Unit => .bool (decide (SubL ys xs))) (fun _ => []) (fun _ => []) := by
  refine enter Try.func47 rfl Try.ntmps47 rfl fun b => ?_
  refine GX.wbR ?_; intros
  refine GX.o (cl (sall_spec _ _ _ _ ys xs) fun _ => ?_)
  refine GX.wbR ?_; intros
  exact rt1 () rfl
theorem fits2_spec (b2 b3 : Nat) (p : Points) (c : Con) (hb : Below p.nodes.length c.b) (ys : List Int) (ao : Option Addr) (cap : Nat) : Does Try.prog 48 [.slice ao ys.length cap, .pointer (some ⟨b2, 0, none⟩), .pointer (some ⟨b3, 0, none⟩)] [Sl Ty.int ao cap ys, Pt tyPoints b2 0 p, Pt tyCon b3 0 c] [] (fun _ : Unit => .bool (decide (SubL (SolM.nd p c.b) ys))) (fun _ => []) (fun _ => []) := by
  refine enter Try.func48 rfl Try.ntmps48 rfl fun b => ?_
  obtain ⟨kd, ca, cb, cf⟩ := c
  dsimp only at hb ⊢
  obtain ⟨k, rfl⟩ := Int.eq_ofNat_of_zero_le hb.1
  obtain ⟨r, hr⟩ := get_lt (show k < p.nodes.length by omega)
  rw [nd_some hr]
  refine GX.wbR ?_; intros
  refine GX.o (cl (sall_spec _ _ _ _ r ys) fun _ => ?_)
  refine GX.wbR ?_; intros
  exact rt1 () rfl
end Go.Proofs.Ytkagjpkgboeaiaa

/- The walk over solve's fits and Fits. -/
namespace Go.SolM
open Go.Api
theorem fp5 {p : Points} {a b f : Int} : FitP p ⟨5, a, b, f⟩ ↔ Below p.fields.length a ∧ Below p.fields.length b ∧ Alike (row p a) (row p b) := by unfold FitP; rw [if_pos rfl]
theorem fpA {p : Points} {k a b f : Int} (hk : k ≠ 5) (h : FitP p ⟨k, a, b, f⟩) : Below p.nodes.length a := by unfold FitP at h; rw [if_neg hk] at h; exact h.1
theorem fpB {p : Points} {k a b f : Int} (hk : k ≠ 5) (hk1 : k ≠ 1) (h : FitP p ⟨k, a, b, f⟩) : Below p.nodes.length b := by unfold FitP at h; rw [if_neg hk] at h; have h := h.2; rw [if_neg hk1] at h; exact h.1
theorem fp1 {p : Points} {a b f : Int} : FitP p ⟨1, a, b, f⟩ ↔ Below p.nodes.length a ∧ b ∈ nd p a := by unfold FitP; rw [if_neg (by show ¬ (1 : Int) = 5; decide), if_pos rfl]
theorem fp2 {p : Points} {a b f : Int} : FitP p ⟨2, a, b, f⟩ ↔ Below p.nodes.length a ∧ Below p.nodes.length b ∧ SubL (nd p b) (nd p a) := by unfold FitP; rw [if_neg (by show ¬ (2 : Int) = 5; decide), if_neg (by show ¬ (2 : Int) = 1; decide), if_pos rfl]
theorem fp3 {p : Points} {a b f : Int} : FitP p ⟨3, a, b, f⟩ ↔ Below p.nodes.length a ∧ Below p.nodes.length b ∧ ∀ x ∈ nd p b, FieldAt p x f ∧ SubL (fieldOf p x f) (nd p a) := by unfold FitP; rw [if_neg (by show ¬ (3 : Int) = 5; decide), if_neg (by show ¬ (3 : Int) = 1; decide), if_neg (by show ¬ (3 : Int) = 2; decide), if_pos rfl]
theorem fp4 {p : Points} {a b f : Int} : FitP p ⟨4, a, b, f⟩ ↔ Below p.nodes.length a ∧ Below p.nodes.length b ∧ ∀ x ∈ nd p a, FieldAt p x f ∧ SubL (nd p b) (fieldOf p x f) := by unfold FitP; rw [if_neg (by show ¬ (4 : Int) = 5; decide), if_neg (by show ¬ (4 : Int) = 1; decide), if_neg (by show ¬ (4 : Int) = 2; decide), if_neg (by show ¬ (4 : Int) = 3; decide), if_pos rfl]
theorem fpO {p : Points} {k a b f : Int} (h5 : k ≠ 5) (h1 : k ≠ 1) (h2 : k ≠ 2) (h3 : k ≠ 3) (h4 : k ≠ 4) : ¬ FitP p ⟨k, a, b, f⟩ := by
  unfold FitP
  rw [if_neg h5, if_neg h1, if_neg h2, if_neg h3, if_neg h4]
  exact fun h => h.2.2
end Go.SolM
namespace Go.Proofs.Ytkagjpkgboeaiaa
open Go Go.RR Go.RX Go.GX Go.Api Go.RiseM Go.SolM
attribute [local irreducible] wpList Code.wp wpPlan Exit.then Exit.inBlock bodyPost NoPanic Went GX.Post GX.Again GX.Meet GX.RowR GX.Own GX.Owns GX.Box GX.Sl GX.Pt GX.Ag GX.MapR GX.Kept GX.Pin wpT GoK AtEnd Both
set_option maxHeartbeats 4000000 in
theorem sfits_spec (cs1 cs2 : List Value) (p : Points) (c : Con) : Does Try.prog 30 [.agg cs1.toArray, .agg cs2.toArray] [Ag tyPoints cs1 p, Ag tyCon cs2 c] [] (fun _ : Unit => .bool (decide (FitP p c))) (fun _ => []) (fun _ => []) := by
  refine enter Try.func30 rfl Try.ntmps30 rfl fun b => ?_
  obtain ⟨kd, ca, cb, cf⟩ := c
  refine GX.wbR ?_; intros
  refine GX.nmP 2 ?_; rintro b2 rfl
  refine GX.nmP 3 ?_; rintro b3 rfl
  by_cases e5 : kd = 5
  · refine GX.wbR ?_; intros
    refine GX.drawn0  (fun j => !(List.contains [5, 12, 27] j)) [(0, true), (1, true), (2, true), (3, true), (4, true), (5, false), (6, true), (7, true), (8, true), (9, true), (10, true), (11, true), (12, false), (13, true), (14, true), (15, true), (16, true), (17, true), (18, true), (19, true), (20, true), (21, true), (22, true), (23, true), (24, true), (25, true), (26, true), (27, false), (28, true), (29, true)] rfl (by kernel_rfl) (by kernel_rfl) (by first | ((repeat (first | apply Go.GX.SelR.nil | apply Go.GX.SelR.cons | (with_reducible apply Go.GX.TakeR.head) | apply Go.GX.TakeR.tail)); done) | (repeat (first | apply Go.GX.SelR.nil | apply Go.GX.SelR.cons | apply Go.GX.TakeR.head | apply Go.GX.TakeR.tail))) ?_; intro wd F hW hR
    refine GX.wbT ?_; intros
    refine GX.gow ?_
    refine (cl (within_spec ca p.fields.length) fun _ => ?_)
    by_cases ha : ¬ (0 ≤ ca ∧ ca < (p.fields.length : Int))
    · refine GX.wbT ?_; intros
      refine GX.wbR ?_; intros
      exact rt1 () (vN fun h => ha (by subst e5; exact (fp5.1 h).1))
    have ha := Classical.not_not.1 ha
    refine GX.wbT ?_; intros
    refine GX.gow ?_
    refine (cl (within_spec cb p.fields.length) fun _ => ?_)
    by_cases hb : ¬ (0 ≤ cb ∧ cb < (p.fields.length : Int))
    · refine GX.wbT ?_; intros
      refine GX.wbR ?_; intros
      exact rt1 () (vN fun h => hb (by subst e5; exact (fp5.1 h).2.1))
    have hb := Classical.not_not.1 hb
    obtain ⟨k, rfl⟩ := Int.eq_ofNat_of_zero_le ha.1
    obtain ⟨m, rfl⟩ := Int.eq_ofNat_of_zero_le hb.1
    obtain ⟨r, hr⟩ := get_lt (show k < p.fields.length by omega)
    obtain ⟨r2, hr2⟩ := get_lt (show m < p.fields.length by omega)
    have g1 := row_some hr
    have g2 := row_some hr2
    refine GX.wbT ?_; intros
    refine GX.gow ?_
    refine (cl (alike_spec _ _ _ _ r r2) fun _ => ?_)
    refine GX.wbT ?_; intros
    refine GX.wbR ?_; intros
    exact rt1 () (vI (Q := SolM.Alike r r2) (by subst e5; rw [fp5, g1, g2]; exact ⟨fun h => h.2.2, fun h => ⟨ha, hb, h⟩⟩))
  refine GX.wbR ?_; intros
  refine GX.o (cl (within_spec ca p.nodes.length) fun _ => ?_)
  by_cases ha : ¬ (0 ≤ ca ∧ ca < (p.nodes.length : Int))
  · refine GX.wbR ?_; intros
    exact rt1 () (vN fun h => ha (fpA e5 h))
  have ha := Classical.not_not.1 ha
  obtain ⟨k, rfl⟩ := Int.eq_ofNat_of_zero_le ha.1
  obtain ⟨na, hna⟩ := get_lt (show k < p.nodes.length by omega)
  have ga := nd_some hna
  by_cases e1 : kd = 1
  · have e1n : ¬ (kd ≠ 1) := by omega
    refine GX.wbR ?_; intros
    refine GX.nmP 5 ?_; rintro b5 rfl
    refine frzB b5 ?_
    refine GX.wbR ?_; intros
    refine GX.o (cl (contains_spec _ _ na cb) fun _ => ?_)
    refine GX.wbR ?_; intros
    exact rt1 () (vI (Q := cb ∈ na) (by subst e1; rw [fp1, ga]; exact ⟨fun h => h.2, fun h => ⟨ha, h⟩⟩))
  refine GX.wbR ?_; intros
  refine GX.o (cl (within_spec cb p.nodes.length) fun _ => ?_)
  by_cases hb : ¬ (0 ≤ cb ∧ cb < (p.nodes.length : Int))
  · refine GX.wbR ?_; intros
    exact rt1 () (vN fun h => hb (fpB e5 e1 h))
  have hb := Classical.not_not.1 hb
  obtain ⟨m, rfl⟩ := Int.eq_ofNat_of_zero_le hb.1
  obtain ⟨nb, hnb⟩ := get_lt (show m < p.nodes.length by omega)
  have gb := nd_some hnb
  refine GX.wbR ?_; intros
  refine GX.nmP 5 ?_; rintro b5 rfl
  refine frzB b5 ?_
  by_cases e2 : kd = 2
  · refine GX.wbR ?_; intros
    refine GX.drawn0  (fun j => !(List.contains [7] j)) [(0, true), (1, true), (2, true), (3, true), (4, true), (5, true), (6, true), (7, false), (8, true)] rfl (by kernel_rfl) (by kernel_rfl) (by first | ((repeat (first | apply Go.GX.SelR.nil | apply Go.GX.SelR.cons | (with_reducible apply Go.GX.TakeR.head) | apply Go.GX.TakeR.tail)); done) | (repeat (first | apply Go.GX.SelR.nil | apply Go.GX.SelR.cons | apply Go.GX.TakeR.head | apply Go.GX.TakeR.tail))) ?_; intro wd F hW hR
    refine GX.wbT ?_; intros
    refine GX.gow ?_
    refine (cl (sall_spec _ _ _ _ nb na) fun _ => ?_)
    refine GX.wbT ?_; intros
    refine GX.wbR ?_; intros
    exact rt1 () (vI (Q := SubL nb na) (by subst e2; rw [fp2, ga, gb]; exact ⟨fun h => h.2.2, fun h => ⟨ha, hb, h⟩⟩))
  by_cases e3 : kd = 3
  · refine GX.wbR ?_; intros
    refine GX.drawn0  (fun j => !(List.contains [10] j)) [(0, true), (1, true), (2, true), (3, true), (4, true), (5, true), (6, true), (7, true), (8, true), (9, true), (10, false), (11, true)] rfl (by kernel_rfl) (by kernel_rfl) (by first | ((repeat (first | apply Go.GX.SelR.nil | apply Go.GX.SelR.cons | (with_reducible apply Go.GX.TakeR.head) | apply Go.GX.TakeR.tail)); done) | (repeat (first | apply Go.GX.SelR.nil | apply Go.GX.SelR.cons | apply Go.GX.TakeR.head | apply Go.GX.TakeR.tail))) ?_; intro wd F hW hR
    refine GX.wbT ?_; intros
    refine GX.gow ?_
    refine (cl (each_spec _ p _ _ nb cf 47 [.pointer (some ⟨b5, 0, none⟩)] [Pt (Ty.slice Ty.int) b5 0 na] (fun ys => decide (SubL ys na)) (fun ys ao cap => fits1_spec b5 na ys ao cap)) fun _ => ?_)
    refine GX.wbT ?_; intros
    refine GX.wbR ?_; intros
    exact rt1 () (vI (Q := ∀ x ∈ nb, FieldAt p x cf ∧ decide (SubL (fieldOf p x cf) na) = true) (by subst e3; rw [fp3, ga, gb]; simp only [decide_eq_true_eq]; exact ⟨fun h => h.2.2, fun h => ⟨ha, hb, h⟩⟩))
  by_cases e4 : kd = 4
  · refine GX.wbR ?_; intros
    refine GX.o (cl (each_spec _ p _ _ na cf 48 [.pointer (some ⟨b2, 0, none⟩), .pointer (some ⟨b3, 0, none⟩)] [Pt tyPoints b2 0 p, Pt tyCon b3 0 ⟨kd, k, m, cf⟩] (fun ys => decide (SubL (SolM.nd p (m : Int)) ys)) (fun ys ao cap => fits2_spec b2 b3 p ⟨kd, k, m, cf⟩ hb ys ao cap)) fun _ => ?_)
    refine GX.wbR ?_; intros
    exact rt1 () (vI (Q := ∀ x ∈ na, FieldAt p x cf ∧ decide (SubL (SolM.nd p (m : Int)) (fieldOf p x cf)) = true) (by subst e4; rw [fp4, ga]; simp only [decide_eq_true_eq]; exact ⟨fun h => h.2.2, fun h => ⟨ha, hb, h⟩⟩))
  refine GX.wbR ?_; intros
  exact rt1 () (vN (fpO e5 e1 e2 e3 e4))
theorem sFits1_spec (bl : Nat) (p : Points) (c : Con) (cs : List Value) : Does Try.prog 29 [.agg cs.toArray, .pointer (some ⟨bl, 0, none⟩)] [Ag tyCon cs c, Pt tyPoints bl 0 p] [] (fun _ : Unit => .bool (decide (¬ FitP p c))) (fun _ => []) (fun _ => []) := by
  refine enter Try.func29 rfl Try.ntmps29 rfl fun b => ?_
  refine GX.wbR ?_; intros
  refine GX.o (cl (sfits_spec _ _ p c) fun _ => ?_)
  refine GX.wbR ?_; intros
  exact rt1 () rfl
theorem sFits_spec (cs : List Value) (p : Points) (ao : Option Addr) (cap : Nat) (l : List Con) : Does Try.prog 13 [.agg cs.toArray, .slice ao l.length cap] [Ag tyPoints cs p, Sl tyCon ao cap l] [] (fun _ : Unit => .bool (decide (FitsP p l))) (fun _ => []) (fun _ => []) := by
  refine enter Try.func13 rfl Try.ntmps13 rfl fun b => ?_
  refine GX.wbR ?_; intros
  refine GX.nmP 2 ?_; rintro b2 rfl
  refine GX.o (cl (containsFuncC_spec _ _ l 29 [.pointer (some ⟨b2, 0, none⟩)] [Pt tyPoints b2 0 p] (fun c => decide (¬ FitP p c)) (fun c _ cs => sFits1_spec b2 p c cs)) fun _ => ?_)
  have e : (l.any fun c => decide (¬ FitP p c)) = decide (¬ FitsP p l) := by
    rw [Bool.eq_iff_iff, List.any_eq_true]
    simp [FitsP]
  rw [e]
  refine GX.wbR ?_; intros
  exact rt1 () (congrArg Value.bool (decide_eq_decide.2 Classical.not_not.symm))
end Go.Proofs.Ytkagjpkgboeaiaa
