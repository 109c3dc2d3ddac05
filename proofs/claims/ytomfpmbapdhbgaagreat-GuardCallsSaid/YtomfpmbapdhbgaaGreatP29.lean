import Derived.Test.YtomfpmbapdhbgaaGreatP10
import Derived.Test.YtomfpmbapdhbgaaGreatP20
import Derived.Test.YtomfpmbapdhbgaaGreatP27
import Derived.Test.YtomfpmbapdhbgaaGreatP28
/- The walks over In, and over what compares lists of bools. -/
namespace Go.Proofs.YtomfpmbapdhbgaaGreat
open Go Go.RR Go.RX Go.GX
attribute [local irreducible] wpList Code.wp wpPlan Exit.then Exit.inBlock bodyPost NoPanic Went GX.Post GX.Again GX.Meet GX.RowR GX.Own GX.Owns GX.Box GX.Sl GX.Pt GX.Ag GX.MapR GX.Kept GX.Pin

theorem in_spec (ao : Option Addr) (cap : Nat) (l : List Int) (v : Int) : Does Tryz.prog 36 [.slice ao l.length cap, .int .i64 v] [Sl Ty.int ao cap l] []
    (fun _ : Unit => .bool (decide (v ∈ l))) (fun _ => []) (fun _ => []) := by
  refine enter Tryz.func36 rfl Tryz.ntmps36 rfl fun b => ?_
  refine sln ao fun h1 h2 _ => ?_
  repeat (first | (apply GX.s_list; first | apply GX.nil | (refine GX.o ?_; first | (apply GX.k_load; first | refine GX.lr ?_ | refine GX.lrA ?_ | refine GX.ln ?_ | refine GX.lb ?_ | refine GX.lh ?_ | (refine GX.ls ?_; intro ao cap _ _) | (refine GX.lA ?_; intro cs) | (refine GX.l0 ?_; intro cs) | refine GX.o1n ?_ | refine GX.o1b ?_ | refine GX.o1h ?_ | (refine GX.o1s ?_; intro ao cap _ _) | refine GX.omn ?_ | refine GX.omb ?_ | refine GX.omh ?_ | (refine GX.oms ?_; intro ao cap _ _) | refine GX.ofn ?_ | refine GX.ofb ?_ | refine GX.ofh ?_ | (refine GX.ofs ?_; intro ao cap _ _) | (refine GX.oA ?_; intro cs)) | (apply GX.k_move; refine GX.m ?_) | (apply GX.k_indexAddr; first | refine GX.io1 ?_ | refine GX.ioh ?_ | refine GX.i1 ?_ | refine GX.ih ?_ | (refine GX.ix ?_; intro bl o)) | (apply GX.k_binOp_lss; refine GX.b_lss ?_) | (apply GX.k_binOp_add; first | refine GX.b_inc ?_ | refine GX.b_add ?_ | refine GX.b_addw ?_) | (apply GX.k_assign; refine GX.a ?_) | (apply GX.k_call; refine GX.c_len ?_) | (apply GX.k_binOp_eql; first | refine GX.b_eql ?_ | refine GX.b_pn ?_ | refine GX.b_nn ?_ | refine GX.b_snn ?_ | refine GX.b_sns ?_ | refine GX.b_eqls ?_ | refine GX.b_eqltf ?_ | refine GX.b_eqlft ?_ | refine GX.b_eqlb ?_)) | refine GX.gt ?_ | refine GX.gf ?_ | refine GX.gbt ?_ | refine GX.gbf ?_ | refine GX.un ?_ | refine GX.un0 ?_) | apply GX.then_normal | apply GX.seq | apply GX.region | (apply GX.s_cond; first | refine GX.ct ?_ | refine GX.cf ?_ | refine GX.cdf ?_ | refine GX.cdt ?_ | refine GX.cbt ?_ | refine GX.cbf ?_) | apply GX.skip | apply GX.block | apply GX.inBlock_normal | apply GX.exit | apply GX.then_exit | apply GX.inBlock_exit | refine GX.ibo ?_ | apply GX.ret | apply GX.then_ret | apply GX.inBlock_ret)
  refine GX.loop (σ := Nat) (fun i => [(0, .slice ao l.length cap), (1, .int .i64 v), (5, .int .i64 (i : Int))]) (fun _ => []) (fun _ => [])
    (fun i => i ≤ l.length ∧ v ∉ l.take i) (fun i => l.length - i) 0 ⟨rfl, rfl, rfl, trivial⟩ ⟨by omega, by simp⟩ (fun i hi => ?_)
  obtain ⟨hi, hn⟩ := hi
  by_cases hlt : i < l.length
  · obtain ⟨x, hx⟩ := get_lt hlt
    by_cases hxv : x = v
    · repeat (first | (apply GX.s_list; first | apply GX.nil | (refine GX.o ?_; first | (apply GX.k_load; first | refine GX.lr ?_ | refine GX.lrA ?_ | refine GX.ln ?_ | refine GX.lb ?_ | refine GX.lh ?_ | (refine GX.ls ?_; intro ao cap _ _) | (refine GX.lA ?_; intro cs) | (refine GX.l0 ?_; intro cs) | refine GX.o1n ?_ | refine GX.o1b ?_ | refine GX.o1h ?_ | (refine GX.o1s ?_; intro ao cap _ _) | refine GX.omn ?_ | refine GX.omb ?_ | refine GX.omh ?_ | (refine GX.oms ?_; intro ao cap _ _) | refine GX.ofn ?_ | refine GX.ofb ?_ | refine GX.ofh ?_ | (refine GX.ofs ?_; intro ao cap _ _) | (refine GX.oA ?_; intro cs)) | (apply GX.k_move; refine GX.m ?_) | (apply GX.k_indexAddr; first | refine GX.io1 ?_ | refine GX.ioh ?_ | refine GX.i1 ?_ | refine GX.ih ?_ | (refine GX.ix ?_; intro bl o)) | (apply GX.k_binOp_lss; refine GX.b_lss ?_) | (apply GX.k_binOp_add; first | refine GX.b_inc ?_ | refine GX.b_add ?_ | refine GX.b_addw ?_) | (apply GX.k_assign; refine GX.a ?_) | (apply GX.k_call; refine GX.c_len ?_) | (apply GX.k_binOp_eql; first | refine GX.b_eql ?_ | refine GX.b_pn ?_ | refine GX.b_nn ?_ | refine GX.b_snn ?_ | refine GX.b_sns ?_ | refine GX.b_eqls ?_ | refine GX.b_eqltf ?_ | refine GX.b_eqlft ?_ | refine GX.b_eqlb ?_)) | refine GX.gt ?_ | refine GX.gf ?_ | refine GX.gbt ?_ | refine GX.gbf ?_ | refine GX.un ?_ | refine GX.un0 ?_) | apply GX.then_normal | apply GX.seq | apply GX.region | (apply GX.s_cond; first | refine GX.ct ?_ | refine GX.cf ?_ | refine GX.cdf ?_ | refine GX.cdt ?_ | refine GX.cbt ?_ | refine GX.cbf ?_) | apply GX.skip | apply GX.block | apply GX.inBlock_normal | apply GX.exit | apply GX.then_exit | apply GX.inBlock_exit | refine GX.ibo ?_ | apply GX.ret | apply GX.then_ret | apply GX.inBlock_ret)
      exact rt1 () (congrArg Value.bool (decide_eq_true (hxv ▸ List.mem_of_getElem? hx)))
    · repeat (first | (apply GX.s_list; first | apply GX.nil | (refine GX.o ?_; first | (apply GX.k_load; first | refine GX.lr ?_ | refine GX.lrA ?_ | refine GX.ln ?_ | refine GX.lb ?_ | refine GX.lh ?_ | (refine GX.ls ?_; intro ao cap _ _) | (refine GX.lA ?_; intro cs) | (refine GX.l0 ?_; intro cs) | refine GX.o1n ?_ | refine GX.o1b ?_ | refine GX.o1h ?_ | (refine GX.o1s ?_; intro ao cap _ _) | refine GX.omn ?_ | refine GX.omb ?_ | refine GX.omh ?_ | (refine GX.oms ?_; intro ao cap _ _) | refine GX.ofn ?_ | refine GX.ofb ?_ | refine GX.ofh ?_ | (refine GX.ofs ?_; intro ao cap _ _) | (refine GX.oA ?_; intro cs)) | (apply GX.k_move; refine GX.m ?_) | (apply GX.k_indexAddr; first | refine GX.io1 ?_ | refine GX.ioh ?_ | refine GX.i1 ?_ | refine GX.ih ?_ | (refine GX.ix ?_; intro bl o)) | (apply GX.k_binOp_lss; refine GX.b_lss ?_) | (apply GX.k_binOp_add; first | refine GX.b_inc ?_ | refine GX.b_add ?_ | refine GX.b_addw ?_) | (apply GX.k_assign; refine GX.a ?_) | (apply GX.k_call; refine GX.c_len ?_) | (apply GX.k_binOp_eql; first | refine GX.b_eql ?_ | refine GX.b_pn ?_ | refine GX.b_nn ?_ | refine GX.b_snn ?_ | refine GX.b_sns ?_ | refine GX.b_eqls ?_ | refine GX.b_eqltf ?_ | refine GX.b_eqlft ?_ | refine GX.b_eqlb ?_)) | refine GX.gt ?_ | refine GX.gf ?_ | refine GX.gbt ?_ | refine GX.gbf ?_ | refine GX.un ?_ | refine GX.un0 ?_) | apply GX.then_normal | apply GX.seq | apply GX.region | (apply GX.s_cond; first | refine GX.ct ?_ | refine GX.cf ?_ | refine GX.cdf ?_ | refine GX.cdt ?_ | refine GX.cbt ?_ | refine GX.cbf ?_) | apply GX.skip | apply GX.block | apply GX.inBlock_normal | apply GX.exit | apply GX.then_exit | apply GX.inBlock_exit | refine GX.ibo ?_ | apply GX.ret | apply GX.then_ret | apply GX.inBlock_ret)
      refine again (i + 1) ⟨rfl, rfl, rfl, trivial⟩ ⟨by omega, fun h => ?_⟩ (by omega)
      rw [List.take_add_one, hx, List.mem_append] at h
      rcases h with h | h
      · exact hn h
      · simp at h; exact hxv h.symm
  · have hil : i = l.length := by omega
    subst hil
    rw [List.take_length] at hn
    repeat (first | (apply GX.s_list; first | apply GX.nil | (refine GX.o ?_; first | (apply GX.k_load; first | refine GX.lr ?_ | refine GX.lrA ?_ | refine GX.ln ?_ | refine GX.lb ?_ | refine GX.lh ?_ | (refine GX.ls ?_; intro ao cap _ _) | (refine GX.lA ?_; intro cs) | (refine GX.l0 ?_; intro cs) | refine GX.o1n ?_ | refine GX.o1b ?_ | refine GX.o1h ?_ | (refine GX.o1s ?_; intro ao cap _ _) | refine GX.omn ?_ | refine GX.omb ?_ | refine GX.omh ?_ | (refine GX.oms ?_; intro ao cap _ _) | refine GX.ofn ?_ | refine GX.ofb ?_ | refine GX.ofh ?_ | (refine GX.ofs ?_; intro ao cap _ _) | (refine GX.oA ?_; intro cs)) | (apply GX.k_move; refine GX.m ?_) | (apply GX.k_indexAddr; first | refine GX.io1 ?_ | refine GX.ioh ?_ | refine GX.i1 ?_ | refine GX.ih ?_ | (refine GX.ix ?_; intro bl o)) | (apply GX.k_binOp_lss; refine GX.b_lss ?_) | (apply GX.k_binOp_add; first | refine GX.b_inc ?_ | refine GX.b_add ?_ | refine GX.b_addw ?_) | (apply GX.k_assign; refine GX.a ?_) | (apply GX.k_call; refine GX.c_len ?_) | (apply GX.k_binOp_eql; first | refine GX.b_eql ?_ | refine GX.b_pn ?_ | refine GX.b_nn ?_ | refine GX.b_snn ?_ | refine GX.b_sns ?_ | refine GX.b_eqls ?_ | refine GX.b_eqltf ?_ | refine GX.b_eqlft ?_ | refine GX.b_eqlb ?_)) | refine GX.gt ?_ | refine GX.gf ?_ | refine GX.gbt ?_ | refine GX.gbf ?_ | refine GX.un ?_ | refine GX.un0 ?_) | apply GX.then_normal | apply GX.seq | apply GX.region | (apply GX.s_cond; first | refine GX.ct ?_ | refine GX.cf ?_ | refine GX.cdf ?_ | refine GX.cdt ?_ | refine GX.cbt ?_ | refine GX.cbf ?_) | apply GX.skip | apply GX.block | apply GX.inBlock_normal | apply GX.exit | apply GX.then_exit | apply GX.inBlock_exit | refine GX.ibo ?_ | apply GX.ret | apply GX.then_ret | apply GX.inBlock_ret)
    exact rt1 () (congrArg Value.bool (decide_eq_false hn))
end Go.Proofs.YtomfpmbapdhbgaaGreat

/- The plain mathematics of chapter 26: what the reference's functions say, and that the two agree. No program in sight. -/
namespace Go.RtM
open Go.RiseM Go.ReachM Go.Api

abbrev REntry (t : RTg) (e : Int) : Prop := -2 ≤ e ∧ e < (t.classes.length : Int)
theorem rentry_iff (t : RTg) (e : Int) : REntry t e ↔ IsEntry t e := by unfold REntry IsEntry IsClass; omega
def RInto (a b : Int) : Prop := if a = -2 ∨ b = -2 then a = b else b = a ∨ b = -1
instance (a b : Int) : Decidable (RInto a b) := by unfold RInto; infer_instance
def rof (u : Unt) (n : Int) : Int := (gt u.vars n).getD (-4)
def rnames (op : Int) : Bool × Bool × Bool × Bool × Bool :=
  if op = 1 ∨ op = 11 ∨ op = 19 ∨ op = 20 then (true, false, false, true, false)
  else if op = 3 ∨ op = 10 then (true, true, false, false, false)
  else if op = 4 then (true, true, true, true, false)
  else if op = 5 ∨ op = 12 then (true, true, false, true, false)
  else if op = 6 ∨ op = 7 ∨ op = 8 ∨ op = 9 then (true, true, true, false, false)
  else if op = 13 then (true, false, true, false, true)
  else if op = 17 then (true, false, true, true, false)
  else if op = 16 then (false, false, false, true, false)
  else if op = 21 ∨ op = 22 then (false, false, false, false, true)
  else (true, false, false, false, false)
def Named (i : Ins) : Prop := Only i (rnames i.op).1 (rnames i.op).2.1 (rnames i.op).2.2.1 (rnames i.op).2.2.2.1 (rnames i.op).2.2.2.2
instance (i : Ins) : Decidable (Named i) := by unfold Named; infer_instance
/-- A field of a record's entry, an array's items: the entry; it is none that is known. -/
def record (t : RTg) (e k : Int) : Int × Bool :=
  if e = -1 ∧ 0 ≤ k ∧ k < 8 then (-4, true)
  else match gt t.classes e with
    | some L => if L.arr = true then (-4, false) else (match gt L.refs k with | some x => (x, false) | none => (-4, false))
    | none => (-4, false)
def array (t : RTg) (e : Int) : Int × Bool :=
  if e = -1 then (-4, true)
  else match gt t.classes e with
    | some L => if L.arr = true then (match gt L.refs 0 with | some x => (x, false) | none => (-4, false)) else (-4, false)
    | none => (-4, false)
theorem record_arr {t : RTg} {e k : Int} {L : Layout} (hn : ¬ (e = -1 ∧ 0 ≤ k ∧ k < 8)) (hL : gt t.classes e = some L) (h3 : L.arr = true) : record t e k = (-4, false) := by unfold record; rw [if_neg hn, hL]; simp only [if_pos h3]
theorem record_out {t : RTg} {e k : Int} {L : Layout} (hn : ¬ (e = -1 ∧ 0 ≤ k ∧ k < 8)) (hL : gt t.classes e = some L) (h3 : ¬ L.arr = true) (h4 : gt L.refs k = none) : record t e k = (-4, false) := by unfold record; rw [if_neg hn, hL]; simp only [if_neg h3, h4]
theorem record_some {t : RTg} {e k x : Int} {L : Layout} (hn : ¬ (e = -1 ∧ 0 ≤ k ∧ k < 8)) (hL : gt t.classes e = some L) (h3 : ¬ L.arr = true) (h4 : gt L.refs k = some x) : record t e k = (x, false) := by unfold record; rw [if_neg hn, hL]; simp only [if_neg h3, h4]
theorem array_some {t : RTg} {e x : Int} {L : Layout} (hn : e ≠ -1) (hL : gt t.classes e = some L) (h3 : L.arr = true) (h4 : gt L.refs 0 = some x) : array t e = (x, false) := by unfold array; rw [if_neg hn, hL]; simp only [if_pos h3, h4]
theorem array_rec {t : RTg} {e : Int} {L : Layout} (hn : e ≠ -1) (hL : gt t.classes e = some L) (h3 : ¬ L.arr = true) : array t e = (-4, false) := by unfold array; rw [if_neg hn, hL]; simp only [if_neg h3]
def RClass (t : RTg) (c : Int) (arr : Bool) : Prop := match gt t.classes c with | some L => L.arr = arr | none => False
instance (t : RTg) (c : Int) (arr : Bool) : Decidable (RClass t c arr) := by unfold RClass; split <;> infer_instance
def RCall (t : RTg) (u : Unt) (i : Ins) : Prop := match gt t.units i.c with
  | some g => (0 ≤ g.params ∧ g.params ≤ (g.vars.length : Int) ∧ (i.args.length : Int) = g.params ∧ (∀ p ∈ i.args.zip g.vars, rof u p.1 ≠ -4 ∧ RInto p.2 (rof u p.1))) ∧ (i.a = -1 ∨ rof u i.a ≠ -4 ∧ g.result ≠ -3 ∧ RInto (rof u i.a) g.result)
  | none => False
instance (t : RTg) (u : Unt) (i : Ins) : Decidable (RCall t u i) := by unfold RCall; split <;> infer_instance
/-- May an entry, or what is known of it, be had? -/
def Has (x : Int × Bool) (P : Int → Prop) : Prop := x.2 = true ∨ x.1 ≠ -4 ∧ P x.1
instance (x : Int × Bool) (P : Int → Prop) [∀ e, Decidable (P e)] : Decidable (Has x P) := by unfold Has; infer_instance
def Step (t : RTg) (u : Unt) (i : Ins) : Prop :=
  Named i ∧
  if i.op = 1 ∨ i.op = 14 ∨ i.op = 15 then rof u i.a = -2
  else if i.op = 2 then -1 ≤ rof u i.a
  else if i.op = 3 then rof u i.a ≠ -4 ∧ rof u i.b ≠ -4 ∧ RInto (rof u i.a) (rof u i.b)
  else if i.op = 4 then (rof u i.a = -2 ∧ 14 ≤ i.n ∧ i.n ≤ 24) ∧ (if i.n = 21 ∨ i.n = 22 then rof u i.b ≠ -4 ∧ rof u i.c ≠ -4 ∧ (rof u i.b = -2 ↔ rof u i.c = -2) else rof u i.b = -2 ∧ rof u i.c = -2)
  else if i.op = 5 then rof u i.a = -2 ∧ rof u i.b = -2 ∧ (i.n = 12 ∨ i.n = 13)
  else if i.op = 6 then rof u i.a ≠ -4 ∧ Has (record t (rof u i.b) i.c) (RInto (rof u i.a))
  else if i.op = 7 then rof u i.b ≠ -4 ∧ Has (record t (rof u i.a) i.c) (fun e => RInto e (rof u i.b))
  else if i.op = 8 then rof u i.a ≠ -4 ∧ rof u i.c = -2 ∧ Has (array t (rof u i.b)) (RInto (rof u i.a))
  else if i.op = 9 then rof u i.c ≠ -4 ∧ rof u i.b = -2 ∧ Has (array t (rof u i.a)) (fun e => RInto e (rof u i.c))
  else if i.op = 10 then rof u i.a = -2 ∧ Has (array t (rof u i.b)) (fun _ => True)
  else if i.op = 11 then RClass t i.n false ∧ rof u i.a = i.n
  else if i.op = 12 then RClass t i.n true ∧ rof u i.a = i.n ∧ rof u i.b = -2
  else if i.op = 13 then RCall t u i
  else if i.op = 16 then Place u i.n
  else if i.op = 17 then rof u i.a = -2 ∧ Place u i.n ∧ Place u i.c
  else if i.op = 18 then (if u.result = -3 then i.a = -1 else rof u i.a ≠ -4 ∧ RInto u.result (rof u i.a))
  else if i.op = 19 then rof u i.a ≠ -4 ∧ InG t i.n (fun g => RInto (rof u i.a) g)
  else if i.op = 20 then rof u i.a ≠ -4 ∧ InG t i.n (fun g => RInto g (rof u i.a))
  else if i.op = 21 ∨ i.op = 22 then i.args ≠ [] ∧ Rise i.args ∧ ∀ n ∈ i.args, n ∈ u.owns
  else False

/-! ### The two agree, where all else is right. -/
section
variable {t : RTg} {u : Unt}
/-- What is known of an entry that may be. -/
abbrev Ent (e : Int) : Prop := -2 ≤ e
theorem into_iff {a b : Int} (ha : Ent a) (hb : Ent b) : Into a b ↔ RInto a b := by
  unfold Into RInto Ent at *
  split <;> split <;> omega
theorem into_none {a : Int} : ¬ Into a (-3) := by unfold Into; split <;> omega
theorem none_into {b : Int} : ¬ Into (-3) b := by unfold Into; split <;> omega
theorem named_iff {i : Ins} (h : i.op ∈ ([1, 2, 3, 4, 5, 6, 7, 8, 9, 10, 11, 12, 13, 14, 15, 16, 17, 18, 19, 20, 21, 22] : List Int)) : Bare i ↔ Named i := by
  obtain ⟨op, a, b, c, n, args⟩ := i
  dsimp only at h
  simp only [List.mem_cons, List.not_mem_nil, or_false] at h
  rcases h with rfl | rfl | rfl | rfl | rfl | rfl | rfl | rfl | rfl | rfl | rfl | rfl | rfl | rfl | rfl | rfl | rfl | rfl | rfl | rfl | rfl | rfl <;> exact Iff.rfl
theorem bare_op {i : Ins} (h : Bare i) : i.op ∈ ([1, 2, 3, 4, 5, 6, 7, 8, 9, 10, 11, 12, 13, 14, 15, 16, 17, 18, 19, 20, 21, 22] : List Int) := by
  unfold Bare at h
  split at h
  · rename_i a b c n g hn
    unfold names at hn
    simp only [List.mem_cons, List.not_mem_nil, or_false]
    repeat' split at hn
    all_goals first | omega | simp at hn
  · exact h.elim
theorem step_op {i : Ins} (h : Step t u i) : i.op ∈ ([1, 2, 3, 4, 5, 6, 7, 8, 9, 10, 11, 12, 13, 14, 15, 16, 17, 18, 19, 20, 21, 22] : List Int) := by
  obtain ⟨_, h⟩ := h
  simp only [List.mem_cons, List.not_mem_nil, or_false]
  by_cases h1 : i.op = 1 ∨ i.op = 2 ∨ i.op = 3 ∨ i.op = 4 ∨ i.op = 5 ∨ i.op = 6 ∨ i.op = 7 ∨ i.op = 8 ∨ i.op = 9 ∨ i.op = 10 ∨ i.op = 11 ∨ i.op = 12 ∨ i.op = 13 ∨ i.op = 14 ∨ i.op = 15 ∨ i.op = 16 ∨ i.op = 17 ∨ i.op = 18 ∨ i.op = 19 ∨ i.op = 20 ∨ i.op = 21 ∨ i.op = 22
  · exact h1
  · simp only [not_or] at h1
    obtain ⟨g1, g2, g3, g4, g5, g6, g7, g8, g9, g10, g11, g12, g13, g14, g15, g16, g17, g18, g19, g20, g21, g22⟩ := h1
    simp only [g1, g2, g3, g4, g5, g6, g7, g8, g9, g10, g11, g12, g13, g14, g15, g16, g17, g18, g19, g20, g21, g22, or_false, if_false] at h
end
end Go.RtM

/- The walks over the small functions of the reference of chapter 26. -/
namespace Go.Proofs.YtomfpmbapdhbgaaGreat
open Go Go.RR Go.RX Go.GX Go.Api Go.RiseM Go.ReachM Go.RtM
attribute [local irreducible] wpList Code.wp wpPlan Exit.then Exit.inBlock bodyPost NoPanic Went GX.Post GX.Again GX.Meet GX.RowR GX.Own GX.Owns GX.Box GX.Sl GX.Pt GX.Ag GX.MapR GX.Kept GX.Pin wpT GoK AtEnd Both

theorem entry_spec (cs : List Value) (t : RTg) (n : Int) : Does Tryz.prog 33 [.agg cs.toArray, .int .i64 n] [Ag tyRTg cs t] [] (fun _ : Unit => .bool (decide (IsEntry t n))) (fun _ => []) (fun _ => []) := by
  refine enter Tryz.func33 rfl Tryz.ntmps33 rfl fun b => ?_
  have e := rentry_iff t n
  by_cases h : -2 ≤ n
  · refine GX.wR ?_; intros
    exact rt1 () (vI (e.symm.trans ⟨fun h => h.2, fun h2 => ⟨h, h2⟩⟩))
  · refine GX.wR ?_; intros
    exact rt1 () (vN fun h2 => h (e.2 h2).1)
theorem rentries_spec (cs : List Value) (t : RTg) (ao : Option Addr) (cap : Nat) (l : List Int) : Does Tryz.prog 18 [.agg cs.toArray, .slice ao l.length cap] [Sl Ty.int ao cap l, Ag tyRTg cs t] [] (fun _ : Unit => .bool (decide (Entries t l))) (fun _ => []) (fun _ => []) := by
  refine enter Tryz.func18 rfl Tryz.ntmps18 rfl fun b => ?_
  refine sln ao fun hl1 hl2 _ => ?_
  refine GX.wR ?_; intros
  refine GX.nmP 2 ?_; rintro b2 rfl
  refine GX.loop (σ := Nat) (fun i => [(1, .slice ao l.length cap), (2, .pointer (some ⟨b2, 0, none⟩)), (5, .int .i64 (i : Int))]) (fun _ => []) (fun _ => [])
    (fun i => i ≤ l.length ∧ ∀ x ∈ l.take i, IsEntry t x) (fun i => l.length - i) 0 ⟨rfl, rfl, rfl, trivial⟩ ⟨by omega, by simp⟩ (fun i hi => ?_)
  obtain ⟨hi, hA⟩ := hi
  by_cases hlt : i < l.length
  · obtain ⟨x, hx⟩ := get_lt hlt
    refine GX.wR ?_; intros
    refine GX.drawn0  (fun j => !(List.contains [5] j)) [(0, true), (1, true), (2, true), (3, true), (4, true), (5, false), (6, true)] rfl (by kernel_rfl) (by kernel_rfl) (by first | ((repeat (first | apply Go.GX.SelR.nil | apply Go.GX.SelR.cons | (with_reducible apply Go.GX.TakeR.head) | apply Go.GX.TakeR.tail)); done) | (repeat (first | apply Go.GX.SelR.nil | apply Go.GX.SelR.cons | apply Go.GX.TakeR.head | apply Go.GX.TakeR.tail))) ?_; intro wd F hW hR
    refine GX.wT ?_; intros
    refine GX.gow ?_
    refine (cl (entry_spec _ t x) fun _ => ?_)
    refine GX.wT ?_; intros
    by_cases h : IsEntry t x
    · have h' := Classical.not_not.2 h
      refine GX.wR ?_; intros
      refine again (i + 1) ⟨rfl, rfl, rfl, trivial⟩ ⟨by omega, fun y hy => ?_⟩ (by omega)
      rw [List.take_add_one, hx, List.mem_append] at hy
      rcases hy with hy | hy
      · exact hA y hy
      · simp at hy; subst hy; exact h
    · refine GX.wR ?_; intros
      exact rt1 () (vN fun h2 => h (h2 x (List.mem_of_getElem? hx)))
  · rw [List.take_of_length_le (by omega)] at hA
    refine GX.wR ?_; intros
    exact rt1 () (vY hA)
theorem rinto_spec (a c : Int) : Does Tryz.prog 39 [.int .i64 a, .int .i64 c] [] [] (fun _ : Unit => .bool (decide (RInto a c))) (fun _ => []) (fun _ => []) := by
  refine enter Tryz.func39 rfl Tryz.ntmps39 rfl fun b => ?_
  have e : RInto a c ↔ if a = -2 ∨ c = -2 then a = c else c = a ∨ c = -1 := Iff.rfl
  by_cases h1 : a = -2
  · rw [if_pos (.inl h1)] at e
    refine GX.wR ?_; intros
    exact rt1 () (vI e)
  · by_cases h2 : c = -2
    · rw [if_pos (.inr h2)] at e
      refine GX.wR ?_; intros
      exact rt1 () (vI e)
    · rw [if_neg (by omega)] at e
      by_cases h3 : c = a
      · refine GX.wR ?_; intros
        exact rt1 () (vY (e.2 (.inl h3)))
      · refine GX.wR ?_; intros
        exact rt1 () (vI (e.trans ⟨fun h => h.elim (fun h => absurd h h3) id, .inr⟩))
theorem rof_spec (cs : List Value) (u : Unt) (n : Int) : Does Tryz.prog 38 [.agg cs.toArray, .int .i64 n] [Ag tyUnt cs u] [] (fun _ : Unit => .int .i64 (rof u n)) (fun _ => []) (fun _ => []) := by
  refine enter Tryz.func38 rfl Tryz.ntmps38 rfl fun b => ?_
  by_cases h : n < 0
  · have e : rof u n = -4 := by unfold rof; rw [gt_out (.inl h)]; rfl
    rw [e]
    refine GX.wR ?_; intros
    exact rt1 () rfl
  · by_cases h2 : (u.vars.length : Int) ≤ n
    · have e : rof u n = -4 := by unfold rof; rw [gt_out (.inr h2)]; rfl
      rw [e]
      refine GX.wR ?_; intros
      exact rt1 () rfl
    · obtain ⟨x, hx, k, rfl, hk, hx2⟩ := gt_in (l := u.vars) (n := n) ⟨by omega, by omega⟩
      have e : rof u k = x := by unfold rof; rw [hx]; rfl
      rw [e]
      refine GX.wR ?_; intros
      exact rt1 () rfl
theorem rclass_spec (cs : List Value) (t : RTg) (c : Int) (arr : Bool) : Does Tryz.prog 42 [.agg cs.toArray, .int .i64 c, .bool arr] [Ag tyRTg cs t] [] (fun _ : Unit => .bool (decide (RClass t c arr))) (fun _ => []) (fun _ => []) := by
  refine enter Tryz.func42 rfl Tryz.ntmps42 rfl fun b => ?_
  by_cases h : c < 0
  · have e : ¬ RClass t c arr := by unfold RClass; rw [gt_out (.inl h)]; exact id
    refine GX.wR ?_; intros
    exact rt1 () (vN e)
  · by_cases h2 : (t.classes.length : Int) ≤ c
    · have e : ¬ RClass t c arr := by unfold RClass; rw [gt_out (.inr h2)]; exact id
      refine GX.wR ?_; intros
      exact rt1 () (vN e)
    · obtain ⟨L, hL, k, rfl, hk, hx2⟩ := gt_in (l := t.classes) (n := c) ⟨by omega, by omega⟩
      have e : RClass t k arr ↔ L.arr = arr := by unfold RClass; rw [hL]
      have e2 : decide (RClass t k arr) = (L.arr == arr) := by
        rw [Bool.eq_iff_iff, decide_eq_true_eq, beq_iff_eq]; exact e
      rw [e2]
      refine GX.wR ?_; intros
      exact rt1 () rfl
theorem record_spec (cs : List Value) (t : RTg) (e k : Int) (he : e < (t.classes.length : Int)) : Does Tryz.prog 40 [.agg cs.toArray, .int .i64 e, .int .i64 k] [Ag tyRTg cs t] []
    (fun _ : Unit => .tuple #[.int .i64 (record t e k).1, .bool (record t e k).2]) (fun _ => []) (fun _ => []) := by
  refine enter Tryz.func40 rfl Tryz.ntmps40 rfl fun b => ?_
  have none : ∀ {x}, (¬ (e = -1 ∧ 0 ≤ k ∧ k < 8)) → gt t.classes e = none → x = record t e k → x = (-4, false) := fun h1 h2 h3 => by rw [h3]; unfold record; rw [if_neg h1, h2]
  by_cases h1 : e = -1
  · have hg : gt t.classes e = Option.none := gt_out (.inl (by omega))
    by_cases h2 : 0 ≤ k
    · by_cases h3 : k < 8
      · have e1 : record t e k = (-4, true) := by unfold record; rw [if_pos ⟨h1, h2, h3⟩]
        rw [e1]
        refine GX.wR ?_; intros
        exact rt2 () rfl
      · rw [none (fun h => h3 h.2.2) hg rfl]
        refine GX.wR ?_; intros
        exact rt2 () rfl
    · rw [none (fun h => h2 h.2.1) hg rfl]
      refine GX.wR ?_; intros
      exact rt2 () rfl
  · have hn : ¬ (e = -1 ∧ 0 ≤ k ∧ k < 8) := fun h => h1 h.1
    by_cases h2 : e < 0
    · rw [none hn (gt_out (.inl h2)) rfl]
      refine GX.wR ?_; intros
      exact rt2 () rfl
    · obtain ⟨L, hL, j, rfl, hj, hx2⟩ := gt_in (l := t.classes) (n := e) ⟨by omega, he⟩
      by_cases h3 : L.arr = true
      · rw [record_arr hn hL h3]
        refine GX.wR ?_; intros
        exact rt2 () rfl
      · have h3' : L.arr = false := by simpa using h3
        by_cases h4 : k < 0
        · rw [record_out hn hL h3 (gt_out (.inl h4))]
          refine GX.wR ?_; intros
          exact rt2 () rfl
        · by_cases h5 : (L.refs.length : Int) ≤ k
          · rw [record_out hn hL h3 (gt_out (.inr h5))]
            refine GX.wR ?_; intros
            exact rt2 () rfl
          · obtain ⟨x, hx, m, rfl, hm, hx3⟩ := gt_in (l := L.refs) (n := k) ⟨by omega, by omega⟩
            rw [record_some hn hL h3 hx]
            refine GX.wR ?_; intros
            exact rt2 () rfl
theorem array_spec (cs : List Value) (t : RTg) (e : Int) (he : e < (t.classes.length : Int)) (hl : ∀ L ∈ t.classes, L.arr = true → L.refs.length = 1) : Does Tryz.prog 41 [.agg cs.toArray, .int .i64 e] [Ag tyRTg cs t] []
    (fun _ : Unit => .tuple #[.int .i64 (array t e).1, .bool (array t e).2]) (fun _ => []) (fun _ => []) := by
  refine enter Tryz.func41 rfl Tryz.ntmps41 rfl fun b => ?_
  by_cases h1 : e = -1
  · have e1 : array t e = (-4, true) := by unfold array; rw [if_pos h1]
    rw [e1]
    refine GX.wR ?_; intros
    exact rt2 () rfl
  · by_cases h2 : e < 0
    · have e1 : array t e = (-4, false) := by unfold array; rw [if_neg h1, gt_out (.inl h2)]
      rw [e1]
      refine GX.wR ?_; intros
      exact rt2 () rfl
    · obtain ⟨L, hL, j, rfl, hj, hx2⟩ := gt_in (l := t.classes) (n := e) ⟨by omega, he⟩
      by_cases h3 : L.arr = true
      · have h4 := hl L (List.mem_of_getElem? hx2) h3
        have hb : (!L.arr) = false := by rw [h3]; rfl
        obtain ⟨x, hx⟩ := get_lt (show 0 < L.refs.length by omega)
        rw [array_some h1 hL h3 (show gt L.refs 0 = some x from hx)]
        refine GX.wR ?_; intros
        exact rt2 () rfl
      · have hb : (!L.arr) = true := by simpa using h3
        rw [array_rec h1 hL h3]
        refine GX.wR ?_; intros
        exact rt2 () rfl
end Go.Proofs.YtomfpmbapdhbgaaGreat

/- The walks over rising, named, All, Minus, Fields, Global, Out of the reference of chapter 26. -/
namespace Go.Proofs.YtomfpmbapdhbgaaGreat
open Go Go.RR Go.RX Go.GX Go.Api Go.RiseM Go.ReachM Go.RtM
attribute [local irreducible] wpList Code.wp wpPlan Exit.then Exit.inBlock bodyPost NoPanic Went GX.Post GX.Again GX.Meet GX.RowR GX.Own GX.Owns GX.Box GX.Sl GX.Pt GX.Ag GX.MapR GX.Kept GX.Pin wpT GoK AtEnd Both

theorem rise_snoc {l : List Int} {i : Nat} {x : Int} (hx : l[i]? = some x) : Rise (l.take (i + 1)) ↔ Rise (l.take i) ∧ ∀ k y, i = k + 1 → l[k]? = some y → y < x := by
  have := upP_snoc (p := fun _ => true) hx
  simp only [UpP, implies_true, and_true] at this
  exact this
theorem rrising_spec (ao : Option Addr) (cap : Nat) (l : List Int) : Does Tryz.prog 34 [.slice ao l.length cap] [Sl Ty.int ao cap l] []
    (fun _ : Unit => .bool (decide (Rise l))) (fun _ => []) (fun _ => []) := by
  refine enter Tryz.func34 rfl Tryz.ntmps34 rfl fun b => ?_
  refine sln ao fun hl1 hl2 _ => ?_
  by_cases h0 : l.length = 0
  · have e : Rise l := by rw [List.length_eq_zero_iff.1 h0]; exact List.Pairwise.nil
    refine GX.wR ?_; intros
    refine GX.loop (σ := Nat) (fun i => [(0, .slice ao l.length cap), (3, .int .i64 ((i + 1 : Nat) : Int))]) (fun _ => []) (fun _ => []) (fun i => True) (fun i => 0) 0 ⟨rfl, rfl, trivial⟩ trivial (fun i hi => ?_)
    refine GX.wR ?_; intros
    exact rt1 () (vY e)
  refine GX.wR ?_; intros
  refine GX.loop (σ := Nat) (fun i => [(0, .slice ao l.length cap), (3, .int .i64 ((i + 1 : Nat) : Int))]) (fun _ => []) (fun _ => [])
    (fun i => i + 1 ≤ l.length ∧ Rise (l.take (i + 1))) (fun i => l.length - i) 0 ⟨rfl, rfl, trivial⟩ ⟨by omega, ?_⟩ (fun i hi => ?_)
  · obtain ⟨x, hx⟩ := get_lt (show 0 < l.length by omega)
    exact (rise_snoc hx).2 ⟨List.Pairwise.nil, fun k y h => by omega⟩
  obtain ⟨hi, hA⟩ := hi
  by_cases hlt : i + 1 < l.length
  · obtain ⟨x, hx⟩ := get_lt hlt
    obtain ⟨y, hy⟩ := get_lt (show i < l.length by omega)
    have hs := rise_snoc hx
    by_cases hxy : x ≤ y
    · refine GX.wR ?_; intros
      refine GX.drawn0  (fun j => !(List.contains [] j)) [(0, true), (1, true), (2, true), (3, true), (4, true), (5, true), (6, true), (7, true), (8, true), (9, true)] rfl (by kernel_rfl) (by kernel_rfl) (by first | ((repeat (first | apply Go.GX.SelR.nil | apply Go.GX.SelR.cons | (with_reducible apply Go.GX.TakeR.head) | apply Go.GX.TakeR.tail)); done) | (repeat (first | apply Go.GX.SelR.nil | apply Go.GX.SelR.cons | apply Go.GX.TakeR.head | apply Go.GX.TakeR.tail))) ?_; intro wd F hW hR
      refine GX.wT ?_; intros
      refine GX.wR ?_; intros
      exact rt1 () (vN fun h => by
        have := (hs.1 (h.sublist (List.take_sublist _ _))).2 i y rfl hy
        omega)
    · refine GX.wR ?_; intros
      refine GX.drawn0  (fun j => !(List.contains [] j)) [(0, true), (1, true), (2, true), (3, true), (4, true), (5, true), (6, true), (7, true), (8, true), (9, true)] rfl (by kernel_rfl) (by kernel_rfl) (by first | ((repeat (first | apply Go.GX.SelR.nil | apply Go.GX.SelR.cons | (with_reducible apply Go.GX.TakeR.head) | apply Go.GX.TakeR.tail)); done) | (repeat (first | apply Go.GX.SelR.nil | apply Go.GX.SelR.cons | apply Go.GX.TakeR.head | apply Go.GX.TakeR.tail))) ?_; intro wd F hW hR
      refine GX.wT ?_; intros
      refine GX.wR ?_; intros
      exact again (i + 1) ⟨rfl, rfl, trivial⟩ ⟨by omega, hs.2 ⟨hA, fun k z hk hz => last2 (show i = k by omega) hy hz (by omega)⟩⟩ (by omega)
  · rw [List.take_of_length_le (by omega)] at hA
    refine GX.wR ?_; intros
    exact rt1 () (vY hA)
theorem all_spec (a1 a2 : Option Addr) (c1 c2 : Nat) (l m : List Int) : Does Tryz.prog 68 [.slice a1 l.length c1, .slice a2 m.length c2] [Sl Ty.int a1 c1 l, Sl Ty.int a2 c2 m] []
    (fun _ : Unit => .bool (decide (∀ x ∈ l, x ∈ m))) (fun _ => []) (fun _ => []) := by
  refine enter Tryz.func68 rfl Tryz.ntmps68 rfl fun b => ?_
  refine sln a1 fun hl1 hl2 _ => ?_
  refine GX.wR ?_; intros
  refine GX.loop (σ := Nat) (fun i => [(0, .slice a1 l.length c1), (1, .slice a2 m.length c2), (5, .int .i64 (i : Int))]) (fun _ => []) (fun _ => [])
    (fun i => i ≤ l.length ∧ ∀ x ∈ l.take i, x ∈ m) (fun i => l.length - i) 0 ⟨rfl, rfl, rfl, trivial⟩ ⟨by omega, by simp⟩ (fun i hi => ?_)
  obtain ⟨hi, hA⟩ := hi
  by_cases hlt : i < l.length
  · obtain ⟨x, hx⟩ := get_lt hlt
    refine GX.wR ?_; intros
    refine GX.o (cl (in_spec a2 c2 m x) fun _ => ?_)
    by_cases h : x ∈ m
    · have h' := Classical.not_not.2 h
      refine GX.wR ?_; intros
      refine again (i + 1) ⟨rfl, rfl, rfl, trivial⟩ ⟨by omega, fun y hy => ?_⟩ (by omega)
      rw [List.take_add_one, hx, List.mem_append] at hy
      rcases hy with hy | hy
      · exact hA y hy
      · simp at hy; subst hy; exact h
    · refine GX.wR ?_; intros
      exact rt1 () (vN fun h2 => h (h2 x (List.mem_of_getElem? hx)))
  · rw [List.take_of_length_le (by omega)] at hA
    refine GX.wR ?_; intros
    exact rt1 () (vY hA)
theorem all2_spec (a1 a2 : Option Addr) (c1 c2 : Nat) (l m : List Int) : Does Tryz.prog 35 [.slice a1 l.length c1, .slice a2 m.length c2] [Sl Ty.int a1 c1 l, Sl Ty.int a2 c2 m] []
    (fun _ : Unit => .bool (decide (∀ x ∈ l, x ∈ m))) (fun _ => []) (fun _ => []) := by
  refine enter Tryz.func35 rfl Tryz.ntmps35 rfl fun b => ?_
  refine GX.wR ?_; intros
  refine GX.o (cl (all_spec a1 a2 c1 c2 l m) fun _ => ?_)
  refine GX.wR ?_; intros
  exact rt1 () rfl
/-- Those of the first i that are not among others. -/
def minusTo (l m : List Int) (i : Nat) : List Int := (l.take i).filter fun x => decide (x ∉ m)
def minus (l m : List Int) : List Int := l.filter fun x => decide (x ∉ m)
theorem minusTo_succ {l m : List Int} {i : Nat} {x : Int} (hx : l[i]? = some x) : minusTo l m (i + 1) = if x ∈ m then minusTo l m i else minusTo l m i ++ [x] := by
  unfold minusTo
  rw [List.take_add_one, hx, List.filter_append]
  split <;> rename_i h <;> simp [h]
theorem minusTo_len (l m : List Int) (i : Nat) : (minusTo l m i).length ≤ l.length := by
  have h1 := List.length_filter_le (fun x => decide (x ∉ m)) (l.take i)
  unfold minusTo
  rw [List.length_take] at h1; omega
theorem minus_spec (a1 a2 : Option Addr) (c1 c2 : Nat) (l m : List Int) (hl : l.length ≤ 1099511627776) : Does Tryz.prog 64 [.slice a1 l.length c1, .slice a2 m.length c2] [Sl Ty.int a1 c1 l, Sl Ty.int a2 c2 m] []
    (fun s : Option Addr × Nat => .slice s.1 (minus l m).length s.2) (fun _ => []) (fun s => [GX.Own 3 Ty.int s.1 s.2 (minus l m)]) := by
  refine enter Tryz.func64 rfl Tryz.ntmps64 rfl fun b => ?_
  refine sln a1 fun hl1 hl2 _ => ?_
  refine GX.wR ?_; intros
  refine ownNil 3 Ty.int ?_
  refine GX.loop (σ := Nat × Option Addr × Nat) (fun s => [(0, .slice a1 l.length c1), (1, .slice a2 m.length c2), (5, .slice s.2.1 (minusTo l m s.1).length s.2.2), (6, .int .i64 (s.1 : Int))]) (fun _ => [])
    (fun s => [GX.Own 3 Ty.int s.2.1 s.2.2 (minusTo l m s.1)]) (fun s => s.1 ≤ l.length) (fun s => l.length - s.1) (0, none, 0) ⟨rfl, rfl, rfl, rfl, trivial⟩ (by simp) (fun s hs => ?_)
  obtain ⟨i, aL, cL⟩ := s
  dsimp only at *
  have hml := minusTo_len l m i
  by_cases hlt : i < l.length
  · obtain ⟨x, hx⟩ := get_lt hlt
    have hms := minusTo_succ (m := m) hx
    refine GX.wR ?_; intros
    refine GX.o (cl (in_spec a2 c2 m x) fun _ => ?_)
    by_cases h : x ∈ m
    · have h' := Classical.not_not.2 h
      rw [if_pos h] at hms
      refine GX.wR ?_; intros
      exact again (i + 1, aL, cL) ⟨rfl, rfl, by dsimp only; rw [hms]; rfl, rfl, trivial⟩ (by dsimp only; omega) (by dsimp only; omega) (h2 := by dsimp only; rw [hms]; first | ((repeat (first | apply Go.GX.SelR.nil | apply Go.GX.SelR.cons | (with_reducible apply Go.GX.TakeR.head) | apply Go.GX.TakeR.tail)); done) | (repeat (first | apply Go.GX.SelR.nil | apply Go.GX.SelR.cons | apply Go.GX.TakeR.head | apply Go.GX.TakeR.tail)))
    · rw [if_neg h] at hms
      refine GX.wR ?_; intros
      rw [← hms]
      refine GX.nmS 5 ?_; rintro a5 c5 rfl rfl
      refine GX.wR ?_; intros
      exact again (i + 1, a5, c5) ⟨rfl, rfl, rfl, rfl, trivial⟩ (by dsimp only; omega) (by dsimp only; omega)
  · have e : minusTo l m i = minus l m := by unfold minusTo minus; rw [List.take_of_length_le (by omega)]
    rw [e]
    refine GX.wR ?_; intros
    exact rt1 (aL, cL) rfl
theorem rfields_spec (cs : List Value) (t : RTg) (hs : Small t) : Does Tryz.prog 63 [.agg cs.toArray] [Ag tyRTg cs t] []
    (fun s : Option Addr × Nat => .slice s.1 (flds t).length s.2) (fun s => [Sl (Ty.slice Ty.int) s.1 s.2 (flds t)]) (fun _ => []) := by
  have hc := hs.classes
  refine enter Tryz.func63 rfl Tryz.ntmps63 rfl fun b => ?_
  refine GX.wR ?_; intros
  refine GX.nmP 1 ?_; rintro b1 rfl
  refine ownNil 23 (Ty.slice Ty.int) ?_
  refine GX.loop (σ := Nat × Option Addr × Nat) (fun s => [(1, .pointer (some ⟨b1, 0, none⟩)), (3, .slice s.2.1 ((flds t).take s.1).length s.2.2), (4, .int .i64 (s.1 : Int))]) (fun _ => [])
    (fun s => [GX.Own 23 (Ty.slice Ty.int) s.2.1 s.2.2 ((flds t).take s.1)]) (fun s => s.1 ≤ t.classes.length) (fun s => t.classes.length - s.1) (0, none, 0) ⟨rfl, rfl, rfl, trivial⟩ (by simp) (fun s hs2 => ?_)
  obtain ⟨i, aF, cF⟩ := s
  dsimp only at *
  have hfl := flds_len t
  have htl : ((flds t).take i).length = i := by rw [List.length_take]; omega
  by_cases hlt : i < t.classes.length
  · obtain ⟨L, hL⟩ := get_lt hlt
    have hr := hs.ref (List.mem_of_getElem? hL)
    have e : (flds t).take i ++ [L.refs] = (flds t).take (i + 1) := by
      rw [List.take_add_one]; unfold flds; rw [List.getElem?_map, hL]; rfl
    refine GX.wR ?_; intros
    refine GX.nmS 19 ?_; rintro aN cN rfl rfl
    refine frz aN ?_
    refine GX.wR ?_; intros
    rw [e]
    refine GX.nmS 21 ?_; rintro a3 c3 rfl rfl
    refine GX.wR ?_; intros
    exact again (i + 1, a3, c3) ⟨rfl, rfl, rfl, trivial⟩ (by dsimp only; omega) (by dsimp only; omega)
  · rw [List.take_of_length_le (by omega)]
    refine GX.wR ?_; intros
    refine frz aF ?_
    exact rt1 (aF, cF) rfl
theorem rglobal_spec (cs : List Value) (t : RTg) (hs : Small t) : Does Tryz.prog 29 [.agg cs.toArray] [Ag tyRTg cs t] []
    (fun s : Option Addr × Nat => .slice s.1 (glob t).length s.2) (fun s => [Sl Ty.int s.1 s.2 (glob t)]) (fun _ => []) := by
  have hc := hs.classes
  have hfl := flds_len t
  refine enter Tryz.func29 rfl Tryz.ntmps29 rfl fun b => ?_
  refine GX.wR ?_; intros
  refine GX.drawn0  (fun j => !(List.contains [4] j)) [(0, true), (2, true), (3, true), (1, false), (4, false), (5, true)] rfl (by kernel_rfl) (by kernel_rfl) (by first | ((repeat (first | apply Go.GX.SelR.nil | apply Go.GX.SelR.cons | (with_reducible apply Go.GX.TakeR.head) | apply Go.GX.TakeR.tail)); done) | (repeat (first | apply Go.GX.SelR.nil | apply Go.GX.SelR.cons | apply Go.GX.TakeR.head | apply Go.GX.TakeR.tail))) ?_; intro wd F hW hR
  refine GX.wT ?_; intros
  refine GX.nmS 6 ?_; rintro aG cG rfl rfl
  refine GX.gow ?_
  refine (cl (rfields_spec _ t hs) fun s => ?_)
  obtain ⟨aF, cF⟩ := s
  dsimp only
  refine GX.wT ?_; intros
  refine GX.gow ?_
  refine (cl (rfrom_spec aF aG cF cG (flds t) t.globals (by omega)) fun s => ?_)
  obtain ⟨a2, c2⟩ := s
  dsimp only
  refine GX.wT ?_; intros
  refine GX.wR ?_; intros
  refine frz a2 ?_
  exact rt1 (a2, c2) rfl
end Go.Proofs.YtomfpmbapdhbgaaGreat

/- The walks over Both and Put of the references of chapters 19 and 15. -/
namespace Go.Proofs.YtomfpmbapdhbgaaGreat
open Go Go.RR Go.RX Go.GX Go.RiseM
attribute [local irreducible] wpList Code.wp wpPlan Exit.then Exit.inBlock bodyPost NoPanic Went GX.Post GX.Again GX.Meet GX.RowR GX.Own GX.Owns GX.Box GX.Sl GX.Pt GX.Ag GX.MapR GX.Kept GX.Pin wpT GoK AtEnd Both
theorem putw_spec (ao : Option Addr) (cap : Nat) (l : List Int) (v : Int) (hl : Rise l) (hm : l.length ≤ 100000) : Does Tryz.prog 97 [.slice ao l.length cap, .int .i64 v] [Sl Ty.int ao cap l] []
    (fun s : Option Addr × Nat => .slice s.1 (put l v).length s.2) (fun s => [Sl Ty.int s.1 s.2 (put l v)]) (fun _ => []) := by
  refine enter Tryz.func97 rfl Tryz.ntmps97 rfl fun b => ?_
  refine GX.wR ?_; intros
  refine GX.o (cl (put_spec ao cap l v hl hm) fun s => ?_)
  refine GX.wR ?_; intros
  exact rt1 s rfl
theorem puts_le' (l : List Int) : (puts l).length ≤ l.length := by
  unfold puts
  have key : ∀ (l acc : List Int), (l.foldl put acc).length ≤ acc.length + l.length := by
    intro l
    induction l with
    | nil => simp
    | cons x l ih =>
      intro acc
      have := ih (put acc x)
      have := put_len acc x
      simp only [List.foldl_cons, List.length_cons]; omega
  simpa using key l []
def putsTo (l m : List Int) (j : Nat) : List Int := (m.take j).foldl put (puts l)
theorem putsTo_eq (l m : List Int) (j : Nat) : putsTo l m j = puts (l ++ m.take j) := by simp [putsTo, puts, List.foldl_append]
structure BoS where
  i : Nat
  ao : Option Addr
  cap : Nat
theorem rboth_spec (a1 a2 : Option Addr) (c1 c2 : Nat) (l m : List Int) (hl : l.length ≤ 50000) (hm : m.length ≤ 50000) : Does Tryz.prog 67 [.slice a1 l.length c1, .slice a2 m.length c2] [Sl Ty.int a1 c1 l, Sl Ty.int a2 c2 m] []
    (fun s : Option Addr × Nat => .slice s.1 (puts (l ++ m)).length s.2) (fun s => [Sl Ty.int s.1 s.2 (puts (l ++ m))]) (fun _ => []) := by
  refine enter Tryz.func67 rfl Tryz.ntmps67 rfl fun b => ?_
  refine GX.wR ?_; intros
  refine slNil Ty.int ?_
  refine GX.loop (σ := BoS) (fun s => [(0, .slice a1 l.length c1), (1, .slice a2 m.length c2), (5, .slice s.ao (puts (l.take s.i)).length s.cap), (6, .int .i64 (s.i : Int))]) (fun s => [Sl Ty.int s.ao s.cap (puts (l.take s.i))]) (fun _ => [])
    (fun s => s.i ≤ l.length) (fun s => l.length - s.i) ⟨0, none, 0⟩ ⟨rfl, rfl, rfl, rfl, trivial⟩ (by simp) (fun s hi => ?_)
  obtain ⟨i, ao, cap⟩ := s
  dsimp only at *
  by_cases hlt : i < l.length
  · obtain ⟨x, hx⟩ := get_lt hlt
    have hq : (puts (l.take i)).length ≤ 100000 := by have := puts_le' (l.take i); rw [List.length_take] at this; omega
    have e : put (puts (l.take i)) x = puts (l.take (i + 1)) := by rw [← puts_snoc, List.take_add_one, hx]; rfl
    refine GX.wR ?_; intros
    refine GX.o (cl (putw_spec ao cap (puts (l.take i)) x (puts_spec _).1 hq) fun s => ?_)
    obtain ⟨ao', cap'⟩ := s
    dsimp only
    rw [e]
    refine GX.wR ?_; intros
    exact again ⟨i + 1, ao', cap'⟩ ⟨rfl, rfl, rfl, rfl, trivial⟩ (by dsimp only; omega) (by dsimp only; omega)
  have hil : l.take i = l := List.take_of_length_le (by omega)
  rw [hil]
  refine GX.wR ?_; intros
  refine GX.loop (σ := BoS) (fun s => [(0, .slice a1 l.length c1), (1, .slice a2 m.length c2), (5, .slice s.ao (putsTo l m s.i).length s.cap), (7, .int .i64 (s.i : Int))]) (fun s => [Sl Ty.int s.ao s.cap (putsTo l m s.i)]) (fun _ => [])
    (fun s => s.i ≤ m.length) (fun s => m.length - s.i) ⟨0, ao, cap⟩ ⟨rfl, rfl, rfl, rfl, trivial⟩ (by simp) (fun s hi => ?_)
  obtain ⟨j, ao2, cap2⟩ := s
  dsimp only at *
  by_cases hlt : j < m.length
  · obtain ⟨x, hx⟩ := get_lt hlt
    have hr : Rise (putsTo l m j) := by rw [putsTo_eq]; exact (puts_spec _).1
    have hq : (putsTo l m j).length ≤ 100000 := by have := puts_le' (l ++ m.take j); rw [← putsTo_eq, List.length_append, List.length_take] at this; omega
    have e : put (putsTo l m j) x = putsTo l m (j + 1) := by rw [putsTo_eq, putsTo_eq, ← puts_snoc, List.take_add_one, hx, List.append_assoc]; rfl
    refine GX.wR ?_; intros
    refine GX.o (cl (putw_spec ao2 cap2 (putsTo l m j) x hr hq) fun s => ?_)
    obtain ⟨ao', cap'⟩ := s
    dsimp only
    rw [e]
    refine GX.wR ?_; intros
    exact again ⟨j + 1, ao', cap'⟩ ⟨rfl, rfl, rfl, rfl, trivial⟩ (by dsimp only; omega) (by dsimp only; omega)
  have e : putsTo l m j = puts (l ++ m) := by rw [putsTo_eq, List.take_of_length_le (by omega)]
  rw [e]
  refine GX.wR ?_; intros
  exact rt1 (ao2, cap2) rfl
end Go.Proofs.YtomfpmbapdhbgaaGreat
