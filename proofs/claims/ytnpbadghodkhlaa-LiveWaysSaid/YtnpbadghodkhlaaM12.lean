import Derived.Test.YtnpbadghodkhlaaM9
import Derived.Test.YtnpbadghodkhlaaM10
import Derived.Test.YtnpbadghodkhlaaM11
import Derived.Lib.SlicesCompact
/- Rising lists of ints: what put, sorting and striking out make of them. No program in sight. -/
namespace Go.RiseM
open Go

/-- A list that rises. -/
def Rise (l : List Int) : Prop := l.Pairwise (· < ·)
instance (l : List Int) : Decidable (Rise l) := by unfold Rise; infer_instance
theorem Rise.eq : ∀ {l m : List Int}, Rise l → Rise m → (∀ x, x ∈ l ↔ x ∈ m) → l = m
  | [], [], _, _, _ => rfl
  | [], y :: m, _, _, h => absurd ((h y).2 (by simp)) (by simp)
  | x :: l, [], _, _, h => absurd ((h x).1 (by simp)) (by simp)
  | x :: l, y :: m, h1, h2, h => by
    have a1 := List.pairwise_cons.1 h1
    have a2 := List.pairwise_cons.1 h2
    have e : x = y := by
      rcases List.mem_cons.1 ((h x).1 (by simp)) with c | c
      · exact c
      · rcases List.mem_cons.1 ((h y).2 (by simp)) with d | d
        · exact d.symm
        · have := a2.1 x c; have := a1.1 y d; omega
    subst e
    congr 1
    refine Rise.eq a1.2 a2.2 fun z => ⟨fun hz => ?_, fun hz => ?_⟩
    · rcases List.mem_cons.1 ((h z).1 (List.mem_cons_of_mem _ hz)) with c | c
      · subst c; have := a1.1 z hz; omega
      · exact c
    · rcases List.mem_cons.1 ((h z).2 (List.mem_cons_of_mem _ hz)) with c | c
      · subst c; have := a2.1 z hz; omega
      · exact c
theorem compactUpTo_rise {xs : List Int} (h : xs.Pairwise (· ≤ ·)) : ∀ m, m ≤ xs.length → Rise (Lib.compactUpTo xs.toArray m) ∧ (∀ x, x ∈ Lib.compactUpTo xs.toArray m ↔ x ∈ xs.take m) := by
  intro m
  induction m with
  | zero => intro _; exact ⟨List.Pairwise.nil, by simp [Lib.compactUpTo]⟩
  | succ m ih =>
    intro hm
    obtain ⟨h1, h2⟩ := ih (by omega)
    have hx : xs.toArray[m]! = xs[m] := by rw [getElem!_pos xs.toArray m (by simp; omega)]; simp
    have ht : xs.take (m + 1) = xs.take m ++ [xs[m]] := by rw [List.take_add_one, List.getElem?_eq_getElem (by omega)]; rfl
    have hle : ∀ y ∈ xs.take m, y ≤ xs[m] := fun y hy => by
      obtain ⟨j, hj, rfl⟩ := List.mem_take_iff_getElem.1 hy
      exact List.pairwise_iff_getElem.1 h j m (by omega) (by omega) (by omega)
    rw [Lib.compactUpTo_succ, ht, hx]
    by_cases hk : Lib.keeps xs.toArray m = true
    · rw [if_pos hk]
      refine ⟨List.pairwise_append.2 ⟨h1, by simp, fun a ha c hc => ?_⟩, fun x => by rw [List.mem_append, List.mem_append, h2]⟩
      obtain rfl : c = xs[m] := by simpa using hc
      have ha2 := (h2 a).1 ha
      obtain ⟨j, hj, rfl⟩ := List.mem_take_iff_getElem.1 ha2
      simp only [Lib.keeps, decide_eq_true_eq] at hk
      have hm0 : m ≠ 0 := by omega
      have hne : xs.toArray[m]! ≠ xs.toArray[m - 1]! := by rcases hk with c | c; exact absurd c hm0; exact c
      rw [hx, getElem!_pos xs.toArray (m - 1) (by simp; omega)] at hne
      have hne : xs[m] ≠ xs[m - 1] := by simpa using hne
      have h3 := List.pairwise_iff_getElem.1 h (m - 1) m (by omega) (by omega) (by omega)
      have h4 : xs[j] ≤ xs[m - 1] := by
        by_cases e : j = m - 1
        · subst e; exact Int.le_refl _
        · exact List.pairwise_iff_getElem.1 h j (m - 1) (by omega) (by omega) (by omega)
      omega
    · rw [if_neg hk, List.append_nil]
      refine ⟨h1, fun x => ?_⟩
      rw [h2, List.mem_append]
      refine ⟨.inl, fun hx2 => ?_⟩
      rcases hx2 with c | c
      · exact c
      · obtain rfl : x = xs[m] := by simpa using c
        simp only [Lib.keeps, decide_eq_true_eq] at hk
        have hm0 : m ≠ 0 := fun e => hk (.inl e)
        have he : xs.toArray[m]! = xs.toArray[m - 1]! := Classical.not_not.1 fun e => hk (.inr e)
        rw [hx, getElem!_pos xs.toArray (m - 1) (by simp; omega)] at he
        have he : xs[m] = xs[m - 1] := by simpa using he
        rw [he]
        exact List.mem_take_iff_getElem.2 ⟨m - 1, by omega, rfl⟩
theorem compact_rise {xs : List Int} (h : xs.Pairwise (· ≤ ·)) : Rise (Lib.compact xs) ∧ ∀ x, x ∈ Lib.compact xs ↔ x ∈ xs := by
  have := compactUpTo_rise h xs.length (Nat.le_refl _)
  rwa [List.take_length] at this

/-- A number into a rising list, once. -/
def put (l : List Int) (v : Int) : List Int := if v ∈ l then l else l.filter (· < v) ++ v :: l.filter (v < ·)
theorem put_mem {l : List Int} {v x : Int} : x ∈ put l v ↔ x = v ∨ x ∈ l := by
  unfold put
  split
  · rename_i h
    constructor
    · exact .inr
    · rintro (rfl | h2)
      · exact h
      · exact h2
  · rename_i h
    rw [List.mem_append, List.mem_cons, List.mem_filter, List.mem_filter]
    simp only [decide_eq_true_eq]
    constructor
    · rintro (⟨h1, _⟩ | h1 | ⟨h1, _⟩)
      · exact .inr h1
      · exact .inl h1
      · exact .inr h1
    · rintro (h1 | h1)
      · exact .inr (.inl h1)
      · rcases Int.lt_trichotomy x v with c | c | c
        · exact .inl ⟨h1, c⟩
        · exact .inr (.inl c)
        · exact .inr (.inr ⟨h1, c⟩)
theorem Rise.put {l : List Int} (h : Rise l) (v : Int) : Rise (put l v) := by
  unfold RiseM.put
  split
  · exact h
  · refine List.pairwise_append.2 ⟨h.filter _, List.pairwise_cons.2 ⟨fun x hx => ?_, h.filter _⟩, fun a ha c hc => ?_⟩
    · simpa using (List.mem_filter.1 hx).2
    · have h1 : a < v := by simpa using (List.mem_filter.1 ha).2
      rcases List.mem_cons.1 hc with rfl | hc
      · exact h1
      · have h2 : v < c := by simpa using (List.mem_filter.1 hc).2
        omega
/-- How 'put' finds the place. -/
theorem put_at {l : List Int} (h : Rise l) {v : Int} {k : Nat} (h1 : ∀ x ∈ l.take k, x < v) (h2 : ∀ x ∈ l.drop k, v < x) : put l v = l.take k ++ v :: l.drop k := by
  have hn : v ∉ l := fun hv => by
    rw [← List.take_append_drop k l, List.mem_append] at hv
    rcases hv with c | c
    · have := h1 v c; omega
    · have := h2 v c; omega
  unfold put
  rw [if_neg hn]
  have e1 : l.filter (· < v) = l.take k := by
    conv => lhs; rw [← List.take_append_drop k l]
    rw [List.filter_append, List.filter_eq_self.2 (fun x hx => by simpa using h1 x hx), List.filter_eq_nil_iff.2 (fun x hx => by have := h2 x hx; simp; omega), List.append_nil]
  have e2 : l.filter (v < ·) = l.drop k := by
    conv => lhs; rw [← List.take_append_drop k l]
    have a1 : (l.drop k).filter (v < ·) = l.drop k := List.filter_eq_self.2 (fun x hx => by simpa using h2 x hx)
    have a2 : (l.take k).filter (v < ·) = [] := List.filter_eq_nil_iff.2 (fun x hx => by have := h1 x hx; simp; omega)
    rw [List.filter_append, a1, a2, List.nil_append]
  rw [e1, e2]
theorem put_len (l : List Int) (v : Int) : (put l v).length ≤ l.length + 1 := by
  unfold put
  split
  · omega
  · rw [List.length_append, List.length_cons]
    have e2 : ∀ (l : List Int), (l.filter fun x => decide (x < v)).length + (l.filter fun x => decide (v < x)).length ≤ l.length := by
      intro l
      induction l with
      | nil => simp
      | cons z l ih =>
        rw [List.filter_cons, List.filter_cons]
        by_cases c : z < v
        · have : ¬ v < z := by omega
          simp [c, this]; omega
        · by_cases c2 : v < z
          · simp [c, c2]; omega
          · simp [c, c2]; omega
    have := e2 l
    omega
/-- All of a list, one after the other. -/
def puts (l : List Int) : List Int := l.foldl put []
theorem puts_snoc (l : List Int) (x : Int) : puts (l ++ [x]) = put (puts l) x := by simp [puts, List.foldl_append]
theorem puts_spec (l : List Int) : Rise (puts l) ∧ ∀ x, x ∈ puts l ↔ x ∈ l := by
  have key : ∀ (l acc : List Int), Rise acc → Rise (l.foldl put acc) ∧ ∀ x, x ∈ l.foldl put acc ↔ x ∈ acc ∨ x ∈ l := by
    intro l
    induction l with
    | nil => intro acc h; exact ⟨h, by simp⟩
    | cons y l ih =>
      intro acc h
      obtain ⟨h1, h2⟩ := ih (put acc y) (h.put y)
      refine ⟨h1, fun x => ?_⟩
      rw [List.foldl_cons, h2, put_mem, List.mem_cons]
      constructor
      · rintro ((h | h) | h)
        · exact .inr (.inl h)
        · exact .inl h
        · exact .inr (.inr h)
      · rintro (h | h | h)
        · exact .inl (.inr h)
        · exact .inl (.inl h)
        · exact .inr h
  obtain ⟨h1, h2⟩ := key l [] List.Pairwise.nil
  exact ⟨h1, fun x => by rw [puts, h2]; simp⟩
end Go.RiseM

/- The plain mathematics of chapter 15: what comes next. No program in sight. -/
namespace Go.FlowM
open Go.RiseM Go.Api

/-- Where an instruction may go on, whether there or not. -/
def targets (x : Ins) (i : Int) : List Int := if x.op = 18 then [] else if x.op = 16 then [x.n] else if x.op = 17 then [x.n, x.c] else [i + 1]
/-- A number that is below n. -/
abbrev In (n : Nat) (x : Int) : Prop := 0 ≤ x ∧ x < (n : Int)
/-- What is next to an instruction that there is. -/
def nextOf (x : Ins) (n : Nat) (i : Int) : List Int := puts ((targets x i).filter fun y => decide (In n y))
def next (ins : List Ins) (i : Int) : List Int := match (if 0 ≤ i then ins[i.toNat]? else none) with
  | some x => nextOf x ins.length i
  | none => []
theorem next_some {ins : List Ins} {i : Nat} {x : Ins} (h : ins[i]? = some x) : next ins (i : Int) = nextOf x ins.length i := by
  unfold next; rw [if_pos (by omega), Int.toNat_natCast, h]
theorem next_none {ins : List Ins} {i : Int} (h : i < 0 ∨ (ins.length : Int) ≤ i) : next ins i = [] := by
  unfold next
  split
  · rename_i x hx
    split at hx
    · have := (List.getElem?_eq_some_iff.1 hx).1; omega
    · cases hx
  · rfl
theorem next_rise (ins : List Ins) (i : Int) : Rise (next ins i) := by
  unfold next nextOf
  split
  · exact (puts_spec _).1
  · exact List.Pairwise.nil
theorem next_in {ins : List Ins} {i x : Int} (h : x ∈ next ins i) : In ins.length x ∧ In ins.length i := by
  unfold next at h
  split at h
  · rename_i y hy
    unfold nextOf at h
    rw [(puts_spec _).2, List.mem_filter] at h
    split at hy
    · have := (List.getElem?_eq_some_iff.1 hy).1
      exact ⟨by simpa using h.2, by omega⟩
    · cases hy
  · simp at h
theorem next_len (ins : List Ins) (i : Int) : (next ins i).length ≤ 2 := by
  unfold next nextOf
  split
  · rename_i x _
    have h2 : ∀ l : List Int, (puts l).length ≤ l.length := by
      intro l
      have key : ∀ (l acc : List Int), (l.foldl put acc).length ≤ acc.length + l.length := by
        intro l
        induction l with
        | nil => intro acc; simp
        | cons y l ih =>
          intro acc
          have h1 := ih (put acc y)
          have h2 : (put acc y).length ≤ acc.length + 1 := by
            unfold put
            split
            · omega
            · rename_i hn
              rw [List.length_append, List.length_cons]
              have e2 : ∀ (l : List Int), (l.filter fun x => decide (x < y)).length + (l.filter fun x => decide (y < x)).length ≤ l.length := by
                intro l
                induction l with
                | nil => simp
                | cons z l ih =>
                  rw [List.filter_cons, List.filter_cons]
                  by_cases c : z < y
                  · have : ¬ y < z := by omega
                    simp [c, this]; omega
                  · by_cases c2 : y < z
                    · simp [c, c2]; omega
                    · simp [c, c2]; omega
              have := e2 acc
              omega
          rw [List.foldl_cons, List.length_cons]; omega
      have := key l []
      simpa [puts] using this
    have h3 := h2 ((targets x i).filter fun y => decide (In ins.length y))
    have h4 := List.length_filter_le (fun y => decide (In ins.length y)) (targets x i)
    have h5 : (targets x i).length ≤ 2 := by unfold targets; (repeat' split) <;> simp
    omega
  · simp
end Go.FlowM

/- The walk over Next of package flow. -/
namespace Go.Proofs.Ytnpbadghodkhlaa
open Go Go.RR Go.RX Go.GX Go.Api Go.FlowM Go.RiseM
attribute [local irreducible] wpList Code.wp wpPlan Exit.then Exit.inBlock bodyPost NoPanic Went GX.Post GX.Again GX.Meet GX.RowR GX.Own GX.Owns GX.Box GX.Sl GX.Pt GX.Ag GX.MapR GX.Kept GX.Pin

theorem next1_spec (bl : Nat) (c : Api.Code) (x : Int) : Does Try.prog 39 [.int .i64 x, .pointer (some ⟨bl, 0, none⟩)] [Pt tyCode bl 0 c] [] (fun _ : Unit => .bool (decide (¬ In c.ins.length x))) (fun _ => []) (fun _ => []) := by
  refine enter Try.func39 rfl Try.ntmps39 rfl fun b => ?_
  by_cases h1 : x < 0
  · repeat (first | (apply GX.s_list; first | apply GX.nil | (refine GX.o ?_; first | (apply GX.k_load; first | refine GX.lr ?_ | refine GX.lrA ?_ | refine GX.ln ?_ | refine GX.lb ?_ | refine GX.lh ?_ | (refine GX.ls ?_; intro ao cap _ _) | (refine GX.lA ?_; intro cs) | (refine GX.l0 ?_; intro cs) | refine GX.o1n ?_ | refine GX.o1b ?_ | refine GX.o1h ?_ | (refine GX.o1s ?_; intro ao cap _ _) | refine GX.omn ?_ | refine GX.omb ?_ | refine GX.omh ?_ | (refine GX.oms ?_; intro ao cap _ _) | refine GX.ofn ?_ | refine GX.ofb ?_ | refine GX.ofh ?_ | (refine GX.ofs ?_; intro ao cap _ _) | (refine GX.oA ?_; intro cs)) | (apply GX.k_move; refine GX.m ?_) | (apply GX.k_binOp_lss; refine GX.b_lss ?_) | (apply GX.k_assign; refine GX.a ?_) | (apply GX.k_fieldAddr; first | refine GX.f0 ?_ | refine GX.fh ?_ | refine GX.fa ?_) | (apply GX.k_call; refine GX.c_len ?_) | (apply GX.k_pick; first | refine GX.pt ?_ | refine GX.pf ?_ | refine GX.pk ?_) | (apply GX.k_binOp_geq; refine GX.b_geq ?_)) | refine GX.gt ?_ | refine GX.gf ?_ | refine GX.gbt ?_ | refine GX.gbf ?_ | refine GX.un ?_ | refine GX.un0 ?_) | apply GX.then_normal | apply GX.seq | apply GX.region | (apply GX.s_cond; first | refine GX.ct ?_ | refine GX.cf ?_ | refine GX.cdf ?_ | refine GX.cdt ?_ | refine GX.cbt ?_ | refine GX.cbf ?_) | apply GX.skip | apply GX.block | apply GX.inBlock_normal | apply GX.exit | apply GX.then_exit | apply GX.inBlock_exit | refine GX.ibo ?_ | apply GX.ret | apply GX.then_ret | apply GX.inBlock_ret)
    exact rt1 () (congrArg Value.bool (decide_eq_true fun h => by have := h.1; omega))
  · repeat (first | (apply GX.s_list; first | apply GX.nil | (refine GX.o ?_; first | (apply GX.k_load; first | refine GX.lr ?_ | refine GX.lrA ?_ | refine GX.ln ?_ | refine GX.lb ?_ | refine GX.lh ?_ | (refine GX.ls ?_; intro ao cap _ _) | (refine GX.lA ?_; intro cs) | (refine GX.l0 ?_; intro cs) | refine GX.o1n ?_ | refine GX.o1b ?_ | refine GX.o1h ?_ | (refine GX.o1s ?_; intro ao cap _ _) | refine GX.omn ?_ | refine GX.omb ?_ | refine GX.omh ?_ | (refine GX.oms ?_; intro ao cap _ _) | refine GX.ofn ?_ | refine GX.ofb ?_ | refine GX.ofh ?_ | (refine GX.ofs ?_; intro ao cap _ _) | (refine GX.oA ?_; intro cs)) | (apply GX.k_move; refine GX.m ?_) | (apply GX.k_binOp_lss; refine GX.b_lss ?_) | (apply GX.k_assign; refine GX.a ?_) | (apply GX.k_fieldAddr; first | refine GX.f0 ?_ | refine GX.fh ?_ | refine GX.fa ?_) | (apply GX.k_call; refine GX.c_len ?_) | (apply GX.k_pick; first | refine GX.pt ?_ | refine GX.pf ?_ | refine GX.pk ?_) | (apply GX.k_binOp_geq; refine GX.b_geq ?_)) | refine GX.gt ?_ | refine GX.gf ?_ | refine GX.gbt ?_ | refine GX.gbf ?_ | refine GX.un ?_ | refine GX.un0 ?_) | apply GX.then_normal | apply GX.seq | apply GX.region | (apply GX.s_cond; first | refine GX.ct ?_ | refine GX.cf ?_ | refine GX.cdf ?_ | refine GX.cdt ?_ | refine GX.cbt ?_ | refine GX.cbf ?_) | apply GX.skip | apply GX.block | apply GX.inBlock_normal | apply GX.exit | apply GX.then_exit | apply GX.inBlock_exit | refine GX.ibo ?_ | apply GX.ret | apply GX.then_ret | apply GX.inBlock_ret)
    refine rt1 () (congrArg Value.bool (decide_eq_decide.2 ⟨fun h => ?_, fun h h2 => ?_⟩))
    · have : ¬ x < c.ins.length := fun h2 => h ⟨by omega, h2⟩
      omega
    · have := h2.2; omega

theorem sorted_once {xs : List Int} {n : Nat} : once (sorted (kept (fun y => decide (¬ In n y)) xs xs.length)) = puts (xs.filter fun y => decide (In n y)) := by
  have h1 := sorted_rise (kept (fun y => decide (¬ In n y)) xs xs.length)
  obtain ⟨h2, h3⟩ := compact_rise h1
  obtain ⟨h4, h5⟩ := puts_spec (xs.filter fun y => decide (In n y))
  refine Rise.eq h2 h4 fun x => ?_
  rw [h5]
  show x ∈ Lib.compact _ ↔ _
  rw [h3, sorted_mem]
  unfold kept
  rw [List.take_length, List.mem_filter, List.mem_filter]
  simp

theorem next_spec (cs : List Value) (c : Api.Code) (i : Int) : Does Try.prog 30 [.agg cs.toArray, .int .i64 i] [Ag tyCode cs c] []
    (fun s : Option Addr × Nat => .slice s.1 (next c.ins i).length s.2) (fun s => [Sl Ty.int s.1 s.2 (next c.ins i)]) (fun _ => []) := by
  by_cases h1 : i < 0
  · rw [next_none (.inl h1)]
    refine enter Try.func30 rfl Try.ntmps30 rfl fun b => ?_
    repeat (first | (apply GX.s_list; first | apply GX.nil | (refine GX.o ?_; first | (apply GX.k_load; first | refine GX.lr ?_ | refine GX.lrA ?_ | refine GX.ln ?_ | refine GX.lb ?_ | refine GX.lh ?_ | (refine GX.ls ?_; intro ao cap _ _) | (refine GX.lA ?_; intro cs) | (refine GX.l0 ?_; intro cs) | refine GX.o1n ?_ | refine GX.o1b ?_ | refine GX.o1h ?_ | (refine GX.o1s ?_; intro ao cap _ _) | refine GX.omn ?_ | refine GX.omb ?_ | refine GX.omh ?_ | (refine GX.oms ?_; intro ao cap _ _) | refine GX.ofn ?_ | refine GX.ofb ?_ | refine GX.ofh ?_ | (refine GX.ofs ?_; intro ao cap _ _) | (refine GX.oA ?_; intro cs)) | (apply GX.k_move; refine GX.m ?_) | (apply GX.k_indexAddr; first | refine GX.io1 ?_ | refine GX.ioh ?_ | refine GX.i1 ?_ | refine GX.ih ?_ | (refine GX.ix ?_; intro bl o)) | (apply GX.k_binOp_lss; refine GX.b_lss ?_) | (apply GX.k_binOp_add; first | refine GX.b_inc ?_ | refine GX.b_add ?_ | refine GX.b_addw ?_) | (apply GX.k_assign; refine GX.a ?_) | (apply GX.k_fieldAddr; first | refine GX.f0 ?_ | refine GX.fh ?_ | refine GX.fa ?_) | (apply GX.k_call; refine GX.c_len ?_) | (apply GX.k_pick; first | refine GX.pt ?_ | refine GX.pf ?_ | refine GX.pk ?_) | (apply GX.k_store; first | refine GX.stW ?_ | refine GX.stB ?_ | refine GX.stR ?_ | refine GX.stRW ?_ | refine GX.so1 ?_ | refine GX.som ?_ | refine GX.sof ?_ | refine GX.sog ?_) | (apply GX.k_box; first | (refine GX.bxF ?_; intro _) | (refine GX.bxR ?_; intro _)) | (apply GX.k_buildSlice; (refine GX.sl ?_; intro _)) | (apply GX.k_alloc; (refine GX.al ?_; intro _)) | (apply GX.k_makeFunc; refine GX.mkf ?_) | (apply GX.k_binOp_eql; first | refine GX.b_eql ?_ | refine GX.b_pn ?_ | refine GX.b_nn ?_ | refine GX.b_snn ?_ | refine GX.b_sns ?_ | refine GX.b_eqls ?_ | refine GX.b_eqltf ?_ | refine GX.b_eqlft ?_ | refine GX.b_eqlb ?_) | (apply GX.k_binOp_geq; refine GX.b_geq ?_)) | refine GX.gt ?_ | refine GX.gf ?_ | refine GX.gbt ?_ | refine GX.gbf ?_ | refine GX.un ?_ | refine GX.un0 ?_) | apply GX.then_normal | apply GX.seq | apply GX.region | (apply GX.s_cond; first | refine GX.ct ?_ | refine GX.cf ?_ | refine GX.cdf ?_ | refine GX.cdt ?_ | refine GX.cbt ?_ | refine GX.cbf ?_) | apply GX.skip | apply GX.block | apply GX.inBlock_normal | apply GX.exit | apply GX.then_exit | apply GX.inBlock_exit | refine GX.ibo ?_ | apply GX.ret | apply GX.then_ret | apply GX.inBlock_ret)
    refine slNil Ty.int ?_
    exact rt1 (none, 0) rfl
  by_cases h2 : (c.ins.length : Int) ≤ i
  · rw [next_none (.inr h2)]
    refine enter Try.func30 rfl Try.ntmps30 rfl fun b => ?_
    repeat (first | (apply GX.s_list; first | apply GX.nil | (refine GX.o ?_; first | (apply GX.k_load; first | refine GX.lr ?_ | refine GX.lrA ?_ | refine GX.ln ?_ | refine GX.lb ?_ | refine GX.lh ?_ | (refine GX.ls ?_; intro ao cap _ _) | (refine GX.lA ?_; intro cs) | (refine GX.l0 ?_; intro cs) | refine GX.o1n ?_ | refine GX.o1b ?_ | refine GX.o1h ?_ | (refine GX.o1s ?_; intro ao cap _ _) | refine GX.omn ?_ | refine GX.omb ?_ | refine GX.omh ?_ | (refine GX.oms ?_; intro ao cap _ _) | refine GX.ofn ?_ | refine GX.ofb ?_ | refine GX.ofh ?_ | (refine GX.ofs ?_; intro ao cap _ _) | (refine GX.oA ?_; intro cs)) | (apply GX.k_move; refine GX.m ?_) | (apply GX.k_indexAddr; first | refine GX.io1 ?_ | refine GX.ioh ?_ | refine GX.i1 ?_ | refine GX.ih ?_ | (refine GX.ix ?_; intro bl o)) | (apply GX.k_binOp_lss; refine GX.b_lss ?_) | (apply GX.k_binOp_add; first | refine GX.b_inc ?_ | refine GX.b_add ?_ | refine GX.b_addw ?_) | (apply GX.k_assign; refine GX.a ?_) | (apply GX.k_fieldAddr; first | refine GX.f0 ?_ | refine GX.fh ?_ | refine GX.fa ?_) | (apply GX.k_call; refine GX.c_len ?_) | (apply GX.k_pick; first | refine GX.pt ?_ | refine GX.pf ?_ | refine GX.pk ?_) | (apply GX.k_store; first | refine GX.stW ?_ | refine GX.stB ?_ | refine GX.stR ?_ | refine GX.stRW ?_ | refine GX.so1 ?_ | refine GX.som ?_ | refine GX.sof ?_ | refine GX.sog ?_) | (apply GX.k_box; first | (refine GX.bxF ?_; intro _) | (refine GX.bxR ?_; intro _)) | (apply GX.k_buildSlice; (refine GX.sl ?_; intro _)) | (apply GX.k_alloc; (refine GX.al ?_; intro _)) | (apply GX.k_makeFunc; refine GX.mkf ?_) | (apply GX.k_binOp_eql; first | refine GX.b_eql ?_ | refine GX.b_pn ?_ | refine GX.b_nn ?_ | refine GX.b_snn ?_ | refine GX.b_sns ?_ | refine GX.b_eqls ?_ | refine GX.b_eqltf ?_ | refine GX.b_eqlft ?_ | refine GX.b_eqlb ?_) | (apply GX.k_binOp_geq; refine GX.b_geq ?_)) | refine GX.gt ?_ | refine GX.gf ?_ | refine GX.gbt ?_ | refine GX.gbf ?_ | refine GX.un ?_ | refine GX.un0 ?_) | apply GX.then_normal | apply GX.seq | apply GX.region | (apply GX.s_cond; first | refine GX.ct ?_ | refine GX.cf ?_ | refine GX.cdf ?_ | refine GX.cdt ?_ | refine GX.cbt ?_ | refine GX.cbf ?_) | apply GX.skip | apply GX.block | apply GX.inBlock_normal | apply GX.exit | apply GX.then_exit | apply GX.inBlock_exit | refine GX.ibo ?_ | apply GX.ret | apply GX.then_ret | apply GX.inBlock_ret)
    refine slNil Ty.int ?_
    exact rt1 (none, 0) rfl
  obtain ⟨k, rfl⟩ : ∃ k : Nat, i = k := ⟨i.toNat, by omega⟩
  obtain ⟨x, hx⟩ := get_lt (show k < c.ins.length by omega)
  rw [next_some hx]
  have h3 : k < c.ins.length := by omega
  refine enter Try.func30 rfl Try.ntmps30 rfl fun b => ?_
  repeat (first | (apply GX.s_list; first | apply GX.nil | (refine GX.o ?_; first | (apply GX.k_load; first | refine GX.lr ?_ | refine GX.lrA ?_ | refine GX.ln ?_ | refine GX.lb ?_ | refine GX.lh ?_ | (refine GX.ls ?_; intro ao cap _ _) | (refine GX.lA ?_; intro cs) | (refine GX.l0 ?_; intro cs) | refine GX.o1n ?_ | refine GX.o1b ?_ | refine GX.o1h ?_ | (refine GX.o1s ?_; intro ao cap _ _) | refine GX.omn ?_ | refine GX.omb ?_ | refine GX.omh ?_ | (refine GX.oms ?_; intro ao cap _ _) | refine GX.ofn ?_ | refine GX.ofb ?_ | refine GX.ofh ?_ | (refine GX.ofs ?_; intro ao cap _ _) | (refine GX.oA ?_; intro cs)) | (apply GX.k_move; refine GX.m ?_) | (apply GX.k_indexAddr; first | refine GX.io1 ?_ | refine GX.ioh ?_ | refine GX.i1 ?_ | refine GX.ih ?_ | (refine GX.ix ?_; intro bl o)) | (apply GX.k_binOp_lss; refine GX.b_lss ?_) | (apply GX.k_binOp_add; first | refine GX.b_inc ?_ | refine GX.b_add ?_ | refine GX.b_addw ?_) | (apply GX.k_assign; refine GX.a ?_) | (apply GX.k_fieldAddr; first | refine GX.f0 ?_ | refine GX.fh ?_ | refine GX.fa ?_) | (apply GX.k_call; refine GX.c_len ?_) | (apply GX.k_pick; first | refine GX.pt ?_ | refine GX.pf ?_ | refine GX.pk ?_) | (apply GX.k_store; first | refine GX.stW ?_ | refine GX.stB ?_ | refine GX.stR ?_ | refine GX.stRW ?_ | refine GX.so1 ?_ | refine GX.som ?_ | refine GX.sof ?_ | refine GX.sog ?_) | (apply GX.k_box; first | (refine GX.bxF ?_; intro _) | (refine GX.bxR ?_; intro _)) | (apply GX.k_buildSlice; (refine GX.slo ?_; intro _)) | (apply GX.k_alloc; (refine GX.al ?_; intro _)) | (apply GX.k_makeFunc; refine GX.mkf ?_) | (apply GX.k_binOp_eql; first | refine GX.b_eql ?_ | refine GX.b_pn ?_ | refine GX.b_nn ?_ | refine GX.b_snn ?_ | refine GX.b_sns ?_ | refine GX.b_eqls ?_ | refine GX.b_eqltf ?_ | refine GX.b_eqlft ?_ | refine GX.b_eqlb ?_) | (apply GX.k_binOp_geq; refine GX.b_geq ?_)) | refine GX.gt ?_ | refine GX.gf ?_ | refine GX.gbt ?_ | refine GX.gbf ?_ | refine GX.un ?_ | refine GX.un0 ?_) | apply GX.then_normal | apply GX.seq | apply GX.region | (apply GX.s_cond; first | refine GX.ct ?_ | refine GX.cf ?_ | refine GX.cdf ?_ | refine GX.cdt ?_ | refine GX.cbt ?_ | refine GX.cbf ?_) | apply GX.skip | apply GX.inBlock_normal | apply GX.exit | apply GX.then_exit | apply GX.inBlock_exit | refine GX.ibo ?_ | apply GX.ret | apply GX.then_ret | apply GX.inBlock_ret)
  refine GX.nmP 2 ?_; rintro b2 rfl
  refine GX.cut (σ := Nat) (fun s => [(2, .pointer (some ⟨b2, 0, none⟩)), (5, .slice (some ⟨s, 0, none⟩) (targets x k).length (targets x k).length)]) (fun _ => []) (fun s => [Own 3 Ty.int (some ⟨s, 0, none⟩) (targets x k).length (targets x k)]) (fun _ => x.op ≠ 18) ?_ (fun s hs => ?_)
  · by_cases e18 : x.op = 18
    · have e : nextOf x c.ins.length (k : Int) = [] := by unfold nextOf targets; rw [if_pos e18]; rfl
      rw [e]
      repeat (first | (apply GX.s_list; first | apply GX.nil | (refine GX.o ?_; first | (apply GX.k_load; first | refine GX.lr ?_ | refine GX.lrA ?_ | refine GX.ln ?_ | refine GX.lb ?_ | refine GX.lh ?_ | (refine GX.ls ?_; intro ao cap _ _) | (refine GX.lA ?_; intro cs) | (refine GX.l0 ?_; intro cs) | refine GX.o1n ?_ | refine GX.o1b ?_ | refine GX.o1h ?_ | (refine GX.o1s ?_; intro ao cap _ _) | refine GX.omn ?_ | refine GX.omb ?_ | refine GX.omh ?_ | (refine GX.oms ?_; intro ao cap _ _) | refine GX.ofn ?_ | refine GX.ofb ?_ | refine GX.ofh ?_ | (refine GX.ofs ?_; intro ao cap _ _) | (refine GX.oA ?_; intro cs)) | (apply GX.k_move; refine GX.m ?_) | (apply GX.k_indexAddr; first | refine GX.io1 ?_ | refine GX.ioh ?_ | refine GX.i1 ?_ | refine GX.ih ?_ | (refine GX.ix ?_; intro bl o)) | (apply GX.k_binOp_lss; refine GX.b_lss ?_) | (apply GX.k_binOp_add; first | refine GX.b_inc ?_ | refine GX.b_add ?_ | refine GX.b_addw ?_) | (apply GX.k_assign; refine GX.a ?_) | (apply GX.k_fieldAddr; first | refine GX.f0 ?_ | refine GX.fh ?_ | refine GX.fa ?_) | (apply GX.k_call; refine GX.c_len ?_) | (apply GX.k_pick; first | refine GX.pt ?_ | refine GX.pf ?_ | refine GX.pk ?_) | (apply GX.k_store; first | refine GX.stW ?_ | refine GX.stB ?_ | refine GX.stR ?_ | refine GX.stRW ?_ | refine GX.so1 ?_ | refine GX.som ?_ | refine GX.sof ?_ | refine GX.sog ?_) | (apply GX.k_box; first | (refine GX.bxF ?_; intro _) | (refine GX.bxR ?_; intro _)) | (apply GX.k_buildSlice; (refine GX.slo ?_; intro _)) | (apply GX.k_alloc; (refine GX.al ?_; intro _)) | (apply GX.k_makeFunc; refine GX.mkf ?_) | (apply GX.k_binOp_eql; first | refine GX.b_eql ?_ | refine GX.b_pn ?_ | refine GX.b_nn ?_ | refine GX.b_snn ?_ | refine GX.b_sns ?_ | refine GX.b_eqls ?_ | refine GX.b_eqltf ?_ | refine GX.b_eqlft ?_ | refine GX.b_eqlb ?_) | (apply GX.k_binOp_geq; refine GX.b_geq ?_)) | refine GX.gt ?_ | refine GX.gf ?_ | refine GX.gbt ?_ | refine GX.gbf ?_ | refine GX.un ?_ | refine GX.un0 ?_) | apply GX.then_normal | apply GX.seq | apply GX.region | (apply GX.s_cond; first | refine GX.ct ?_ | refine GX.cf ?_ | refine GX.cdf ?_ | refine GX.cdt ?_ | refine GX.cbt ?_ | refine GX.cbf ?_) | apply GX.skip | apply GX.block | apply GX.inBlock_normal | apply GX.exit | apply GX.then_exit | apply GX.inBlock_exit | refine GX.ibo ?_ | apply GX.ret | apply GX.then_ret | apply GX.inBlock_ret)
      refine slNil Ty.int ?_
      exact rt1 (none, 0) rfl
    · by_cases e16 : x.op = 16
      · have e : targets x (k : Int) = [x.n] := by unfold targets; rw [if_neg e18, if_pos e16]
        repeat (first | (apply GX.s_list; first | apply GX.nil | (refine GX.o ?_; first | (apply GX.k_load; first | refine GX.lr ?_ | refine GX.lrA ?_ | refine GX.ln ?_ | refine GX.lb ?_ | refine GX.lh ?_ | (refine GX.ls ?_; intro ao cap _ _) | (refine GX.lA ?_; intro cs) | (refine GX.l0 ?_; intro cs) | refine GX.o1n ?_ | refine GX.o1b ?_ | refine GX.o1h ?_ | (refine GX.o1s ?_; intro ao cap _ _) | refine GX.omn ?_ | refine GX.omb ?_ | refine GX.omh ?_ | (refine GX.oms ?_; intro ao cap _ _) | refine GX.ofn ?_ | refine GX.ofb ?_ | refine GX.ofh ?_ | (refine GX.ofs ?_; intro ao cap _ _) | (refine GX.oA ?_; intro cs)) | (apply GX.k_move; refine GX.m ?_) | (apply GX.k_indexAddr; first | refine GX.io1 ?_ | refine GX.ioh ?_ | refine GX.i1 ?_ | refine GX.ih ?_ | (refine GX.ix ?_; intro bl o)) | (apply GX.k_binOp_lss; refine GX.b_lss ?_) | (apply GX.k_binOp_add; first | refine GX.b_inc ?_ | refine GX.b_add ?_ | refine GX.b_addw ?_) | (apply GX.k_assign; refine GX.a ?_) | (apply GX.k_fieldAddr; first | refine GX.f0 ?_ | refine GX.fh ?_ | refine GX.fa ?_) | (apply GX.k_call; refine GX.c_len ?_) | (apply GX.k_pick; first | refine GX.pt ?_ | refine GX.pf ?_ | refine GX.pk ?_) | (apply GX.k_store; first | refine GX.stW ?_ | refine GX.stB ?_ | refine GX.stR ?_ | refine GX.stRW ?_ | refine GX.so1 ?_ | refine GX.som ?_ | refine GX.sof ?_ | refine GX.sog ?_) | (apply GX.k_box; first | (refine GX.bxF ?_; intro _) | (refine GX.bxR ?_; intro _)) | (apply GX.k_buildSlice; (refine GX.slo ?_; intro _)) | (apply GX.k_alloc; (refine GX.al ?_; intro _)) | (apply GX.k_makeFunc; refine GX.mkf ?_) | (apply GX.k_binOp_eql; first | refine GX.b_eql ?_ | refine GX.b_pn ?_ | refine GX.b_nn ?_ | refine GX.b_snn ?_ | refine GX.b_sns ?_ | refine GX.b_eqls ?_ | refine GX.b_eqltf ?_ | refine GX.b_eqlft ?_ | refine GX.b_eqlb ?_) | (apply GX.k_binOp_geq; refine GX.b_geq ?_)) | refine GX.gt ?_ | refine GX.gf ?_ | refine GX.gbt ?_ | refine GX.gbf ?_ | refine GX.un ?_ | refine GX.un0 ?_) | apply GX.then_normal | apply GX.seq | apply GX.region | (apply GX.s_cond; first | refine GX.ct ?_ | refine GX.cf ?_ | refine GX.cdf ?_ | refine GX.cdt ?_ | refine GX.cbt ?_ | refine GX.cbf ?_) | apply GX.skip | apply GX.block | apply GX.inBlock_normal | apply GX.exit | apply GX.then_exit | apply GX.inBlock_exit | refine GX.ibo ?_ | apply GX.ret | apply GX.then_ret | apply GX.inBlock_ret)
        refine GX.nmB 5 ?_; rintro b5 rfl
        exact meet b5 ⟨rfl, by rw [e]; rfl, trivial⟩ e18 (h2 := by rw [e]; first | ((repeat (first | apply Go.GX.SelR.nil | apply Go.GX.SelR.cons | (with_reducible apply Go.GX.TakeR.head) | apply Go.GX.TakeR.tail)); done) | (repeat (first | apply Go.GX.SelR.nil | apply Go.GX.SelR.cons | apply Go.GX.TakeR.head | apply Go.GX.TakeR.tail)))
      · by_cases e17 : x.op = 17
        · have e : targets x (k : Int) = [x.n, x.c] := by unfold targets; rw [if_neg e18, if_neg e16, if_pos e17]
          repeat (first | (apply GX.s_list; first | apply GX.nil | (refine GX.o ?_; first | (apply GX.k_load; first | refine GX.lr ?_ | refine GX.lrA ?_ | refine GX.ln ?_ | refine GX.lb ?_ | refine GX.lh ?_ | (refine GX.ls ?_; intro ao cap _ _) | (refine GX.lA ?_; intro cs) | (refine GX.l0 ?_; intro cs) | refine GX.o1n ?_ | refine GX.o1b ?_ | refine GX.o1h ?_ | (refine GX.o1s ?_; intro ao cap _ _) | refine GX.omn ?_ | refine GX.omb ?_ | refine GX.omh ?_ | (refine GX.oms ?_; intro ao cap _ _) | refine GX.ofn ?_ | refine GX.ofb ?_ | refine GX.ofh ?_ | (refine GX.ofs ?_; intro ao cap _ _) | (refine GX.oA ?_; intro cs)) | (apply GX.k_move; refine GX.m ?_) | (apply GX.k_indexAddr; first | refine GX.io1 ?_ | refine GX.ioh ?_ | refine GX.i1 ?_ | refine GX.ih ?_ | (refine GX.ix ?_; intro bl o)) | (apply GX.k_binOp_lss; refine GX.b_lss ?_) | (apply GX.k_binOp_add; first | refine GX.b_inc ?_ | refine GX.b_add ?_ | refine GX.b_addw ?_) | (apply GX.k_assign; refine GX.a ?_) | (apply GX.k_fieldAddr; first | refine GX.f0 ?_ | refine GX.fh ?_ | refine GX.fa ?_) | (apply GX.k_call; refine GX.c_len ?_) | (apply GX.k_pick; first | refine GX.pt ?_ | refine GX.pf ?_ | refine GX.pk ?_) | (apply GX.k_store; first | refine GX.stW ?_ | refine GX.stB ?_ | refine GX.stR ?_ | refine GX.stRW ?_ | refine GX.so1 ?_ | refine GX.som ?_ | refine GX.sof ?_ | refine GX.sog ?_) | (apply GX.k_box; first | (refine GX.bxF ?_; intro _) | (refine GX.bxR ?_; intro _)) | (apply GX.k_buildSlice; (refine GX.slo ?_; intro _)) | (apply GX.k_alloc; (refine GX.al ?_; intro _)) | (apply GX.k_makeFunc; refine GX.mkf ?_) | (apply GX.k_binOp_eql; first | refine GX.b_eql ?_ | refine GX.b_pn ?_ | refine GX.b_nn ?_ | refine GX.b_snn ?_ | refine GX.b_sns ?_ | refine GX.b_eqls ?_ | refine GX.b_eqltf ?_ | refine GX.b_eqlft ?_ | refine GX.b_eqlb ?_) | (apply GX.k_binOp_geq; refine GX.b_geq ?_)) | refine GX.gt ?_ | refine GX.gf ?_ | refine GX.gbt ?_ | refine GX.gbf ?_ | refine GX.un ?_ | refine GX.un0 ?_) | apply GX.then_normal | apply GX.seq | apply GX.region | (apply GX.s_cond; first | refine GX.ct ?_ | refine GX.cf ?_ | refine GX.cdf ?_ | refine GX.cdt ?_ | refine GX.cbt ?_ | refine GX.cbf ?_) | apply GX.skip | apply GX.block | apply GX.inBlock_normal | apply GX.exit | apply GX.then_exit | apply GX.inBlock_exit | refine GX.ibo ?_ | apply GX.ret | apply GX.then_ret | apply GX.inBlock_ret)
          refine GX.nmB 5 ?_; rintro b5 rfl
          exact meet b5 ⟨rfl, by rw [e]; rfl, trivial⟩ e18 (h2 := by rw [e]; first | ((repeat (first | apply Go.GX.SelR.nil | apply Go.GX.SelR.cons | (with_reducible apply Go.GX.TakeR.head) | apply Go.GX.TakeR.tail)); done) | (repeat (first | apply Go.GX.SelR.nil | apply Go.GX.SelR.cons | apply Go.GX.TakeR.head | apply Go.GX.TakeR.tail)))
        · have e : targets x (k : Int) = [(k : Int) + 1] := by unfold targets; rw [if_neg e18, if_neg e16, if_neg e17]
          repeat (first | (apply GX.s_list; first | apply GX.nil | (refine GX.o ?_; first | (apply GX.k_load; first | refine GX.lr ?_ | refine GX.lrA ?_ | refine GX.ln ?_ | refine GX.lb ?_ | refine GX.lh ?_ | (refine GX.ls ?_; intro ao cap _ _) | (refine GX.lA ?_; intro cs) | (refine GX.l0 ?_; intro cs) | refine GX.o1n ?_ | refine GX.o1b ?_ | refine GX.o1h ?_ | (refine GX.o1s ?_; intro ao cap _ _) | refine GX.omn ?_ | refine GX.omb ?_ | refine GX.omh ?_ | (refine GX.oms ?_; intro ao cap _ _) | refine GX.ofn ?_ | refine GX.ofb ?_ | refine GX.ofh ?_ | (refine GX.ofs ?_; intro ao cap _ _) | (refine GX.oA ?_; intro cs)) | (apply GX.k_move; refine GX.m ?_) | (apply GX.k_indexAddr; first | refine GX.io1 ?_ | refine GX.ioh ?_ | refine GX.i1 ?_ | refine GX.ih ?_ | (refine GX.ix ?_; intro bl o)) | (apply GX.k_binOp_lss; refine GX.b_lss ?_) | (apply GX.k_binOp_add; first | refine GX.b_inc ?_ | refine GX.b_add ?_ | refine GX.b_addw ?_) | (apply GX.k_assign; refine GX.a ?_) | (apply GX.k_fieldAddr; first | refine GX.f0 ?_ | refine GX.fh ?_ | refine GX.fa ?_) | (apply GX.k_call; refine GX.c_len ?_) | (apply GX.k_pick; first | refine GX.pt ?_ | refine GX.pf ?_ | refine GX.pk ?_) | (apply GX.k_store; first | refine GX.stW ?_ | refine GX.stB ?_ | refine GX.stR ?_ | refine GX.stRW ?_ | refine GX.so1 ?_ | refine GX.som ?_ | refine GX.sof ?_ | refine GX.sog ?_) | (apply GX.k_box; first | (refine GX.bxF ?_; intro _) | (refine GX.bxR ?_; intro _)) | (apply GX.k_buildSlice; (refine GX.slo ?_; intro _)) | (apply GX.k_alloc; (refine GX.al ?_; intro _)) | (apply GX.k_makeFunc; refine GX.mkf ?_) | (apply GX.k_binOp_eql; first | refine GX.b_eql ?_ | refine GX.b_pn ?_ | refine GX.b_nn ?_ | refine GX.b_snn ?_ | refine GX.b_sns ?_ | refine GX.b_eqls ?_ | refine GX.b_eqltf ?_ | refine GX.b_eqlft ?_ | refine GX.b_eqlb ?_) | (apply GX.k_binOp_geq; refine GX.b_geq ?_)) | refine GX.gt ?_ | refine GX.gf ?_ | refine GX.gbt ?_ | refine GX.gbf ?_ | refine GX.un ?_ | refine GX.un0 ?_) | apply GX.then_normal | apply GX.seq | apply GX.region | (apply GX.s_cond; first | refine GX.ct ?_ | refine GX.cf ?_ | refine GX.cdf ?_ | refine GX.cdt ?_ | refine GX.cbt ?_ | refine GX.cbf ?_) | apply GX.skip | apply GX.block | apply GX.inBlock_normal | apply GX.exit | apply GX.then_exit | apply GX.inBlock_exit | refine GX.ibo ?_ | apply GX.ret | apply GX.then_ret | apply GX.inBlock_ret)
          refine GX.nmB 5 ?_; rintro b5 rfl
          exact meet b5 ⟨rfl, by rw [e]; rfl, trivial⟩ e18 (h2 := by rw [e]; first | ((repeat (first | apply Go.GX.SelR.nil | apply Go.GX.SelR.cons | (with_reducible apply Go.GX.TakeR.head) | apply Go.GX.TakeR.tail)); done) | (repeat (first | apply Go.GX.SelR.nil | apply Go.GX.SelR.cons | apply Go.GX.TakeR.head | apply Go.GX.TakeR.tail)))
  · have h4 : (targets x (k : Int)).length ≤ 2 := by unfold targets; (repeat' split) <;> simp
    repeat (first | (apply GX.s_list; first | apply GX.nil | (refine GX.o ?_; first | (apply GX.k_load; first | refine GX.lr ?_ | refine GX.lrA ?_ | refine GX.ln ?_ | refine GX.lb ?_ | refine GX.lh ?_ | (refine GX.ls ?_; intro ao cap _ _) | (refine GX.lA ?_; intro cs) | (refine GX.l0 ?_; intro cs) | refine GX.o1n ?_ | refine GX.o1b ?_ | refine GX.o1h ?_ | (refine GX.o1s ?_; intro ao cap _ _) | refine GX.omn ?_ | refine GX.omb ?_ | refine GX.omh ?_ | (refine GX.oms ?_; intro ao cap _ _) | refine GX.ofn ?_ | refine GX.ofb ?_ | refine GX.ofh ?_ | (refine GX.ofs ?_; intro ao cap _ _) | (refine GX.oA ?_; intro cs)) | (apply GX.k_move; refine GX.m ?_) | (apply GX.k_indexAddr; first | refine GX.io1 ?_ | refine GX.ioh ?_ | refine GX.i1 ?_ | refine GX.ih ?_ | (refine GX.ix ?_; intro bl o)) | (apply GX.k_binOp_lss; refine GX.b_lss ?_) | (apply GX.k_binOp_add; first | refine GX.b_inc ?_ | refine GX.b_add ?_ | refine GX.b_addw ?_) | (apply GX.k_assign; refine GX.a ?_) | (apply GX.k_fieldAddr; first | refine GX.f0 ?_ | refine GX.fh ?_ | refine GX.fa ?_) | (apply GX.k_call; refine GX.c_len ?_) | (apply GX.k_pick; first | refine GX.pt ?_ | refine GX.pf ?_ | refine GX.pk ?_) | (apply GX.k_store; first | refine GX.stW ?_ | refine GX.stB ?_ | refine GX.stR ?_ | refine GX.stRW ?_ | refine GX.so1 ?_ | refine GX.som ?_ | refine GX.sof ?_ | refine GX.sog ?_) | (apply GX.k_box; first | (refine GX.bxF ?_; intro _) | (refine GX.bxR ?_; intro _)) | (apply GX.k_buildSlice; (refine GX.sl ?_; intro _)) | (apply GX.k_alloc; (refine GX.al ?_; intro _)) | (apply GX.k_makeFunc; refine GX.mkf ?_) | (apply GX.k_binOp_eql; first | refine GX.b_eql ?_ | refine GX.b_pn ?_ | refine GX.b_nn ?_ | refine GX.b_snn ?_ | refine GX.b_sns ?_ | refine GX.b_eqls ?_ | refine GX.b_eqltf ?_ | refine GX.b_eqlft ?_ | refine GX.b_eqlb ?_) | (apply GX.k_binOp_geq; refine GX.b_geq ?_)) | refine GX.gt ?_ | refine GX.gf ?_ | refine GX.gbt ?_ | refine GX.gbf ?_ | refine GX.un ?_ | refine GX.un0 ?_) | apply GX.then_normal | apply GX.seq | apply GX.region | (apply GX.s_cond; first | refine GX.ct ?_ | refine GX.cf ?_ | refine GX.cdf ?_ | refine GX.cdt ?_ | refine GX.cbt ?_ | refine GX.cbf ?_) | apply GX.skip | apply GX.block | apply GX.inBlock_normal | apply GX.exit | apply GX.then_exit | apply GX.inBlock_exit | refine GX.ibo ?_ | apply GX.ret | apply GX.then_ret | apply GX.inBlock_ret)
    refine GX.o (cl (deleteFunc_spec (some ⟨s, 0, none⟩) (targets x k).length (targets x k) 39 [.pointer (some ⟨b2, 0, none⟩)] [Pt tyCode b2 0 c] [] (fun y => decide (¬ In c.ins.length y)) (fun y _ => next1_spec b2 c y)) fun _ => ?_)
    have h5 := kept_len (fun y => decide (¬ In c.ins.length y)) (targets x (k : Int)) (targets x (k : Int)).length (Nat.le_refl _)
    have e : nextOf x c.ins.length (k : Int) = once (sorted (kept (fun y => decide (¬ In c.ins.length y)) (targets x k) (targets x k).length)) := sorted_once.symm
    rw [e]
    obtain ⟨L, hL⟩ : ∃ L, L = kept (fun y => decide (¬ In c.ins.length y)) (targets x (k : Int)) (targets x (k : Int)).length := ⟨_, rfl⟩
    rw [← hL] at h5 ⊢
    repeat (first | (apply GX.s_list; first | apply GX.nil | (refine GX.o ?_; first | (apply GX.k_load; first | refine GX.lr ?_ | refine GX.lrA ?_ | refine GX.ln ?_ | refine GX.lb ?_ | refine GX.lh ?_ | (refine GX.ls ?_; intro ao cap _ _) | (refine GX.lA ?_; intro cs) | (refine GX.l0 ?_; intro cs) | refine GX.o1n ?_ | refine GX.o1b ?_ | refine GX.o1h ?_ | (refine GX.o1s ?_; intro ao cap _ _) | refine GX.omn ?_ | refine GX.omb ?_ | refine GX.omh ?_ | (refine GX.oms ?_; intro ao cap _ _) | refine GX.ofn ?_ | refine GX.ofb ?_ | refine GX.ofh ?_ | (refine GX.ofs ?_; intro ao cap _ _) | (refine GX.oA ?_; intro cs)) | (apply GX.k_move; refine GX.m ?_) | (apply GX.k_indexAddr; first | refine GX.io1 ?_ | refine GX.ioh ?_ | refine GX.i1 ?_ | refine GX.ih ?_ | (refine GX.ix ?_; intro bl o)) | (apply GX.k_binOp_lss; refine GX.b_lss ?_) | (apply GX.k_binOp_add; first | refine GX.b_inc ?_ | refine GX.b_add ?_ | refine GX.b_addw ?_) | (apply GX.k_assign; refine GX.a ?_) | (apply GX.k_fieldAddr; first | refine GX.f0 ?_ | refine GX.fh ?_ | refine GX.fa ?_) | (apply GX.k_call; refine GX.c_len ?_) | (apply GX.k_pick; first | refine GX.pt ?_ | refine GX.pf ?_ | refine GX.pk ?_) | (apply GX.k_store; first | refine GX.stW ?_ | refine GX.stB ?_ | refine GX.stR ?_ | refine GX.stRW ?_ | refine GX.so1 ?_ | refine GX.som ?_ | refine GX.sof ?_ | refine GX.sog ?_) | (apply GX.k_box; first | (refine GX.bxF ?_; intro _) | (refine GX.bxR ?_; intro _)) | (apply GX.k_buildSlice; (refine GX.sl ?_; intro _)) | (apply GX.k_alloc; (refine GX.al ?_; intro _)) | (apply GX.k_makeFunc; refine GX.mkf ?_) | (apply GX.k_binOp_eql; first | refine GX.b_eql ?_ | refine GX.b_pn ?_ | refine GX.b_nn ?_ | refine GX.b_snn ?_ | refine GX.b_sns ?_ | refine GX.b_eqls ?_ | refine GX.b_eqltf ?_ | refine GX.b_eqlft ?_ | refine GX.b_eqlb ?_) | (apply GX.k_binOp_geq; refine GX.b_geq ?_)) | refine GX.gt ?_ | refine GX.gf ?_ | refine GX.gbt ?_ | refine GX.gbf ?_ | refine GX.un ?_ | refine GX.un0 ?_) | apply GX.then_normal | apply GX.seq | apply GX.region | (apply GX.s_cond; first | refine GX.ct ?_ | refine GX.cf ?_ | refine GX.cdf ?_ | refine GX.cdt ?_ | refine GX.cbt ?_ | refine GX.cbf ?_) | apply GX.skip | apply GX.block | apply GX.inBlock_normal | apply GX.exit | apply GX.then_exit | apply GX.inBlock_exit | refine GX.ibo ?_ | apply GX.ret | apply GX.then_ret | apply GX.inBlock_ret)
    refine GX.o (cl (sort_spec (some ⟨s, 0, none⟩) (targets x k).length L (by omega)) fun _ => ?_)
    have h6 := sorted_len L
    rw [← h6]
    repeat (first | (apply GX.s_list; first | apply GX.nil | (refine GX.o ?_; first | (apply GX.k_load; first | refine GX.lr ?_ | refine GX.lrA ?_ | refine GX.ln ?_ | refine GX.lb ?_ | refine GX.lh ?_ | (refine GX.ls ?_; intro ao cap _ _) | (refine GX.lA ?_; intro cs) | (refine GX.l0 ?_; intro cs) | refine GX.o1n ?_ | refine GX.o1b ?_ | refine GX.o1h ?_ | (refine GX.o1s ?_; intro ao cap _ _) | refine GX.omn ?_ | refine GX.omb ?_ | refine GX.omh ?_ | (refine GX.oms ?_; intro ao cap _ _) | refine GX.ofn ?_ | refine GX.ofb ?_ | refine GX.ofh ?_ | (refine GX.ofs ?_; intro ao cap _ _) | (refine GX.oA ?_; intro cs)) | (apply GX.k_move; refine GX.m ?_) | (apply GX.k_indexAddr; first | refine GX.io1 ?_ | refine GX.ioh ?_ | refine GX.i1 ?_ | refine GX.ih ?_ | (refine GX.ix ?_; intro bl o)) | (apply GX.k_binOp_lss; refine GX.b_lss ?_) | (apply GX.k_binOp_add; first | refine GX.b_inc ?_ | refine GX.b_add ?_ | refine GX.b_addw ?_) | (apply GX.k_assign; refine GX.a ?_) | (apply GX.k_fieldAddr; first | refine GX.f0 ?_ | refine GX.fh ?_ | refine GX.fa ?_) | (apply GX.k_call; refine GX.c_len ?_) | (apply GX.k_pick; first | refine GX.pt ?_ | refine GX.pf ?_ | refine GX.pk ?_) | (apply GX.k_store; first | refine GX.stW ?_ | refine GX.stB ?_ | refine GX.stR ?_ | refine GX.stRW ?_ | refine GX.so1 ?_ | refine GX.som ?_ | refine GX.sof ?_ | refine GX.sog ?_) | (apply GX.k_box; first | (refine GX.bxF ?_; intro _) | (refine GX.bxR ?_; intro _)) | (apply GX.k_buildSlice; (refine GX.sl ?_; intro _)) | (apply GX.k_alloc; (refine GX.al ?_; intro _)) | (apply GX.k_makeFunc; refine GX.mkf ?_) | (apply GX.k_binOp_eql; first | refine GX.b_eql ?_ | refine GX.b_pn ?_ | refine GX.b_nn ?_ | refine GX.b_snn ?_ | refine GX.b_sns ?_ | refine GX.b_eqls ?_ | refine GX.b_eqltf ?_ | refine GX.b_eqlft ?_ | refine GX.b_eqlb ?_) | (apply GX.k_binOp_geq; refine GX.b_geq ?_)) | refine GX.gt ?_ | refine GX.gf ?_ | refine GX.gbt ?_ | refine GX.gbf ?_ | refine GX.un ?_ | refine GX.un0 ?_) | apply GX.then_normal | apply GX.seq | apply GX.region | (apply GX.s_cond; first | refine GX.ct ?_ | refine GX.cf ?_ | refine GX.cdf ?_ | refine GX.cdt ?_ | refine GX.cbt ?_ | refine GX.cbf ?_) | apply GX.skip | apply GX.block | apply GX.inBlock_normal | apply GX.exit | apply GX.then_exit | apply GX.inBlock_exit | refine GX.ibo ?_ | apply GX.ret | apply GX.then_ret | apply GX.inBlock_ret)
    refine GX.o (cl (compact_spec (some ⟨s, 0, none⟩) (targets x k).length (sorted L) (by omega)) fun _ => ?_)
    repeat (first | (apply GX.s_list; first | apply GX.nil | (refine GX.o ?_; first | (apply GX.k_load; first | refine GX.lr ?_ | refine GX.lrA ?_ | refine GX.ln ?_ | refine GX.lb ?_ | refine GX.lh ?_ | (refine GX.ls ?_; intro ao cap _ _) | (refine GX.lA ?_; intro cs) | (refine GX.l0 ?_; intro cs) | refine GX.o1n ?_ | refine GX.o1b ?_ | refine GX.o1h ?_ | (refine GX.o1s ?_; intro ao cap _ _) | refine GX.omn ?_ | refine GX.omb ?_ | refine GX.omh ?_ | (refine GX.oms ?_; intro ao cap _ _) | refine GX.ofn ?_ | refine GX.ofb ?_ | refine GX.ofh ?_ | (refine GX.ofs ?_; intro ao cap _ _) | (refine GX.oA ?_; intro cs)) | (apply GX.k_move; refine GX.m ?_) | (apply GX.k_indexAddr; first | refine GX.io1 ?_ | refine GX.ioh ?_ | refine GX.i1 ?_ | refine GX.ih ?_ | (refine GX.ix ?_; intro bl o)) | (apply GX.k_binOp_lss; refine GX.b_lss ?_) | (apply GX.k_binOp_add; first | refine GX.b_inc ?_ | refine GX.b_add ?_ | refine GX.b_addw ?_) | (apply GX.k_assign; refine GX.a ?_) | (apply GX.k_fieldAddr; first | refine GX.f0 ?_ | refine GX.fh ?_ | refine GX.fa ?_) | (apply GX.k_call; refine GX.c_len ?_) | (apply GX.k_pick; first | refine GX.pt ?_ | refine GX.pf ?_ | refine GX.pk ?_) | (apply GX.k_store; first | refine GX.stW ?_ | refine GX.stB ?_ | refine GX.stR ?_ | refine GX.stRW ?_ | refine GX.so1 ?_ | refine GX.som ?_ | refine GX.sof ?_ | refine GX.sog ?_) | (apply GX.k_box; first | (refine GX.bxF ?_; intro _) | (refine GX.bxR ?_; intro _)) | (apply GX.k_buildSlice; (refine GX.sl ?_; intro _)) | (apply GX.k_alloc; (refine GX.al ?_; intro _)) | (apply GX.k_makeFunc; refine GX.mkf ?_) | (apply GX.k_binOp_eql; first | refine GX.b_eql ?_ | refine GX.b_pn ?_ | refine GX.b_nn ?_ | refine GX.b_snn ?_ | refine GX.b_sns ?_ | refine GX.b_eqls ?_ | refine GX.b_eqltf ?_ | refine GX.b_eqlft ?_ | refine GX.b_eqlb ?_) | (apply GX.k_binOp_geq; refine GX.b_geq ?_)) | refine GX.gt ?_ | refine GX.gf ?_ | refine GX.gbt ?_ | refine GX.gbf ?_ | refine GX.un ?_ | refine GX.un0 ?_) | apply GX.then_normal | apply GX.seq | apply GX.region | (apply GX.s_cond; first | refine GX.ct ?_ | refine GX.cf ?_ | refine GX.cdf ?_ | refine GX.cdt ?_ | refine GX.cbt ?_ | refine GX.cbf ?_) | apply GX.skip | apply GX.block | apply GX.inBlock_normal | apply GX.exit | apply GX.then_exit | apply GX.inBlock_exit | refine GX.ibo ?_ | apply GX.ret | apply GX.then_ret | apply GX.inBlock_ret)
    refine frz (some ⟨s, 0, none⟩) ?_
    exact rt1 (_, _) rfl
end Go.Proofs.Ytnpbadghodkhlaa

/- slices.Clone over ints. -/
namespace Go.Proofs.Ytnpbadghodkhlaa
open Go Go.RR Go.RX Go.GX
attribute [local irreducible] wpList Code.wp wpPlan Exit.then Exit.inBlock bodyPost NoPanic Went GX.Post GX.Again GX.Meet GX.RowR GX.Own GX.Owns GX.Box GX.Sl GX.Pt GX.Ag GX.MapR GX.Kept GX.Pin

theorem clone_spec (ao : Option Addr) (cap : Nat) (xs : List Int) (hl : xs.length ≤ 17592186043904) : Does Try.prog 36 [.slice ao xs.length cap] [Sl Ty.int ao cap xs] []
    (fun s : Option Addr × Nat => .slice s.1 xs.length s.2) (fun _ => []) (fun s => [Own 3 Ty.int s.1 s.2 xs]) := by
  refine enter Try.func36 rfl Try.ntmps36 rfl fun b => ?_
  refine sln ao fun h1 h2 h3 => ?_
  cases ao with
  | none =>
    have hx : xs = [] := Classical.byContradiction fun h => by obtain ⟨_, _, h⟩ := h3 h; cases h
    subst hx
    rw [List.length_nil]
    have hc : cap = cap := rfl
    repeat (first | (apply GX.s_list; first | apply GX.nil | (refine GX.o ?_; first | (apply GX.k_move; refine GX.m ?_) | (apply GX.k_assign; refine GX.a ?_) | (apply GX.k_call; first | (refine GX.ap ?_; intro _ _) | (refine GX.ap0 ?_; intro _ _)) | (apply GX.k_buildSlice; (refine GX.sl ?_; intro _)) | (apply GX.k_binOp_eql; first | refine GX.b_eql ?_ | refine GX.b_pn ?_ | refine GX.b_nn ?_ | refine GX.b_snn ?_ | refine GX.b_sns ?_ | refine GX.b_eqls ?_ | refine GX.b_eqltf ?_ | refine GX.b_eqlft ?_ | refine GX.b_eqlb ?_)) | refine GX.gt ?_ | refine GX.gf ?_ | refine GX.gbt ?_ | refine GX.gbf ?_ | refine GX.un ?_ | refine GX.un0 ?_) | apply GX.then_normal | apply GX.seq | apply GX.region | (apply GX.s_cond; first | refine GX.ct ?_ | refine GX.cf ?_ | refine GX.cdf ?_ | refine GX.cdt ?_ | refine GX.cbt ?_ | refine GX.cbf ?_) | apply GX.skip | apply GX.block | apply GX.inBlock_normal | apply GX.exit | apply GX.then_exit | apply GX.inBlock_exit | refine GX.ibo ?_ | apply GX.ret | apply GX.then_ret | apply GX.inBlock_ret)
    refine ownNil 3 Ty.int ?_
    exact rt1 (none, 0) rfl
  | some a =>
    repeat (first | (apply GX.s_list; first | apply GX.nil | (refine GX.o ?_; first | (apply GX.k_move; refine GX.m ?_) | (apply GX.k_assign; refine GX.a ?_) | (apply GX.k_call; first | (refine GX.ap ?_; intro _ _) | (refine GX.ap0 ?_; intro _ _)) | (apply GX.k_buildSlice; (refine GX.slo ?_; intro _)) | (apply GX.k_binOp_eql; first | refine GX.b_eql ?_ | refine GX.b_pn ?_ | refine GX.b_nn ?_ | refine GX.b_snn ?_ | refine GX.b_sns ?_ | refine GX.b_eqls ?_ | refine GX.b_eqltf ?_ | refine GX.b_eqlft ?_ | refine GX.b_eqlb ?_)) | refine GX.gt ?_ | refine GX.gf ?_ | refine GX.gbt ?_ | refine GX.gbf ?_ | refine GX.un ?_ | refine GX.un0 ?_) | apply GX.then_normal | apply GX.seq | apply GX.region | (apply GX.s_cond; first | refine GX.ct ?_ | refine GX.cf ?_ | refine GX.cdf ?_ | refine GX.cdt ?_ | refine GX.cbt ?_ | refine GX.cbf ?_) | apply GX.skip | apply GX.block | apply GX.inBlock_normal | apply GX.exit | apply GX.then_exit | apply GX.inBlock_exit | refine GX.ibo ?_ | apply GX.ret | apply GX.then_ret | apply GX.inBlock_ret)
    exact rt1 (_, _) rfl
end Go.Proofs.Ytnpbadghodkhlaa

/- The plain mathematics of chapter 16: which variables are live. No program in sight. -/
namespace Go.LivM
open Go.RiseM Go.Api Go.FlowM

/-- The numbers that an instruction asks. -/
def asks (x : Ins) : List Int :=
  if x.op = 3 ∨ x.op = 5 ∨ x.op = 6 ∨ x.op = 10 ∨ x.op = 12 then [x.b]
  else if x.op = 4 ∨ x.op = 8 then [x.b, x.c]
  else if x.op = 7 then [x.a, x.b]
  else if x.op = 9 then [x.a, x.b, x.c]
  else if x.op = 13 then x.args
  else if x.op = 15 ∨ x.op = 17 ∨ x.op = 18 ∨ x.op = 20 then [x.a]
  else []
def uses (x : Ins) : List Int := puts ((asks x).filter fun y => decide (In 4000 y))
abbrev Sets (op : Int) : Prop := op = 1 ∨ op = 2 ∨ op = 3 ∨ op = 4 ∨ op = 5 ∨ op = 6 ∨ op = 8 ∨ op = 10 ∨ op = 11 ∨ op = 12 ∨ op = 13 ∨ op = 14 ∨ op = 19
def def_ (x : Ins) : Int := if Sets x.op ∧ In 4000 x.a then x.a else -1
theorem uses_rise (x : Ins) : Rise (uses x) := (puts_spec _).1
theorem uses_in {x : Ins} {v : Int} : v ∈ uses x ↔ v ∈ asks x ∧ In 4000 v := by
  unfold uses
  rw [(puts_spec _).2, List.mem_filter, decide_eq_true_iff]
theorem rise_len : ∀ (l : List Int) (m : Int) (n : Nat), Rise l → (∀ x ∈ l, m ≤ x ∧ x < m + n) → l.length ≤ n
  | [], _, _, _, _ => Nat.zero_le _
  | x :: l, m, n, hr, h => by
    obtain ⟨h1, h2⟩ := List.pairwise_cons.1 hr
    have hx := h x (by simp)
    cases n with
    | zero => omega
    | succ n =>
      have := rise_len l (m + 1) n h2 fun y hy => by
        have := h1 y hy
        have := h y (by simp [hy])
        omega
      rw [List.length_cons]; omega
theorem uses_len (x : Ins) : (uses x).length ≤ 4000 := rise_len _ 0 4000 (uses_rise x) fun v hv => by have := (uses_in.1 hv).2; omega
/-- A variable is live ahead of an instruction. -/
inductive Live (ins : List Ins) : Nat → Int → Prop where
  | use {i : Nat} {x : Ins} {v : Int} (h : ins[i]? = some x) (hv : v ∈ uses x) : Live ins i v
  | pass {i j : Nat} {x : Ins} {v : Int} (h : ins[i]? = some x) (hd : def_ x ≠ v) (hj : (j : Int) ∈ next ins i) (hl : Live ins j v) : Live ins i v
theorem Live.var {ins : List Ins} {i : Nat} {v : Int} (h : Live ins i v) : In 4000 v := by
  induction h with
  | use _ hv => exact (uses_in.1 hv).2
  | pass _ _ _ _ ih => exact ih
theorem Live.lt {ins : List Ins} {i : Nat} {v : Int} (h : Live ins i v) : i < ins.length := by
  cases h with
  | use h _ => exact (List.getElem?_eq_some_iff.1 h).1
  | pass h _ _ _ => exact (List.getElem?_eq_some_iff.1 h).1
/-- One step back. -/
def Step (ins : List Ins) (H : Nat → Int → Prop) (i : Nat) (v : Int) : Prop := ∃ x, ins[i]? = some x ∧ (v ∈ uses x ∨ def_ x ≠ v ∧ ∃ j : Nat, (j : Int) ∈ next ins i ∧ H j v)
theorem step_mono {ins : List Ins} {H H' : Nat → Int → Prop} (h : ∀ i v, H i v → H' i v) {i : Nat} {v : Int} (hs : Step ins H i v) : Step ins H' i v := by
  obtain ⟨x, hx, h1 | ⟨h1, j, h2, h3⟩⟩ := hs
  · exact ⟨x, hx, .inl h1⟩
  · exact ⟨x, hx, .inr ⟨h1, j, h2, h j v h3⟩⟩
/-- What holds on the way: nothing but what is live, and nothing without a reason. -/
structure Inv (ins : List Ins) (H : Nat → Int → Prop) : Prop where
  live : ∀ i v, H i v → Live ins i v
  step : ∀ i v, H i v → Step ins H i v
theorem Inv.stepLive {ins : List Ins} {H : Nat → Int → Prop} (h : Inv ins H) {i : Nat} {v : Int} (hs : Step ins H i v) : Live ins i v := by
  obtain ⟨x, hx, h1 | ⟨h1, j, h2, h3⟩⟩ := hs
  · exact .use hx h1
  · exact .pass hx h1 h2 (h.live j v h3)
theorem inv_set {ins : List Ins} {H H' : Nat → Int → Prop} (h : Inv ins H) {k : Nat} (h1 : ∀ v, H' k v ↔ Step ins H k v) (h2 : ∀ i v, i ≠ k → (H' i v ↔ H i v)) : Inv ins H' ∧ ∀ i v, H i v → H' i v := by
  have up : ∀ i v, H i v → H' i v := fun i v hi => by
    by_cases e : i = k
    · subst e; exact (h1 v).2 (h.step i v hi)
    · exact (h2 i v e).2 hi
  refine ⟨⟨fun i v hi => ?_, fun i v hi => ?_⟩, up⟩
  · by_cases e : i = k
    · subst e; exact h.stepLive ((h1 v).1 hi)
    · exact h.live i v ((h2 i v e).1 hi)
  · by_cases e : i = k
    · subst e; exact step_mono up ((h1 v).1 hi)
    · exact step_mono up (h.step i v ((h2 i v e).1 hi))
theorem inv_none {ins : List Ins} {H : Nat → Int → Prop} (h : ∀ i v, ¬ H i v) : Inv ins H := ⟨fun i v k => absurd k (h i v), fun i v k => absurd k (h i v)⟩
/-- When nothing more comes, all that is live is there. -/
theorem fix_live {ins : List Ins} {H : Nat → Int → Prop} (h : ∀ i v, Step ins H i v → H i v) {i : Nat} {v : Int} (hl : Live ins i v) : H i v := by
  induction hl with
  | use hx hv => exact h _ _ ⟨_, hx, .inl hv⟩
  | pass hx hd hj _ ih => exact h _ _ ⟨_, hx, .inr ⟨hd, _, hj, ih⟩⟩

/-! ### How much there is -/
def vars : List Int := (List.range 4000).map fun k => ((k : Nat) : Int)
theorem mem_vars {v : Int} : v ∈ vars ↔ In 4000 v := by
  unfold vars
  simp only [List.mem_map, List.mem_range]
  constructor
  · rintro ⟨k, hk, rfl⟩; exact ⟨by omega, by omega⟩
  · rintro ⟨h1, h2⟩; exact ⟨v.toNat, by omega, by omega⟩
theorem vars_rise : Rise vars := by
  unfold Rise vars
  rw [List.pairwise_map]
  exact List.pairwise_lt_range.imp fun h => by omega
open Classical in
noncomputable def size (n : Nat) (H : Nat → Int → Prop) : Nat := ((List.range n).map fun i => vars.countP fun v => decide (H i v)).sum
theorem sum_le2 {l : List Nat} {f g : Nat → Nat} (h : ∀ x ∈ l, f x ≤ g x) : (l.map f).sum ≤ (l.map g).sum := by
  induction l with
  | nil => simp
  | cons x l ih =>
    have := h x (by simp)
    have := ih fun y hy => h y (by simp [hy])
    simp only [List.map_cons, List.sum_cons]; omega
theorem sum_lt2 {l : List Nat} {f g : Nat → Nat} (h : ∀ x ∈ l, f x ≤ g x) {k : Nat} (hk : k ∈ l) (hlt : f k < g k) : (l.map f).sum < (l.map g).sum := by
  induction l with
  | nil => simp at hk
  | cons x l ih =>
    simp only [List.map_cons, List.sum_cons]
    have h1 := h x (by simp)
    rcases List.mem_cons.1 hk with rfl | hk
    · have := sum_le2 fun y hy => h y (List.mem_cons_of_mem _ hy)
      omega
    · have := ih (fun y hy => h y (by simp [hy])) hk
      omega
theorem size_le (n : Nat) (H : Nat → Int → Prop) : size n H ≤ n * 4000 := by
  have h : ∀ m : Nat, ((List.range m).map fun _ => 4000).sum = m * 4000 := fun m => by
    induction m with
    | zero => rfl
    | succ m ih => rw [List.range_succ, List.map_append, List.sum_append, ih]; simp; omega
  rw [← h n]
  refine sum_le2 fun i _ => ?_
  refine Nat.le_trans List.countP_le_length ?_
  unfold vars; simp
theorem size_mono {n : Nat} {H H' : Nat → Int → Prop} (h : ∀ i v, H i v → H' i v) : size n H ≤ size n H' :=
  sum_le2 fun i _ => List.countP_mono_left fun v _ hv => by simpa using h i v (by simpa using hv)
theorem countP_lt {l : List Int} {p q : Int → Bool} (h : ∀ x ∈ l, p x = true → q x = true) {y : Int} (hy : y ∈ l) (h1 : p y = false) (h2 : q y = true) : l.countP p < l.countP q := by
  induction l with
  | nil => simp at hy
  | cons x l ih =>
    rw [List.countP_cons, List.countP_cons]
    rcases List.mem_cons.1 hy with rfl | hy
    · have := List.countP_mono_left (l := l) fun x hx => h x (List.mem_cons_of_mem _ hx)
      rw [h1, h2]; simp; omega
    · have := ih (fun x hx => h x (by simp [hx])) hy
      have h3 := h x (by simp)
      by_cases c : p x = true
      · rw [if_pos c, if_pos (h3 c)]; omega
      · rw [if_neg c]; omega
theorem size_lt {n : Nat} {H H' : Nat → Int → Prop} (h : ∀ i v, H i v → H' i v) {k : Nat} {v : Int} (hk : k < n) (hv : In 4000 v) (h1 : ¬ H k v) (h2 : H' k v) : size n H < size n H' :=
  sum_lt2 (fun i _ => List.countP_mono_left fun v _ hv => by simpa using h i v (by simpa using hv)) (List.mem_range.2 hk)
    (countP_lt (fun v _ hv => by simpa using h k v (by simpa using hv)) (mem_vars.2 hv) (by simpa using h1) (by simpa using h2))

/-! ### The answer -/
open Classical in
noncomputable def lives (ins : List Ins) (i : Nat) : List Int := vars.filter fun v => decide (Live ins i v)
open Classical in
theorem mem_lives {ins : List Ins} {i : Nat} {v : Int} : v ∈ lives ins i ↔ Live ins i v := by
  unfold lives
  rw [List.mem_filter, mem_vars, decide_eq_true_iff]
  exact ⟨fun h => h.2, fun h => ⟨h.var, h⟩⟩
theorem lives_rise (ins : List Ins) (i : Nat) : Rise (lives ins i) := vars_rise.filter _
noncomputable def befores (ins : List Ins) : List (List Int) := (List.range ins.length).map (lives ins)
theorem befores_len (ins : List Ins) : (befores ins).length = ins.length := by simp [befores]
theorem befores_get {ins : List Ins} {i : Nat} (h : i < ins.length) : (befores ins)[i]? = some (lives ins i) := by
  unfold befores
  rw [List.getElem?_map, List.getElem?_range h]; rfl
theorem befores_of {ins : List Ins} {l : List (List Int)} (hl : l.length = ins.length) (h : ∀ i s, l[i]? = some s → Rise s ∧ ∀ v, v ∈ s ↔ Live ins i v) : l = befores ins := by
  refine List.ext_getElem? fun i => ?_
  by_cases hi : i < ins.length
  · obtain ⟨s, hs⟩ : ∃ s, l[i]? = some s := ⟨l[i], List.getElem?_eq_getElem (by omega)⟩
    rw [befores_get hi, hs]
    obtain ⟨h1, h2⟩ := h i s hs
    rw [Rise.eq h1 (lives_rise ins i) fun v => by rw [h2, mem_lives]]
  · rw [List.getElem?_eq_none (by omega), List.getElem?_eq_none (by rw [befores_len]; omega)]
end Go.LivM
