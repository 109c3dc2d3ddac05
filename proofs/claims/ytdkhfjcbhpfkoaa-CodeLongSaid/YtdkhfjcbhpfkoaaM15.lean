import Derived.Test.YtdkhfjcbhpfkoaaM9
import Derived.Test.YtdkhfjcbhpfkoaaM10
import Derived.Test.YtdkhfjcbhpfkoaaM12
import Derived.Test.YtdkhfjcbhpfkoaaM13
import Derived.Test.YtdkhfjcbhpfkoaaM14
/- The walks over the writer of package code. -/
namespace Go.Proofs.Ytdkhfjcbhpfkoaa
open Go Go.RR Go.RX Go.GX Go.Api Go.NumM
attribute [local irreducible] wpList Code.wp wpPlan Exit.then Exit.inBlock bodyPost NoPanic Went GX.Post GX.Again GX.Meet GX.RowR GX.Own GX.Owns GX.Box GX.Sl GX.Pt GX.Ag GX.MapR GX.Kept GX.Pin wpT GoK AtEnd Both
abbrev AC := Option Addr × Nat
structure WrS where
  c : AC
  i : Nat
  D : List Int
set_option maxHeartbeats 1000000 in
theorem wnums_spec (p : Nat) (c : AC) (B : List Int) (ao : Option Addr) (cap : Nat) (l : List Int) (hl : ∀ x ∈ l, I64 x) (hb : (B ++ encs l).length ≤ 1000000000) :
    Does Try.prog 22 [.pointer (some ⟨p, 0, none⟩), .slice ao l.length cap] [Sl Ty.int ao cap l] [RowR p 52 [.slice c.1 B.length c.2], Own 5 Ty.byte c.1 c.2 B] (fun _ : AC => .tuple #[]) (fun _ => []) (fun r => [RowR p 52 [.slice r.1 (B ++ encs l).length r.2], Own 5 Ty.byte r.1 r.2 (B ++ encs l)]) := by
  refine enter Try.func22 rfl Try.ntmps22 rfl fun b => ?_
  obtain ⟨aB, cB⟩ := c
  rw [List.length_append] at hb
  refine sln ao fun h1 h2 _ => ?_
  refine GX.wR ?_; intros
  refine GX.loop (σ := WrS) (fun q => [(0, .pointer (some ⟨p, 0, none⟩)), (6, .slice ao l.length cap), (7, .int .i64 (l.length : Int)), (8, .int .i64 (q.i : Int))]) (fun _ => []) (fun q => [RowR p 52 [.slice q.c.1 q.D.length q.c.2], Own 5 Ty.byte q.c.1 q.c.2 q.D])
    (fun q => q.i ≤ l.length ∧ q.D = B ++ encs (l.take q.i)) (fun q => l.length - q.i) ⟨(aB, cB), 0, B⟩ ⟨rfl, rfl, rfl, rfl, trivial⟩ ⟨Nat.zero_le _, by simp [encs]⟩ (fun q hq => ?_)
  obtain ⟨⟨aB, cB⟩, i, D⟩ := q
  obtain ⟨hi, hD⟩ := hq
  dsimp only at *
  by_cases hlt : i < l.length
  · obtain ⟨x, hx⟩ := get_lt hlt
    have hx64 := hl x (List.mem_of_getElem? hx)
    have hsn := encs_snoc hx
    have htk := encs_take l (i + 1)
    rw [hsn, List.length_append] at htk
    have hml : D.length ≤ 1000000000 := by rw [hD, List.length_append]; omega
    have hnl := num_len x hx64
    refine GX.wR ?_; intros
    refine GX.drawn1 (RowR p 52 _) (fun j => !(List.contains [7, 10] j)) [(0, true), (1, true), (2, true), (3, true), (4, true), (5, true), (6, false), (7, false), (8, true), (9, true), (10, false)] rfl (by kernel_rfl) (by kernel_rfl) (by first | ((repeat (first | apply Go.GX.SelR.nil | apply Go.GX.SelR.cons | (with_reducible apply Go.GX.TakeR.head) | apply Go.GX.TakeR.tail)); done) | (repeat (first | apply Go.GX.SelR.nil | apply Go.GX.SelR.cons | apply Go.GX.TakeR.head | apply Go.GX.TakeR.tail))) ?_; intro wd F hW hR
    refine GX.wT ?_; intros
    refine GX.gow ?_
    refine (cl (num_spec x hx64) fun s => ?_)
    obtain ⟨a1, c1⟩ := s
    dsimp only
    refine frz a1 ?_
    refine GX.wT ?_; intros
    refine GX.unpin (RowR p 52 _) ?_
    refine GX.wT ?_; intros
    refine GX.wR ?_; intros
    refine GX.nmS 19 ?_; rintro a9 c9 rfl rfl
    exact again ⟨(a9, c9), i + 1, D ++ num x⟩ ⟨rfl, rfl, rfl, rfl, trivial⟩ ⟨by dsimp only; omega, by dsimp only; rw [hD, List.append_assoc, ← hsn]⟩ (by dsimp only; omega)
  · rw [List.take_of_length_le (by omega)] at hD
    subst hD
    refine GX.wR ?_; intros
    exact en0 ((aB, cB) : AC)
/-- The lengths of what stands behind. -/
theorem wlist_spec (p : Nat) (c : AC) (B : List Int) (ao : Option Addr) (cap : Nat) (l : List Int) (hl : ∀ x ∈ l, I64 x) (hb : (B ++ encL l).length ≤ 1000000000) :
    Does Try.prog 24 [.pointer (some ⟨p, 0, none⟩), .slice ao l.length cap] [Sl Ty.int ao cap l] [RowR p 52 [.slice c.1 B.length c.2], Own 5 Ty.byte c.1 c.2 B] (fun _ : AC => .tuple #[]) (fun _ => []) (fun r => [RowR p 52 [.slice r.1 (B ++ encL l).length r.2], Own 5 Ty.byte r.1 r.2 (B ++ encL l)]) := by
  refine enter Try.func24 rfl Try.ntmps24 rfl fun b => ?_
  have hb2 := hb
  unfold encL at hb2
  rw [List.length_append, List.length_append] at hb2
  refine sln ao fun h1 h2 _ => ?_
  refine GX.wR ?_; intros
  refine GX.nmB 7 ?_; rintro b7 rfl
  refine GX.o (cl (wnums_spec p c B (some ⟨b7, 0, none⟩) 1 [(l.length : Int)] (by intro x hx; simp at hx; subst hx; exact ⟨by omega, by omega⟩) (by rw [encs_one, List.length_append]; omega)) fun s => ?_)
  rw [encs_one]
  refine GX.wR ?_; intros
  refine GX.o (cl (wnums_spec p s (B ++ num (l.length : Int)) ao cap l hl (by rw [List.length_append, List.length_append]; omega)) fun s => ?_)
  rw [List.append_assoc, show num (l.length : Int) ++ encs l = encL l from rfl]
  refine GX.wR ?_; intros
  exact en0 s
theorem wclass_spec (p : Nat) (c : AC) (B : List Int) (cs : List Value) (L : Layout) (hl : Layout.ok L) (hb : (B ++ encC L).length ≤ 1000000000) :
    Does Try.prog 23 [.pointer (some ⟨p, 0, none⟩), .agg cs.toArray] [Ag tyLayout cs L] [RowR p 52 [.slice c.1 B.length c.2], Own 5 Ty.byte c.1 c.2 B] (fun _ : AC => .tuple #[]) (fun _ => []) (fun r => [RowR p 52 [.slice r.1 (B ++ encC L).length r.2], Own 5 Ty.byte r.1 r.2 (B ++ encC L)]) := by
  refine enter Try.func23 rfl Try.ntmps23 rfl fun b => ?_
  have hb2 := hb
  unfold encC at hb2
  rw [List.length_append, List.length_append] at hb2
  by_cases ha : L.arr = true
  · have e : encC L = num 1 ++ encL L.refs := by unfold encC; rw [if_pos ha]
    rw [if_pos ha] at hb2
    refine GX.wR ?_; intros
    refine GX.nmB 9 ?_; rintro b9 rfl
    refine GX.o (cl (wnums_spec p c B (some ⟨b9, 0, none⟩) 1 [1] (by intro x hx; simp at hx; subst hx; exact ⟨by omega, by omega⟩) (by rw [encs_one, List.length_append]; omega)) fun s => ?_)
    rw [encs_one]
    refine GX.wR ?_; intros
    refine GX.nmS 13 ?_; rintro a13 c13 rfl rfl
    refine GX.o (cl (wlist_spec p s (B ++ num 1) a13 c13 L.refs hl (by rw [List.length_append, List.length_append]; omega)) fun s => ?_)
    rw [List.append_assoc, ← e]
    refine GX.wR ?_; intros
    exact en0 s
  · have ha' : L.arr = false := by simpa using ha
    have e : encC L = num 0 ++ encL L.refs := by unfold encC; rw [if_neg ha]
    rw [if_neg ha] at hb2
    refine GX.wR ?_; intros
    refine GX.nmB 9 ?_; rintro b9 rfl
    refine GX.o (cl (wnums_spec p c B (some ⟨b9, 0, none⟩) 1 [0] (by intro x hx; simp at hx; subst hx; exact ⟨by omega, by omega⟩) (by rw [encs_one, List.length_append]; omega)) fun s => ?_)
    rw [encs_one]
    refine GX.wR ?_; intros
    refine GX.nmS 13 ?_; rintro a13 c13 rfl rfl
    refine GX.o (cl (wlist_spec p s (B ++ num 0) a13 c13 L.refs hl (by rw [List.length_append, List.length_append]; omega)) fun s => ?_)
    rw [List.append_assoc, ← e]
    refine GX.wR ?_; intros
    exact en0 s
end Go.Proofs.Ytdkhfjcbhpfkoaa

/- The walks over the reader of package code: num, many. -/
namespace Go.Proofs.Ytdkhfjcbhpfkoaa
open Go Go.RR Go.RX Go.GX Go.Api Go.NumM
attribute [local irreducible] wpList Code.wp wpPlan Exit.then Exit.inBlock bodyPost NoPanic Went GX.Post GX.Again GX.Meet GX.RowR GX.Own GX.Owns GX.Box GX.Sl GX.Pt GX.Ag GX.MapR GX.Kept GX.Pin

structure RnS where
  i : Nat
  v : Int
set_option maxHeartbeats 2000000 in
theorem rdNum_spec (p : Nat) (c : AC) (D : List Int) (d : Bool) :
    Does Try.prog 41 [.pointer (some ⟨p, 0, none⟩)] [Sl Ty.byte c.1 c.2 D] [RowR p 60 [.slice c.1 D.length c.2, .bool d]] (fun s : RdnS num I64 D d => .int .i64 s.x) (fun s => [Sl Ty.byte s.c.1 s.c.2 s.D2]) (fun s => [RowR p 60 [.slice s.c.1 s.D2.length s.c.2, .bool s.d2]]) := by
  refine enter Try.func41 rfl Try.ntmps41 rfl fun b => ?_
  obtain ⟨ao, cap⟩ := c
  dsimp only
  refine sln ao fun hn1 hn2 _ => ?_
  repeat (first | (apply GX.s_list; first | apply GX.nil | (refine GX.o ?_; first | (apply GX.k_load; first | refine GX.lr ?_ | refine GX.lrA ?_ | refine GX.ln ?_ | refine GX.lb ?_ | refine GX.lh ?_ | (refine GX.ls ?_; intro ao cap _ _) | (refine GX.lA ?_; intro cs) | (refine GX.l0 ?_; intro cs) | refine GX.o1n ?_ | refine GX.o1b ?_ | refine GX.o1h ?_ | (refine GX.o1s ?_; intro ao cap _ _) | refine GX.omn ?_ | refine GX.omb ?_ | refine GX.omh ?_ | (refine GX.oms ?_; intro ao cap _ _) | refine GX.ofn ?_ | refine GX.ofb ?_ | refine GX.ofh ?_ | (refine GX.ofs ?_; intro ao cap _ _) | (refine GX.oA ?_; intro cs)) | (apply GX.k_move; refine GX.m ?_) | (apply GX.k_indexAddr; first | refine GX.io1 ?_ | refine GX.ioh ?_ | refine GX.i1 ?_ | refine GX.ih ?_ | (refine GX.ix ?_; intro bl o)) | (apply GX.k_binOp_lss; refine GX.b_lss ?_) | (apply GX.k_binOp_add; first | refine GX.b_inc ?_ | refine GX.b_add ?_ | refine GX.b_addw ?_) | (apply GX.k_assign; refine GX.a ?_) | (apply GX.k_fieldAddr; first | refine GX.f0 ?_ | refine GX.fh ?_ | refine GX.fa ?_) | (apply GX.k_call; refine GX.c_len ?_) | (apply GX.k_store; first | refine GX.stW ?_ | refine GX.stB ?_ | refine GX.stR ?_ | refine GX.stRW ?_ | refine GX.so1 ?_ | refine GX.som ?_ | refine GX.sof ?_ | refine GX.sog ?_) | (apply GX.k_slice; first | (refine GX.ch ?_; intro q) | (refine GX.cl_ ?_; intro q) | (refine GX.cb_ ?_; intro q)) | (apply GX.k_unOp; first | refine GX.nt ?_ | refine GX.nf ?_ | refine GX.nd ?_ | refine GX.n_ ?_ | refine GX.u_cpl ?_) | (apply GX.k_nilCheck; refine GX.nc ?_) | (apply GX.k_convert; first | refine GX.cv ?_ | refine GX.cvs ?_) | (apply GX.k_binOp_and; first | refine GX.b_and ?_ | refine GX.b_andv ?_) | (apply GX.k_binOp_eql; first | refine GX.b_eql ?_ | refine GX.b_pn ?_ | refine GX.b_nn ?_ | refine GX.b_snn ?_ | refine GX.b_sns ?_ | refine GX.b_eqls ?_ | refine GX.b_eqltf ?_ | refine GX.b_eqlft ?_ | refine GX.b_eqlb ?_ | refine GX.b_seq ?_) | (apply GX.k_binOp_geq; refine GX.b_geq ?_) | (refine GX.b_andNotv ?_) | (refine GX.b_orv ?_) | (refine GX.b_shl ?_) | (refine GX.b_shr ?_)) | refine GX.gt ?_ | refine GX.gf ?_ | refine GX.gbt ?_ | refine GX.gbf ?_ | refine GX.un ?_ | refine GX.un0 ?_) | apply GX.then_normal | apply GX.seq | apply GX.region | (apply GX.s_cond; first | refine GX.ct ?_ | refine GX.cf ?_ | refine GX.cdf ?_ | refine GX.cdt ?_ | refine GX.cbt ?_ | refine GX.cbf ?_) | apply GX.skip | apply GX.block | apply GX.inBlock_normal | apply GX.exit | apply GX.then_exit | apply GX.inBlock_exit | refine GX.ibo ?_ | apply GX.ret | apply GX.then_ret | apply GX.inBlock_ret)
  refine GX.loop (σ := RnS) (fun q => [(0, .pointer (some ⟨p, 0, none⟩)), (3, .int .u64 q.v), (4, .int .i64 ((7 * q.i : Nat) : Int)), (11, .slice ao D.length cap), (12, .int .i64 (D.length : Int)), (13, .int .i64 (q.i : Int))]) (fun _ => []) (fun q => [RowR p 60 [.slice (ao, cap).1 D.length (ao, cap).2, .bool d]])
    (fun q => q.i ≤ D.length ∧ q.i ≤ 10 ∧ Mid D q.i q.v) (fun q => D.length - q.i) ⟨0, 0⟩ ⟨rfl, rfl, rfl, rfl, rfl, rfl, trivial⟩ ⟨Nat.zero_le _, by decide, mid0 D⟩ (fun q hq => ?_)
  obtain ⟨i, v⟩ := q
  obtain ⟨h1, h2, h3⟩ := hq
  dsimp only at *
  by_cases hlt : i < D.length
  · obtain ⟨x, hx⟩ := get_lt hlt
    by_cases h64 : 10 ≤ i
    · repeat (first | (apply GX.s_list; first | apply GX.nil | (refine GX.o ?_; first | (apply GX.k_load; first | refine GX.lr ?_ | refine GX.lrA ?_ | refine GX.ln ?_ | refine GX.lb ?_ | refine GX.lh ?_ | (refine GX.ls ?_; intro ao cap _ _) | (refine GX.lA ?_; intro cs) | (refine GX.l0 ?_; intro cs) | refine GX.o1n ?_ | refine GX.o1b ?_ | refine GX.o1h ?_ | (refine GX.o1s ?_; intro ao cap _ _) | refine GX.omn ?_ | refine GX.omb ?_ | refine GX.omh ?_ | (refine GX.oms ?_; intro ao cap _ _) | refine GX.ofn ?_ | refine GX.ofb ?_ | refine GX.ofh ?_ | (refine GX.ofs ?_; intro ao cap _ _) | (refine GX.oA ?_; intro cs)) | (apply GX.k_move; refine GX.m ?_) | (apply GX.k_indexAddr; first | refine GX.io1 ?_ | refine GX.ioh ?_ | refine GX.i1 ?_ | refine GX.ih ?_ | (refine GX.ix ?_; intro bl o)) | (apply GX.k_binOp_lss; refine GX.b_lss ?_) | (apply GX.k_binOp_add; first | refine GX.b_inc ?_ | refine GX.b_add ?_ | refine GX.b_addw ?_) | (apply GX.k_assign; refine GX.a ?_) | (apply GX.k_fieldAddr; first | refine GX.f0 ?_ | refine GX.fh ?_ | refine GX.fa ?_) | (apply GX.k_call; refine GX.c_len ?_) | (apply GX.k_store; first | refine GX.stW ?_ | refine GX.stB ?_ | refine GX.stR ?_ | refine GX.stRW ?_ | refine GX.so1 ?_ | refine GX.som ?_ | refine GX.sof ?_ | refine GX.sog ?_) | (apply GX.k_slice; first | (refine GX.ch ?_; intro q) | (refine GX.cl_ ?_; intro q) | (refine GX.cb_ ?_; intro q)) | (apply GX.k_unOp; first | refine GX.nt ?_ | refine GX.nf ?_ | refine GX.nd ?_ | refine GX.n_ ?_ | refine GX.u_cpl ?_) | (apply GX.k_nilCheck; refine GX.nc ?_) | (apply GX.k_convert; first | refine GX.cv ?_ | refine GX.cvs ?_) | (apply GX.k_binOp_and; first | refine GX.b_and ?_ | refine GX.b_andv ?_) | (apply GX.k_binOp_eql; first | refine GX.b_eql ?_ | refine GX.b_pn ?_ | refine GX.b_nn ?_ | refine GX.b_snn ?_ | refine GX.b_sns ?_ | refine GX.b_eqls ?_ | refine GX.b_eqltf ?_ | refine GX.b_eqlft ?_ | refine GX.b_eqlb ?_ | refine GX.b_seq ?_) | (apply GX.k_binOp_geq; refine GX.b_geq ?_) | (refine GX.b_andNotv ?_) | (refine GX.b_orv ?_) | (refine GX.b_shl ?_) | (refine GX.b_shr ?_)) | refine GX.gt ?_ | refine GX.gf ?_ | refine GX.gbt ?_ | refine GX.gbf ?_ | refine GX.un ?_ | refine GX.un0 ?_) | apply GX.then_normal | apply GX.seq | apply GX.region | (apply GX.s_cond; first | refine GX.ct ?_ | refine GX.cf ?_ | refine GX.cdf ?_ | refine GX.cdt ?_ | refine GX.cbt ?_ | refine GX.cbf ?_) | apply GX.skip | apply GX.block | apply GX.inBlock_normal | apply GX.exit | apply GX.then_exit | apply GX.inBlock_exit | refine GX.ibo ?_ | apply GX.ret | apply GX.then_ret | apply GX.inBlock_ret)
      refine slNil Ty.byte ?_
      exact rt1 (⟨0, (none, 0), [], true, rd_bad h3 (fun _ => .inr h64) (by simp)⟩ : RdnS num I64 D d) rfl
    · by_cases hb : x < 128
      · obtain ⟨V, hV⟩ : ∃ V, V = bOr .u64 v (shlV .u64 (IntKind.u64.wrap (bNot .u8 x 128)) ((7 * i : Nat) : Int)) := ⟨_, rfl⟩
        have hzz : zagP V = zagP (bOr .u64 v (shlV .u64 (IntKind.u64.wrap (bNot .u8 x 128)) ((7 * i : Nat) : Int))) := by rw [hV]
        by_cases hbit : bAnd .u64 V 1 = 1
        · have hz2 : zagP V = cplV .i64 (IntKind.i64.wrap (shrV .u64 V 1)) := if_pos hbit
          rw [hV] at hbit hz2
          have hbit2 := Classical.not_not.2 hbit
          repeat (first | (apply GX.s_list; first | apply GX.nil | (refine GX.o ?_; first | (apply GX.k_load; first | refine GX.lr ?_ | refine GX.lrA ?_ | refine GX.ln ?_ | refine GX.lb ?_ | refine GX.lh ?_ | (refine GX.ls ?_; intro ao cap _ _) | (refine GX.lA ?_; intro cs) | (refine GX.l0 ?_; intro cs) | refine GX.o1n ?_ | refine GX.o1b ?_ | refine GX.o1h ?_ | (refine GX.o1s ?_; intro ao cap _ _) | refine GX.omn ?_ | refine GX.omb ?_ | refine GX.omh ?_ | (refine GX.oms ?_; intro ao cap _ _) | refine GX.ofn ?_ | refine GX.ofb ?_ | refine GX.ofh ?_ | (refine GX.ofs ?_; intro ao cap _ _) | (refine GX.oA ?_; intro cs)) | (apply GX.k_move; refine GX.m ?_) | (apply GX.k_indexAddr; first | refine GX.io1 ?_ | refine GX.ioh ?_ | refine GX.i1 ?_ | refine GX.ih ?_ | (refine GX.ix ?_; intro bl o)) | (apply GX.k_binOp_lss; refine GX.b_lss ?_) | (apply GX.k_binOp_add; first | refine GX.b_inc ?_ | refine GX.b_add ?_ | refine GX.b_addw ?_) | (apply GX.k_assign; refine GX.a ?_) | (apply GX.k_fieldAddr; first | refine GX.f0 ?_ | refine GX.fh ?_ | refine GX.fa ?_) | (apply GX.k_call; refine GX.c_len ?_) | (apply GX.k_store; first | refine GX.stW ?_ | refine GX.stB ?_ | refine GX.stR ?_ | refine GX.stRW ?_ | refine GX.so1 ?_ | refine GX.som ?_ | refine GX.sof ?_ | refine GX.sog ?_) | (apply GX.k_slice; first | (refine GX.ch ?_; intro q) | (refine GX.cl_ ?_; intro q) | (refine GX.cb_ ?_; intro q)) | (apply GX.k_unOp; first | refine GX.nt ?_ | refine GX.nf ?_ | refine GX.nd ?_ | refine GX.n_ ?_ | refine GX.u_cpl ?_) | (apply GX.k_nilCheck; refine GX.nc ?_) | (apply GX.k_convert; first | refine GX.cv ?_ | refine GX.cvs ?_) | (apply GX.k_binOp_and; first | refine GX.b_and ?_ | refine GX.b_andv ?_) | (apply GX.k_binOp_eql; first | refine GX.b_eql ?_ | refine GX.b_pn ?_ | refine GX.b_nn ?_ | refine GX.b_snn ?_ | refine GX.b_sns ?_ | refine GX.b_eqls ?_ | refine GX.b_eqltf ?_ | refine GX.b_eqlft ?_ | refine GX.b_eqlb ?_ | refine GX.b_seq ?_) | (apply GX.k_binOp_geq; refine GX.b_geq ?_) | (refine GX.b_andNotv ?_) | (refine GX.b_orv ?_) | (refine GX.b_shl ?_) | (refine GX.b_shr ?_)) | refine GX.gt ?_ | refine GX.gf ?_ | refine GX.gbt ?_ | refine GX.gbf ?_ | refine GX.un ?_ | refine GX.un0 ?_) | apply GX.then_normal | apply GX.seq | apply GX.region | (apply GX.s_cond; first | refine GX.ct ?_ | refine GX.cf ?_ | refine GX.cdf ?_ | refine GX.cdt ?_ | refine GX.cbt ?_ | refine GX.cbf ?_) | apply GX.skip | apply GX.block | apply GX.inBlock_normal | apply GX.exit | apply GX.then_exit | apply GX.inBlock_exit | refine GX.ibo ?_ | apply GX.ret | apply GX.then_ret | apply GX.inBlock_ret)
          refine GX.nmS 38 ?_; rintro q9 c9 rfl rfl
          rw [show ((i + 1 : Nat) : Int).toNat = i + 1 from rfl]
          exact rt1 (⟨_, (_, _), D.drop (i + 1), d, rd_num h3 hx hb (low_p x) (.inl hz2.symm)⟩ : RdnS num I64 D d) rfl
        · have hz2 : zagP V = IntKind.i64.wrap (shrV .u64 V 1) := if_neg hbit
          rw [hV] at hbit hz2
          repeat (first | (apply GX.s_list; first | apply GX.nil | (refine GX.o ?_; first | (apply GX.k_load; first | refine GX.lr ?_ | refine GX.lrA ?_ | refine GX.ln ?_ | refine GX.lb ?_ | refine GX.lh ?_ | (refine GX.ls ?_; intro ao cap _ _) | (refine GX.lA ?_; intro cs) | (refine GX.l0 ?_; intro cs) | refine GX.o1n ?_ | refine GX.o1b ?_ | refine GX.o1h ?_ | (refine GX.o1s ?_; intro ao cap _ _) | refine GX.omn ?_ | refine GX.omb ?_ | refine GX.omh ?_ | (refine GX.oms ?_; intro ao cap _ _) | refine GX.ofn ?_ | refine GX.ofb ?_ | refine GX.ofh ?_ | (refine GX.ofs ?_; intro ao cap _ _) | (refine GX.oA ?_; intro cs)) | (apply GX.k_move; refine GX.m ?_) | (apply GX.k_indexAddr; first | refine GX.io1 ?_ | refine GX.ioh ?_ | refine GX.i1 ?_ | refine GX.ih ?_ | (refine GX.ix ?_; intro bl o)) | (apply GX.k_binOp_lss; refine GX.b_lss ?_) | (apply GX.k_binOp_add; first | refine GX.b_inc ?_ | refine GX.b_add ?_ | refine GX.b_addw ?_) | (apply GX.k_assign; refine GX.a ?_) | (apply GX.k_fieldAddr; first | refine GX.f0 ?_ | refine GX.fh ?_ | refine GX.fa ?_) | (apply GX.k_call; refine GX.c_len ?_) | (apply GX.k_store; first | refine GX.stW ?_ | refine GX.stB ?_ | refine GX.stR ?_ | refine GX.stRW ?_ | refine GX.so1 ?_ | refine GX.som ?_ | refine GX.sof ?_ | refine GX.sog ?_) | (apply GX.k_slice; first | (refine GX.ch ?_; intro q) | (refine GX.cl_ ?_; intro q) | (refine GX.cb_ ?_; intro q)) | (apply GX.k_unOp; first | refine GX.nt ?_ | refine GX.nf ?_ | refine GX.nd ?_ | refine GX.n_ ?_ | refine GX.u_cpl ?_) | (apply GX.k_nilCheck; refine GX.nc ?_) | (apply GX.k_convert; first | refine GX.cv ?_ | refine GX.cvs ?_) | (apply GX.k_binOp_and; first | refine GX.b_and ?_ | refine GX.b_andv ?_) | (apply GX.k_binOp_eql; first | refine GX.b_eql ?_ | refine GX.b_pn ?_ | refine GX.b_nn ?_ | refine GX.b_snn ?_ | refine GX.b_sns ?_ | refine GX.b_eqls ?_ | refine GX.b_eqltf ?_ | refine GX.b_eqlft ?_ | refine GX.b_eqlb ?_ | refine GX.b_seq ?_) | (apply GX.k_binOp_geq; refine GX.b_geq ?_) | (refine GX.b_andNotv ?_) | (refine GX.b_orv ?_) | (refine GX.b_shl ?_) | (refine GX.b_shr ?_)) | refine GX.gt ?_ | refine GX.gf ?_ | refine GX.gbt ?_ | refine GX.gbf ?_ | refine GX.un ?_ | refine GX.un0 ?_) | apply GX.then_normal | apply GX.seq | apply GX.region | (apply GX.s_cond; first | refine GX.ct ?_ | refine GX.cf ?_ | refine GX.cdf ?_ | refine GX.cdt ?_ | refine GX.cbt ?_ | refine GX.cbf ?_) | apply GX.skip | apply GX.block | apply GX.inBlock_normal | apply GX.exit | apply GX.then_exit | apply GX.inBlock_exit | refine GX.ibo ?_ | apply GX.ret | apply GX.then_ret | apply GX.inBlock_ret)
          rw [show ((i + 1 : Nat) : Int).toNat = i + 1 from rfl]
          exact rt1 (⟨_, (_, _), D.drop (i + 1), d, rd_num h3 hx hb (low_p x) (.inl hz2.symm)⟩ : RdnS num I64 D d) rfl
      · repeat (first | (apply GX.s_list; first | apply GX.nil | (refine GX.o ?_; first | (apply GX.k_load; first | refine GX.lr ?_ | refine GX.lrA ?_ | refine GX.ln ?_ | refine GX.lb ?_ | refine GX.lh ?_ | (refine GX.ls ?_; intro ao cap _ _) | (refine GX.lA ?_; intro cs) | (refine GX.l0 ?_; intro cs) | refine GX.o1n ?_ | refine GX.o1b ?_ | refine GX.o1h ?_ | (refine GX.o1s ?_; intro ao cap _ _) | refine GX.omn ?_ | refine GX.omb ?_ | refine GX.omh ?_ | (refine GX.oms ?_; intro ao cap _ _) | refine GX.ofn ?_ | refine GX.ofb ?_ | refine GX.ofh ?_ | (refine GX.ofs ?_; intro ao cap _ _) | (refine GX.oA ?_; intro cs)) | (apply GX.k_move; refine GX.m ?_) | (apply GX.k_indexAddr; first | refine GX.io1 ?_ | refine GX.ioh ?_ | refine GX.i1 ?_ | refine GX.ih ?_ | (refine GX.ix ?_; intro bl o)) | (apply GX.k_binOp_lss; refine GX.b_lss ?_) | (apply GX.k_binOp_add; first | refine GX.b_inc ?_ | refine GX.b_add ?_ | refine GX.b_addw ?_) | (apply GX.k_assign; refine GX.a ?_) | (apply GX.k_fieldAddr; first | refine GX.f0 ?_ | refine GX.fh ?_ | refine GX.fa ?_) | (apply GX.k_call; refine GX.c_len ?_) | (apply GX.k_store; first | refine GX.stW ?_ | refine GX.stB ?_ | refine GX.stR ?_ | refine GX.stRW ?_ | refine GX.so1 ?_ | refine GX.som ?_ | refine GX.sof ?_ | refine GX.sog ?_) | (apply GX.k_slice; first | (refine GX.ch ?_; intro q) | (refine GX.cl_ ?_; intro q) | (refine GX.cb_ ?_; intro q)) | (apply GX.k_unOp; first | refine GX.nt ?_ | refine GX.nf ?_ | refine GX.nd ?_ | refine GX.n_ ?_ | refine GX.u_cpl ?_) | (apply GX.k_nilCheck; refine GX.nc ?_) | (apply GX.k_convert; first | refine GX.cv ?_ | refine GX.cvs ?_) | (apply GX.k_binOp_and; first | refine GX.b_and ?_ | refine GX.b_andv ?_) | (apply GX.k_binOp_eql; first | refine GX.b_eql ?_ | refine GX.b_pn ?_ | refine GX.b_nn ?_ | refine GX.b_snn ?_ | refine GX.b_sns ?_ | refine GX.b_eqls ?_ | refine GX.b_eqltf ?_ | refine GX.b_eqlft ?_ | refine GX.b_eqlb ?_ | refine GX.b_seq ?_) | (apply GX.k_binOp_geq; refine GX.b_geq ?_) | (refine GX.b_andNotv ?_) | (refine GX.b_orv ?_) | (refine GX.b_shl ?_) | (refine GX.b_shr ?_)) | refine GX.gt ?_ | refine GX.gf ?_ | refine GX.gbt ?_ | refine GX.gbf ?_ | refine GX.un ?_ | refine GX.un0 ?_) | apply GX.then_normal | apply GX.seq | apply GX.region | (apply GX.s_cond; first | refine GX.ct ?_ | refine GX.cf ?_ | refine GX.cdf ?_ | refine GX.cdt ?_ | refine GX.cbt ?_ | refine GX.cbf ?_) | apply GX.skip | apply GX.block | apply GX.inBlock_normal | apply GX.exit | apply GX.then_exit | apply GX.inBlock_exit | refine GX.ibo ?_ | apply GX.ret | apply GX.then_ret | apply GX.inBlock_ret)
        exact again ⟨i + 1, bOr .u64 v (shlV .u64 (IntKind.u64.wrap (bNot .u8 x 128)) ((7 * i : Nat) : Int))⟩ ⟨rfl, rfl, rfl, rfl, rfl, rfl, trivial⟩ ⟨by dsimp only; omega, by dsimp only; omega, mid_step h3 hx hb (low_p x)⟩ (by dsimp only; omega)
  · repeat (first | (apply GX.s_list; first | apply GX.nil | (refine GX.o ?_; first | (apply GX.k_load; first | refine GX.lr ?_ | refine GX.lrA ?_ | refine GX.ln ?_ | refine GX.lb ?_ | refine GX.lh ?_ | (refine GX.ls ?_; intro ao cap _ _) | (refine GX.lA ?_; intro cs) | (refine GX.l0 ?_; intro cs) | refine GX.o1n ?_ | refine GX.o1b ?_ | refine GX.o1h ?_ | (refine GX.o1s ?_; intro ao cap _ _) | refine GX.omn ?_ | refine GX.omb ?_ | refine GX.omh ?_ | (refine GX.oms ?_; intro ao cap _ _) | refine GX.ofn ?_ | refine GX.ofb ?_ | refine GX.ofh ?_ | (refine GX.ofs ?_; intro ao cap _ _) | (refine GX.oA ?_; intro cs)) | (apply GX.k_move; refine GX.m ?_) | (apply GX.k_indexAddr; first | refine GX.io1 ?_ | refine GX.ioh ?_ | refine GX.i1 ?_ | refine GX.ih ?_ | (refine GX.ix ?_; intro bl o)) | (apply GX.k_binOp_lss; refine GX.b_lss ?_) | (apply GX.k_binOp_add; first | refine GX.b_inc ?_ | refine GX.b_add ?_ | refine GX.b_addw ?_) | (apply GX.k_assign; refine GX.a ?_) | (apply GX.k_fieldAddr; first | refine GX.f0 ?_ | refine GX.fh ?_ | refine GX.fa ?_) | (apply GX.k_call; refine GX.c_len ?_) | (apply GX.k_store; first | refine GX.stW ?_ | refine GX.stB ?_ | refine GX.stR ?_ | refine GX.stRW ?_ | refine GX.so1 ?_ | refine GX.som ?_ | refine GX.sof ?_ | refine GX.sog ?_) | (apply GX.k_slice; first | (refine GX.ch ?_; intro q) | (refine GX.cl_ ?_; intro q) | (refine GX.cb_ ?_; intro q)) | (apply GX.k_unOp; first | refine GX.nt ?_ | refine GX.nf ?_ | refine GX.nd ?_ | refine GX.n_ ?_ | refine GX.u_cpl ?_) | (apply GX.k_nilCheck; refine GX.nc ?_) | (apply GX.k_convert; first | refine GX.cv ?_ | refine GX.cvs ?_) | (apply GX.k_binOp_and; first | refine GX.b_and ?_ | refine GX.b_andv ?_) | (apply GX.k_binOp_eql; first | refine GX.b_eql ?_ | refine GX.b_pn ?_ | refine GX.b_nn ?_ | refine GX.b_snn ?_ | refine GX.b_sns ?_ | refine GX.b_eqls ?_ | refine GX.b_eqltf ?_ | refine GX.b_eqlft ?_ | refine GX.b_eqlb ?_ | refine GX.b_seq ?_) | (apply GX.k_binOp_geq; refine GX.b_geq ?_) | (refine GX.b_andNotv ?_) | (refine GX.b_orv ?_) | (refine GX.b_shl ?_) | (refine GX.b_shr ?_)) | refine GX.gt ?_ | refine GX.gf ?_ | refine GX.gbt ?_ | refine GX.gbf ?_ | refine GX.un ?_ | refine GX.un0 ?_) | apply GX.then_normal | apply GX.seq | apply GX.region | (apply GX.s_cond; first | refine GX.ct ?_ | refine GX.cf ?_ | refine GX.cdf ?_ | refine GX.cdt ?_ | refine GX.cbt ?_ | refine GX.cbf ?_) | apply GX.skip | apply GX.block | apply GX.inBlock_normal | apply GX.exit | apply GX.then_exit | apply GX.inBlock_exit | refine GX.ibo ?_ | apply GX.ret | apply GX.then_ret | apply GX.inBlock_ret)
    refine slNil Ty.byte ?_
    exact rt1 (⟨0, (none, 0), [], true, rd_bad h3 (fun _ => .inl (by omega)) (by simp)⟩ : RdnS num I64 D d) rfl
end Go.Proofs.Ytdkhfjcbhpfkoaa

/- The walks over the reader of package code: many, list, ins. -/
namespace Go.Proofs.Ytdkhfjcbhpfkoaa
open Go Go.RR Go.RX Go.GX Go.Api Go.NumM
attribute [local irreducible] wpList Code.wp wpPlan Exit.then Exit.inBlock bodyPost NoPanic Went GX.Post GX.Again GX.Meet GX.RowR GX.Own GX.Owns GX.Box GX.Sl GX.Pt GX.Ag GX.MapR GX.Kept GX.Pin wpT GoK AtEnd Both

set_option maxHeartbeats 1000000 in
theorem rdMany_spec (p : Nat) (c : AC) (D : List Int) (d : Bool) :
    Does Try.prog 40 [.pointer (some ⟨p, 0, none⟩)] [Sl Ty.byte c.1 c.2 D] [RowR p 60 [.slice c.1 D.length c.2, .bool d]] (fun s : RdmS D d => .int .i64 (s.n : Int)) (fun s => [Sl Ty.byte s.c.1 s.c.2 s.D2]) (fun s => [RowR p 60 [.slice s.c.1 s.D2.length s.c.2, .bool s.d2]]) := by
  refine enter Try.func40 rfl Try.ntmps40 rfl fun b => ?_
  refine GX.wR ?_; intros
  refine GX.o (cl (rdNum_spec p c D d) fun s => ?_)
  obtain ⟨x, c2, D2, d2, hs⟩ := s
  dsimp only
  by_cases h1 : x < 0
  · refine GX.wR ?_; intros
    exact rt1 (⟨0, c2, D2, true, rdm_bad hs (.inl h1)⟩ : RdmS D d) rfl
  by_cases h2 : (D2.length : Int) < x
  · refine GX.wR ?_; intros
    exact rt1 (⟨0, c2, D2, true, rdm_bad hs (.inr (.inl h2))⟩ : RdmS D d) rfl
  obtain ⟨n, rfl⟩ := Int.eq_ofNat_of_zero_le (show 0 ≤ x by omega)
  refine GX.wR ?_; intros
  exact rt1 (⟨n, c2, D2, d2, rdm_ok hs rfl (by omega)⟩ : RdmS D d) rfl
structure RlS (α : Type) where
  ao : Option Addr
  cap : Nat
  xs : List α
  c : AC
  D : List Int
  d : Bool
structure RdlS {α : Type} (e : List α → List Int) (ok : List α → Prop) (D : List Int) (d : Bool) where
  ao : Option Addr
  cap : Nat
  xs : List α
  c : AC
  D2 : List Int
  d2 : Bool
  h : Rdn e ok D d xs D2 d2
set_option maxHeartbeats 1000000 in
theorem rdList_spec (p : Nat) (c : AC) (D : List Int) (d : Bool) (hD : D.length ≤ 4194304) :
    Does Try.prog 42 [.pointer (some ⟨p, 0, none⟩)] [Sl Ty.byte c.1 c.2 D] [RowR p 60 [.slice c.1 D.length c.2, .bool d]] (fun s : RdlS encL (okN I64) D d => .slice s.ao s.xs.length s.cap) (fun s => [Sl Ty.byte s.c.1 s.c.2 s.D2, Sl Ty.int s.ao s.cap s.xs]) (fun s => [RowR p 60 [.slice s.c.1 s.D2.length s.c.2, .bool s.d2]]) := by
  refine enter Try.func42 rfl Try.ntmps42 rfl fun b => ?_
  refine GX.wR ?_; intros
  refine GX.o (cl (rdMany_spec p c D d) fun s => ?_)
  obtain ⟨n, c1, D1, d1, hm⟩ := s
  dsimp only
  have hn1 := hm.fit
  have hn2 := hm.len
  refine GX.wR ?_; intros
  refine ownNil 3 Ty.int ?_
  refine GX.loop (σ := RlS Int) (fun q => [(0, .pointer (some ⟨p, 0, none⟩)), (3, .slice q.ao q.xs.length q.cap), (5, .int .i64 (n : Int)), (6, .int .i64 (q.xs.length : Int))]) (fun q => [Sl Ty.byte q.c.1 q.c.2 q.D]) (fun q => [RowR p 60 [.slice q.c.1 q.D.length q.c.2, .bool q.d], Own 3 Ty.int q.ao q.cap q.xs])
    (fun q => q.xs.length ≤ n ∧ Rdn (flat num) (okL I64 q.xs.length) D1 d1 q.xs q.D q.d) (fun q => n - q.xs.length) ⟨none, 0, [], c1, D1, d1⟩ ⟨rfl, rfl, rfl, rfl, trivial⟩ ⟨Nat.zero_le _, rdl_nil⟩ (fun q hq => ?_)
  obtain ⟨ao, cap, xs, c2, D2, d2⟩ := q
  obtain ⟨h1, h2⟩ := hq
  dsimp only at *
  by_cases hlt : xs.length < n
  · refine GX.wR ?_; intros
    refine GX.o (cl (rdNum_spec p c2 D2 d2) fun s => ?_)
    obtain ⟨x, c3, D3, d3, hs⟩ := s
    dsimp only
    refine GX.wR ?_; intros
    refine GX.nmS 3 ?_; rintro a9 c9 rfl rfl
    rw [show xs.length + 1 = (xs ++ [x]).length by simp]
    exact again ⟨a9, c9, xs ++ [x], c3, D3, d3⟩ ⟨rfl, rfl, rfl, rfl, trivial⟩ ⟨by dsimp only; rw [List.length_append]; exact hlt, by dsimp only; rw [List.length_append]; exact rdl_snoc h2 hs⟩ (by dsimp only; rw [List.length_append, List.length_singleton]; omega)
  · refine GX.wR ?_; intros
    refine frz ao ?_
    exact rt1 (⟨ao, cap, xs, c2, D2, d2, rdl_end hm h2 (.inl (by omega)) (by omega) (by omega) (fun x _ => num_pos x)⟩ : RdlS encL (okN I64) D d) rfl
end Go.Proofs.Ytdkhfjcbhpfkoaa

/- A slice of one's own, lent to a function that only reads it. No program in sight. -/
namespace Go.GX
open Go Go.RowKit Go.RR Go.RX
theorem Does.lend {P : Program} {f : FuncId} {args : List Value} {ps1 : List Pf} {t : TypeId} {α : Type} {e : Ty α} {ao : Option Addr} {cap : Nat} {xs : List α} {σ : Type} {val : σ → Value} (hc : Does P f args (Sl e ao cap xs :: ps1) [] val (fun _ => []) (fun _ => [])) :
    Does P f args ps1 [Own t e ao cap xs] val (fun _ => []) (fun _ => [Own t e ao cap xs]) := by
  constructor
  intro w F b s
  have hown : (Own t e ao cap xs).says F w := s.rs _ (by simp)
  have hlt : ∀ k, (F k ∨ (Own t e ao cap xs).on k) → k < w.heap.size := by
    rintro k (hk | hk)
    · exact s.lt k hk
    · exact (Own t e ao cap xs).inn hown hk
  have s' : St ⟨w, fun _ => False, fun k => F k ∨ (Own t e ao cap xs).on k⟩ (fun k => F k ∨ (Own t e ao cap xs).on k) (Sl e ao cap xs :: ps1) [] w := by
    refine ⟨Upd.refl _ _, hlt, fun k hk _ => .inl hk, ?_, no_r, by simp, by simp, by simp⟩
    intro p hp
    rcases List.mem_cons.1 hp with rfl | hp
    · exact frzAt hown
    · exact p.move (s.fs p hp) (fun _ _ h => .inl h) (Agree.refl _ _)
  refine (hc.run w _ _ s').mono ?_
  rintro e' w' ⟨i, rfl, F2, s2⟩
  refine ⟨i, rfl, ?_⟩
  have hu : Upd (feet []) w w' := s2.upd
  have hno : ∀ k, ¬ feet [] k := fun k => feet_nil
  exact mkOk1 s (hu.mono fun k _ hk => absurd hk (hno k)) ((Own t e ao cap xs).move hown (fun _ _ h => h) (Agree.of_upd hu fun k _ _ => hno k) (Agree.of_upd hu fun k _ _ => hno k)) (fun k hk _ => hk)
section
variable {P : Program} {n : Nat} {env : Env} {b : Base} {ps : List Pf} {hp : List Res} {K : Act → World → Prop}
/-- Something stays from now on; what is known tells what it says. -/
theorem frz_stA {r : Res} {p : Pf} {rest : List Res} (hl : hp.Perm (r :: rest)) (hp' : ∀ F w, AllP F w ps → r.says F w → p.says (fun k => F k ∨ r.on k) w) (h : G n env b (p :: ps) rest K) : G n env b ps hp K := by
  constructor
  rintro w ⟨F, s⟩
  have s := s.perm hl
  have ha := List.pairwise_cons.1 s.apart
  refine h.run w ⟨fun k => F k ∨ r.on k, s.upd, ?_, ?_, ?_, ?_, ?_, ha.2, fun q hq => s.on q (List.mem_cons_of_mem _ hq)⟩
  · rintro k (hk | hk)
    · exact s.lt k hk
    · exact r.inn (s.rs r List.mem_cons_self) hk
  · rintro k (hk | hk) hlt
    · exact s.old k hk hlt
    · exact .inr (s.on r List.mem_cons_self k hk hlt)
  · intro q hq
    rcases List.mem_cons.1 hq with rfl | hq
    · exact hp' F w s.fs (s.rs r List.mem_cons_self)
    · exact q.move (s.fs q hq) (fun _ _ h => .inl h) (Agree.refl _ _)
  · intro q hq
    exact q.move (s.rs q (List.mem_cons_of_mem _ hq)) (fun _ _ h => .inl h) (Agree.refl _ _) (Agree.refl _ _)
  · rintro q hq k hk (hf | hr)
    · exact s.apF q (List.mem_cons_of_mem _ hq) k hk hf
    · exact ha.1 q hq k hr hk
/-- A row of cells that reads as something stays from now on. -/
theorem frzR (bl : Nat) {α : Type} {e : Ty α} {t : TypeId} {vs : List Value} {y : α} {rest : List Res} [hf : FRow bl hp t vs rest] (h : G n env b (Pt e bl 0 y :: ps) rest K) (hr : Reads ps (.agg vs.toArray) e y := by first | exact Go.GX.Rds.r) : G n env b ps hp K :=
  frz_stA hf.p (fun F w h1 h2 => by
    have hrow : Row w bl t vs := h2
    have hd : e.rd F w (Value.agg vs.toArray).cells.toList y := hr.as F w h1
    have hc : (Value.agg vs.toArray).cells.toList = vs := by simp [Value.cells]
    rw [hc] at hd
    exact ⟨.inr rfl, hrow.lt, vs, fun j c hj => by rw [Nat.zero_add]; exact hrow.cell_some hj, e.move hd (fun _ _ h => .inl h) (Agree.refl _ _)⟩) h
/-- A slice's header in a variable that is not turned from now on. -/
theorem frzH (bl : Nat) {t : TypeId} {vs : List Value} {a : Option Addr} {m c : Nat} {rest : List Res} [hf : FRow bl hp t vs rest] (h : G n env b (Pt Ty.hdr bl 0 (a, m, c) :: ps) rest K) (hv : vs = [.slice a m c] := by exact rfl) : G n env b ps hp K := frz_st hf.p (fun F w h => by
  have h1 : Row w bl t vs := h
  subst hv
  exact ⟨.inr rfl, h1.lt, _, fun j c hj => by rw [Nat.zero_add]; exact h1.cell_some hj, hdr_rd⟩) h
end
end Go.GX

/- The walks over the reader of package code: ins, unit. -/
namespace Go.Proofs.Ytdkhfjcbhpfkoaa
open Go Go.RR Go.RX Go.GX Go.Api Go.NumM
attribute [local irreducible] wpList Code.wp wpPlan Exit.then Exit.inBlock bodyPost NoPanic Went GX.Post GX.Again GX.Meet GX.RowR GX.Own GX.Owns GX.Box GX.Sl GX.Pt GX.Ag GX.MapR GX.Kept GX.Pin wpT GoK AtEnd Both

structure RdaS {α : Type} (e : α → List Int) (ok : α → Prop) (D : List Int) (d : Bool) where
  cs : List Value
  x : α
  c : AC
  D2 : List Int
  d2 : Bool
  h : Rdn e ok D d x D2 d2
set_option maxHeartbeats 1000000 in
theorem rdIns_spec (p : Nat) (c : AC) (D : List Int) (d : Bool) (hD : D.length ≤ 4194304) :
    Does Try.prog 61 [.pointer (some ⟨p, 0, none⟩)] [Sl Ty.byte c.1 c.2 D] [RowR p 60 [.slice c.1 D.length c.2, .bool d]] (fun s : RdaS encI Ins.ok D d => .agg s.cs.toArray) (fun s => [Sl Ty.byte s.c.1 s.c.2 s.D2, Ag tyIns s.cs s.x]) (fun s => [RowR p 60 [.slice s.c.1 s.D2.length s.c.2, .bool s.d2]]) := by
  refine enter Try.func61 rfl Try.ntmps61 rfl fun b => ?_
  refine GX.wR ?_; intros
  refine GX.o (cl (rdNum_spec p c D d) fun s => ?_)
  obtain ⟨x1, c1, D1, d1, h1⟩ := s
  have l1 := h1.len
  dsimp only
  refine GX.wR ?_; intros
  refine GX.o (cl (rdNum_spec p c1 D1 d1) fun s => ?_)
  obtain ⟨x2, c2, D2, d2, h2⟩ := s
  have l2 := h2.len
  dsimp only
  refine GX.wR ?_; intros
  refine GX.o (cl (rdNum_spec p c2 D2 d2) fun s => ?_)
  obtain ⟨x3, c3, D3, d3, h3⟩ := s
  have l3 := h3.len
  dsimp only
  refine GX.wR ?_; intros
  refine GX.o (cl (rdNum_spec p c3 D3 d3) fun s => ?_)
  obtain ⟨x4, c4, D4, d4, h4⟩ := s
  have l4 := h4.len
  dsimp only
  refine GX.wR ?_; intros
  refine GX.o (cl (rdNum_spec p c4 D4 d4) fun s => ?_)
  obtain ⟨x5, c5, D5, d5, h5⟩ := s
  have l5 := h5.len
  dsimp only
  refine GX.wR ?_; intros
  refine GX.o (cl (rdList_spec p c5 D5 d5 (by omega)) fun s => ?_)
  obtain ⟨aX, cX, xs, c6, D6, d6, h6⟩ := s
  dsimp only
  refine GX.wR ?_; intros
  exact rt1B (fun cs => (⟨cs, ⟨x1, x2, x3, x4, x5, xs⟩, c6, D6, d6, rd_ins h1 h2 h3 h4 h5 h6⟩ : RdaS encI Ins.ok D d)) (fun _ => rfl)
set_option maxHeartbeats 1000000 in
theorem rdUnit_spec (p : Nat) (c : AC) (D : List Int) (d : Bool) (hD : D.length ≤ 4194304) :
    Does Try.prog 43 [.pointer (some ⟨p, 0, none⟩)] [Sl Ty.byte c.1 c.2 D] [RowR p 60 [.slice c.1 D.length c.2, .bool d]] (fun s : RdaS encU Unt.ok D d => .agg s.cs.toArray) (fun s => [Sl Ty.byte s.c.1 s.c.2 s.D2, Ag tyUnt s.cs s.x]) (fun s => [RowR p 60 [.slice s.c.1 s.D2.length s.c.2, .bool s.d2]]) := by
  refine enter Try.func43 rfl Try.ntmps43 rfl fun b => ?_
  refine GX.wR ?_; intros
  refine GX.o (cl (rdNum_spec p c D d) fun s => ?_)
  obtain ⟨x1, c1, D1, d1, h1⟩ := s
  have l1 := h1.len
  dsimp only
  refine GX.wR ?_; intros
  refine GX.o (cl (rdList_spec p c1 D1 d1 (by omega)) fun s => ?_)
  obtain ⟨aV, cV, x2, c2, D2, d2, h2⟩ := s
  have l2 := h2.len
  dsimp only
  refine GX.wR ?_; intros
  refine GX.o (cl (rdNum_spec p c2 D2 d2) fun s => ?_)
  obtain ⟨x3, c3, D3, d3, h3⟩ := s
  have l3 := h3.len
  dsimp only
  refine GX.wR ?_; intros
  refine GX.o (cl (rdList_spec p c3 D3 d3 (by omega)) fun s => ?_)
  obtain ⟨aT, cT, x4, c4, D4, d4, h4⟩ := s
  have l4 := h4.len
  dsimp only
  refine GX.wR ?_; intros
  refine GX.o (cl (rdList_spec p c4 D4 d4 (by omega)) fun s => ?_)
  obtain ⟨aO, cO, x5, c5, D5, d5, h5⟩ := s
  have l5 := h5.len
  dsimp only
  refine GX.nmP 2 ?_; rintro b2 rfl
  refine GX.wRA ?_; intros
  refine GX.nmP 3 ?_; rintro b3 rfl
  refine GX.o (cl (rdMany_spec p c5 D5 d5) fun s => ?_)
  obtain ⟨n, c6, D6, d6, hm⟩ := s
  dsimp only
  have hn1 := hm.fit
  have hn2 := hm.len
  refine GX.wR ?_; intros
  refine ownNil 49 tyIns ?_
  refine GX.loop (σ := RlS Ins) (fun q => [(0, .pointer (some ⟨p, 0, none⟩)), (2, .pointer (some ⟨b2, 0, none⟩)), (3, .pointer (some ⟨b3, 0, none⟩)), (16, .int .i64 (n : Int)), (17, .int .i64 (q.xs.length : Int))]) (fun q => [Sl Ty.byte q.c.1 q.c.2 q.D]) (fun q => [RowR p 60 [.slice q.c.1 q.D.length q.c.2, .bool q.d], RowR b3 47 [.int .i64 x1, .slice aV x2.length cV, .int .i64 x3, .slice aT x4.length cT, .slice aO x5.length cO, .slice q.ao q.xs.length q.cap], Own 49 tyIns q.ao q.cap q.xs, Box 47 tyUnt b2 ⟨0, [], 0, [], [], []⟩])
    (fun q => q.xs.length ≤ n ∧ Rdn (flat encI) (okL Ins.ok q.xs.length) D6 d6 q.xs q.D q.d) (fun q => n - q.xs.length) ⟨none, 0, [], c6, D6, d6⟩ ⟨rfl, rfl, rfl, rfl, rfl, trivial⟩ ⟨Nat.zero_le _, rdl_nil⟩ (fun q hq => ?_)
  obtain ⟨ao, cap, xs, c7, D7, d7⟩ := q
  obtain ⟨g1, g2⟩ := hq
  dsimp only at *
  have l7 := g2.len
  by_cases hlt : xs.length < n
  · refine GX.wR ?_; intros
    refine GX.drawn1 (RowR b3 47 [.int .i64 x1, .slice aV x2.length cV, .int .i64 x3, .slice aT x4.length cT, .slice aO x5.length cO, .slice (RlS.mk ao cap xs c7 D7 d7).ao (RlS.mk ao cap xs c7 D7 d7).xs.length (RlS.mk ao cap xs c7 D7 d7).cap]) (fun j => !(List.contains [5, 7] j)) [(0, true), (1, true), (2, true), (3, false), (4, false), (5, false), (6, true), (7, false)] rfl (by kernel_rfl) (by kernel_rfl) (by first | ((repeat (first | apply Go.GX.SelR.nil | apply Go.GX.SelR.cons | (with_reducible apply Go.GX.TakeR.head) | apply Go.GX.TakeR.tail)); done) | (repeat (first | apply Go.GX.SelR.nil | apply Go.GX.SelR.cons | apply Go.GX.TakeR.head | apply Go.GX.TakeR.tail))) ?_; intro wd F hW hR
    refine GX.wT ?_; intros
    refine GX.gow ?_
    refine (cl (rdIns_spec p c7 D7 d7 (by omega)) fun s => ?_)
    obtain ⟨cs8, x, c8, D8, d8, hs⟩ := s
    dsimp only
    refine GX.wT ?_; intros
    refine GX.unpin (RowR b3 47 _) ?_
    refine GX.wT ?_; intros
    refine GX.wR ?_; intros
    refine GX.nmS 24 ?_; rintro a9 c9 rfl rfl
    rw [show xs.length + 1 = (xs ++ [x]).length by simp]
    exact again ⟨a9, c9, xs ++ [x], c8, D8, d8⟩ ⟨rfl, rfl, rfl, rfl, rfl, trivial⟩ ⟨by dsimp only; rw [List.length_append]; exact hlt, by dsimp only; rw [List.length_append]; exact rdl_snoc g2 hs⟩ (by dsimp only; rw [List.length_append, List.length_singleton]; omega)
  · refine frz ao ?_
    refine frzR b3 (e := tyUnt) (vs := [.int .i64 x1, .slice aV x2.length cV, .int .i64 x3, .slice aT x4.length cT, .slice aO x5.length cO, .slice ao xs.length cap]) (y := (⟨x1, x2, x3, x4, x5, xs⟩ : Unt)) ?_ (show Reads _ _ tyUnt (⟨x1, x2, x3, x4, x5, xs⟩ : Unt) from Go.GX.Rds.r)
    refine GX.wR ?_; intros
    exact rt1B (fun cs => (⟨cs, ⟨x1, x2, x3, x4, x5, xs⟩, c7, D7, d7, rd_unt h1 h2 h3 h4 h5 (rdl_end hm g2 (.inl (by omega)) (by omega) (by omega) (fun x _ => encI_pos x))⟩ : RdaS encU Unt.ok D d)) (fun _ => rfl)
end Go.Proofs.Ytdkhfjcbhpfkoaa

/- The walk over the reader of package code: a whole program. -/
namespace Go.Proofs.Ytdkhfjcbhpfkoaa
open Go Go.RR Go.RX Go.GX Go.Api Go.NumM
attribute [local irreducible] wpList Code.wp wpPlan Exit.then Exit.inBlock bodyPost NoPanic Went GX.Post GX.Again GX.Meet GX.RowR GX.Own GX.Owns GX.Box GX.Sl GX.Pt GX.Ag GX.MapR GX.Kept GX.Pin wpT GoK AtEnd Both

/-- A slice's header. -/
structure HdS (α : Type) where
  ao : Option Addr
  cap : Nat
  xs : List α
set_option maxHeartbeats 1000000 in
theorem rdProg_spec (p : Nat) (c : AC) (D : List Int) (d : Bool) (hD : D.length ≤ 4194304) :
    Does Try.prog 27 [.pointer (some ⟨p, 0, none⟩)] [Sl Ty.byte c.1 c.2 D] [RowR p 60 [.slice c.1 D.length c.2, .bool d]] (fun s : RdaS encT RTg.ok D d => .agg s.cs.toArray) (fun s => [Sl Ty.byte s.c.1 s.c.2 s.D2, Ag tyRTg s.cs s.x]) (fun s => [RowR p 60 [.slice s.c.1 s.D2.length s.c.2, .bool s.d2]]) := by
  refine enter Try.func27 rfl Try.ntmps27 rfl fun b => ?_
  refine GX.wRN ?_; intros
  apply GX.region
  refine GX.wRN ?_; intros
  refine GX.nmP 2 ?_; rintro b2 rfl
  apply GX.region
  refine GX.wRA ?_; intros
  refine GX.nmP 3 ?_; rintro b3 rfl
  refine GX.o (cl (rdMany_spec p c D d) fun s => ?_)
  obtain ⟨n, c1, D1, d1, hm⟩ := s
  dsimp only
  have hn1 := hm.fit
  have hn2 := hm.len
  refine GX.wR ?_; intros
  refine ownNil 44 tyLayout ?_
  refine GX.loop (σ := RlS Layout) (fun q => [(0, .pointer (some ⟨p, 0, none⟩)), (2, .pointer (some ⟨b2, 0, none⟩)), (3, .pointer (some ⟨b3, 0, none⟩)), (6, .int .i64 (n : Int)), (7, .int .i64 (q.xs.length : Int))]) (fun q => [Sl Ty.byte q.c.1 q.c.2 q.D]) (fun q => [RowR p 60 [.slice q.c.1 q.D.length q.c.2, .bool q.d], RowR b3 26 [.slice q.ao q.xs.length q.cap, .slice none 0 0, .slice none 0 0, .int .i64 0], Own 44 tyLayout q.ao q.cap q.xs, Box 26 tyRTg b2 ⟨[], [], [], 0⟩])
    (fun q => q.xs.length ≤ n ∧ Rdn (flat encC) (okL Layout.ok q.xs.length) D1 d1 q.xs q.D q.d) (fun q => n - q.xs.length) ⟨none, 0, [], c1, D1, d1⟩ ⟨rfl, rfl, rfl, rfl, rfl, trivial⟩ ⟨Nat.zero_le _, rdl_nil⟩ (fun q hq => ?_)
  obtain ⟨ao, cap, xs, c7, D7, d7⟩ := q
  obtain ⟨g1, g2⟩ := hq
  dsimp only at *
  have l7 := g2.len
  by_cases hlt : xs.length < n
  · refine GX.wR ?_; intros
    refine GX.drawn1 (RowR b3 26 [.slice ao xs.length cap, .slice none 0 0, .slice none 0 0, .int .i64 0]) (fun j => !(List.contains [9, 11] j)) [(0, true), (1, true), (2, true), (5, true), (3, false), (4, true), (6, false), (7, true), (8, false), (9, false), (10, true), (11, false)] rfl (by kernel_rfl) (by kernel_rfl) (by first | ((repeat (first | apply Go.GX.SelR.nil | apply Go.GX.SelR.cons | (with_reducible apply Go.GX.TakeR.head) | apply Go.GX.TakeR.tail)); done) | (repeat (first | apply Go.GX.SelR.nil | apply Go.GX.SelR.cons | apply Go.GX.TakeR.head | apply Go.GX.TakeR.tail))) ?_; intro wd F hW hR
    refine GX.wT ?_; intros
    refine GX.gow ?_
    refine (cl (rdNum_spec p c7 D7 d7) fun s => ?_)
    obtain ⟨x, c8, D8, d8, hs⟩ := s
    dsimp only
    have l8 := hs.len
    refine GX.wT ?_; intros
    refine GX.gow ?_
    refine (cl (rdList_spec p c8 D8 d8 (by omega)) fun s => ?_)
    obtain ⟨aX, cX, ys, c9, D9, d9, hs2⟩ := s
    dsimp only
    refine GX.wT ?_; intros
    refine GX.unpin (RowR b3 26 _) ?_
    refine GX.wT ?_; intros
    refine GX.wR ?_; intros
    refine GX.nmS 18 ?_; rintro a9 c10 rfl rfl
    rw [show xs.length + 1 = (xs ++ [(⟨decide (x = 1), ys⟩ : Layout)]).length by simp]
    exact again ⟨a9, c10, xs ++ [⟨decide (x = 1), ys⟩], c9, D9, d9⟩ ⟨rfl, rfl, rfl, rfl, rfl, trivial⟩ ⟨by dsimp only; rw [List.length_append]; exact hlt, by dsimp only; rw [List.length_append]; exact rdl_snoc g2 (rd_lay hs hs2)⟩ (by dsimp only; rw [List.length_append, List.length_singleton]; omega)
  have hcl := rdl_end hm g2 (.inl (by omega)) (by omega) (by omega) (fun x _ => encC_pos x)
  clear hm g2
  refine frz ao ?_
  refine GX.wR ?_; intros
  refine GX.o (cl (rdList_spec p c7 D7 d7 (by omega)) fun s => ?_)
  obtain ⟨aG, cG, gl, c8, D8, d8, hg⟩ := s
  dsimp only
  have l8 := hg.len
  refine GX.wR ?_; intros
  refine GX.o (cl (rdMany_spec p c8 D8 d8) fun s => ?_)
  obtain ⟨n2, c9, D9, d9, hm2⟩ := s
  dsimp only
  have hn3 := hm2.fit
  have hn4 := hm2.len
  refine GX.wR ?_; intros
  refine ownNil 47 tyUnt ?_
  refine GX.loop (σ := RlS Unt) (fun q => [(0, .pointer (some ⟨p, 0, none⟩)), (2, .pointer (some ⟨b2, 0, none⟩)), (3, .pointer (some ⟨b3, 0, none⟩)), (25, .int .i64 (n2 : Int)), (26, .int .i64 (q.xs.length : Int))]) (fun q => [Sl Ty.byte q.c.1 q.c.2 q.D]) (fun q => [RowR p 60 [.slice q.c.1 q.D.length q.c.2, .bool q.d], RowR b3 26 [.slice ao xs.length cap, .slice aG gl.length cG, .slice q.ao q.xs.length q.cap, .int .i64 0], Own 47 tyUnt q.ao q.cap q.xs, Box 26 tyRTg b2 ⟨[], [], [], 0⟩])
    (fun q => q.xs.length ≤ n2 ∧ Rdn (flat encU) (okL Unt.ok q.xs.length) D9 d9 q.xs q.D q.d) (fun q => n2 - q.xs.length) ⟨none, 0, [], c9, D9, d9⟩ ⟨rfl, rfl, rfl, rfl, rfl, trivial⟩ ⟨Nat.zero_le _, rdl_nil⟩ (fun q hq => ?_)
  obtain ⟨aU, cU, us, c5, D5, d5⟩ := q
  obtain ⟨g1, g2⟩ := hq
  dsimp only at *
  have l5 := g2.len
  by_cases hlt2 : us.length < n2
  · refine GX.wR ?_; intros
    refine GX.drawn1 (RowR b3 26 [.slice ao xs.length cap, .slice aG gl.length cG, .slice aU us.length cU, .int .i64 0]) (fun j => !(List.contains [5, 7] j)) [(0, true), (1, true), (2, true), (3, false), (4, false), (5, false), (6, true), (7, false)] rfl (by kernel_rfl) (by kernel_rfl) (by first | ((repeat (first | apply Go.GX.SelR.nil | apply Go.GX.SelR.cons | (with_reducible apply Go.GX.TakeR.head) | apply Go.GX.TakeR.tail)); done) | (repeat (first | apply Go.GX.SelR.nil | apply Go.GX.SelR.cons | apply Go.GX.TakeR.head | apply Go.GX.TakeR.tail))) ?_; intro wd F hW hR
    refine GX.wT ?_; intros
    refine GX.gow ?_
    refine (cl (rdUnit_spec p c5 D5 d5 (by omega)) fun s => ?_)
    obtain ⟨cs6, u, c6, D6, d6, hs⟩ := s
    dsimp only
    refine GX.wT ?_; intros
    refine GX.unpin (RowR b3 26 _) ?_
    refine GX.wT ?_; intros
    refine GX.wR ?_; intros
    refine GX.nmS 33 ?_; rintro a9 c10 rfl rfl
    rw [show us.length + 1 = (us ++ [u]).length by simp]
    exact again ⟨a9, c10, us ++ [u], c6, D6, d6⟩ ⟨rfl, rfl, rfl, rfl, rfl, trivial⟩ ⟨by dsimp only; rw [List.length_append]; exact hlt2, by dsimp only; rw [List.length_append]; exact rdl_snoc g2 hs⟩ (by dsimp only; rw [List.length_append, List.length_singleton]; omega)
  have hul := rdl_end hm2 g2 (.inl (by omega)) (by omega) (by omega) (fun x _ => encU_pos x)
  refine frz aU ?_
  refine GX.wR ?_; intros
  refine GX.o (cl (rdNum_spec p c5 D5 d5) fun s => ?_)
  obtain ⟨m, c6, D6, d6, hm3⟩ := s
  dsimp only
  refine GX.wR ?_; intros
  exact rt1B (fun cs => (⟨cs, ⟨xs, gl, us, m⟩, c6, D6, d6, rd_rtg hcl hg hul hm3⟩ : RdaS encT RTg.ok D d)) (fun _ => rfl)
end Go.Proofs.Ytdkhfjcbhpfkoaa

/- Where the first one of a list is. No program in sight. -/
namespace Go.Proofs.Ytdkhfjcbhpfkoaa
/-- Where the first one is; -1: there is none. -/
def idxF (p : Int → Bool) (xs : List Int) : Int := match xs.findIdx? p with | some i => (i : Int) | none => -1
theorem idxF_some {p : Int → Bool} {xs : List Int} {i : Nat} {x : Int} (hx : xs[i]? = some x) (hp : p x = true) (hn : ∀ y ∈ xs.take i, p y = false) : idxF p xs = i := by
  have hl := (List.getElem?_eq_some_iff.1 hx).1
  have : xs.findIdx? p = some i := by
    rw [List.findIdx?_eq_some_iff_getElem]
    refine ⟨hl, by rw [(List.getElem?_eq_some_iff.1 hx).2]; exact hp, fun j hj => ?_⟩
    have := hn (xs[j]'(by omega)) (List.mem_take_iff_getElem.2 ⟨j, by omega, rfl⟩)
    simp [this]
  unfold idxF; rw [this]
theorem idxF_none {p : Int → Bool} {xs : List Int} (hn : ∀ y ∈ xs, p y = false) : idxF p xs = -1 := by
  have : xs.findIdx? p = none := List.findIdx?_eq_none_iff.2 hn
  unfold idxF; rw [this]
theorem idxF_any (p : Int → Bool) (xs : List Int) : decide (0 ≤ idxF p xs) = xs.any p := by
  unfold idxF
  cases h : xs.findIdx? p with
  | none =>
    have := List.findIdx?_eq_none_iff.1 h
    have e : xs.any p = false := List.any_eq_false.2 fun x hx => by simp [this x hx]
    rw [e]; rfl
  | some i =>
    obtain ⟨hl, hp, _⟩ := List.findIdx?_eq_some_iff_getElem.1 h
    have e : xs.any p = true := List.any_eq_true.2 ⟨_, List.getElem_mem hl, hp⟩
    rw [e]; simp
theorem take_all_succ {p : Int → Bool} {xs : List Int} {i : Nat} {x : Int} (hx : xs[i]? = some x) (hp : p x = false) (hn : ∀ y ∈ xs.take i, p y = false) : ∀ y ∈ xs.take (i + 1), p y = false := by
  intro y hy
  rw [List.take_add_one, hx, List.mem_append] at hy
  rcases hy with hy | hy
  · exact hn y hy
  · simp at hy; subst hy; exact hp

end Go.Proofs.Ytdkhfjcbhpfkoaa
