import Derived.Test.YtdkhfjcbhpfkoaaM10
import Derived.Test.YtdkhfjcbhpfkoaaM12
import Derived.Test.YtdkhfjcbhpfkoaaM15
import Derived.Test.YtdkhfjcbhpfkoaaM21
import Derived.Test.YtdkhfjcbhpfkoaaM23
import Derived.Test.YtdkhfjcbhpfkoaaM26
import Derived.ProofKit
import Derived.Deep.Slices
import Derived.OpenShut
/- The walks over nums and Put of the reference of chapter 27. -/
namespace Go.Proofs.Ytdkhfjcbhpfkoaa
open Go Go.RR Go.RX Go.GX Go.Api Go.NumM Go.RtM
attribute [local irreducible] wpList Code.wp wpPlan Exit.then Exit.inBlock bodyPost NoPanic Went GX.Post GX.Again GX.Meet GX.RowR GX.Own GX.Owns GX.Box GX.Sl GX.Pt GX.Ag GX.MapR GX.Kept GX.Pin wpT GoK AtEnd Both
structure RwS where
  ao : Option Addr
  cap : Nat
  i : Nat
  D : List Int
set_option maxHeartbeats 1000000 in
theorem rnums_spec (ao : Option Addr) (cap : Nat) (l : List Int) (hl : ∀ x ∈ l, I64 x) (hb : (encL l).length ≤ 1000000000) :
    Does Try.prog 26 [.slice ao l.length cap] [Sl Ty.int ao cap l] [] (fun s : AC => .slice s.1 (encL l).length s.2) (fun _ => []) (fun s => [Own 5 Ty.byte s.1 s.2 (encL l)]) := by
  refine enter Try.func26 rfl Try.ntmps26 rfl fun b => ?_
  have hb2 := hb
  unfold encL at hb2
  rw [List.length_append] at hb2
  refine sln ao fun h1 h2 _ => ?_
  refine GX.wR ?_; intros
  refine GX.o (cl (rnum_spec (l.length : Int) ⟨by omega, by omega⟩) fun s => ?_)
  obtain ⟨aB, cB⟩ := s
  dsimp only
  refine GX.wR ?_; intros
  refine GX.loop (σ := RwS) (fun q => [(0, .slice ao l.length cap), (3, .slice q.ao q.D.length q.cap), (4, .int .i64 (q.i : Int))]) (fun _ => []) (fun q => [Own 5 Ty.byte q.ao q.cap q.D])
    (fun q => q.i ≤ l.length ∧ q.D = num (l.length : Int) ++ encs (l.take q.i)) (fun q => l.length - q.i) ⟨aB, cB, 0, num (l.length : Int)⟩ ⟨rfl, rfl, rfl, trivial⟩ ⟨Nat.zero_le _, by simp [encs]⟩ (fun q hq => ?_)
  obtain ⟨aB, cB, i, D⟩ := q
  obtain ⟨hi, hD⟩ := hq
  dsimp only at *
  by_cases hlt : i < l.length
  · obtain ⟨x, hx⟩ := get_lt hlt
    have hx64 := hl x (List.mem_of_getElem? hx)
    have hsn := encs_snoc hx
    have htk := encs_take l (i + 1)
    rw [hsn, List.length_append] at htk
    have hml : D.length ≤ 1000000000 := by rw [hD, List.length_append]; omega
    have hnl := num_len x hx64
    refine GX.wR ?_; intros
    refine GX.o (cl (rnum_spec x hx64) fun s => ?_)
    obtain ⟨a1, c1⟩ := s
    dsimp only
    refine frz a1 ?_
    refine GX.wR ?_; intros
    refine GX.nmS 20 ?_; rintro a9 c9 rfl rfl
    exact again ⟨a9, c9, i + 1, D ++ num x⟩ ⟨rfl, rfl, rfl, trivial⟩ ⟨by dsimp only; omega, by dsimp only; rw [hD, List.append_assoc, ← hsn]⟩ (by dsimp only; omega)
  · rw [List.take_of_length_le (by omega)] at hD
    have hD2 : D = encL l := hD
    subst hD2
    refine GX.wR ?_; intros
    exact rt1 ((aB, cB) : AC) rfl
structure RwU where
  ao : Option Addr
  cap : Nat
  i : Nat
  D : List Int
set_option maxHeartbeats 2000000 in
theorem rput27_spec (cs : List Value) (t : RTg) (ht : RTg.ok t) (hs : Small t) (hb : (encT t).length ≤ 1000000000) :
    Does Try.prog 12 [.agg cs.toArray] [Ag tyRTg cs t] [] (fun s : AC => .tuple #[.slice s.1 (putT t).length s.2, .int .i64 (putE t)]) (fun s => [Sl Ty.byte s.1 s.2 (putT t)]) (fun _ => []) := by
  refine enter Try.func12 rfl Try.ntmps12 rfl fun b => ?_
  obtain ⟨t1, t2, t3, t4⟩ := ht
  refine GX.wR ?_; intros
  refine GX.nmP 1 ?_; rintro b1 rfl
  refine GX.o (cl (rright_spec _ t hs) fun _ => ?_)
  by_cases hr : RightP t
  · have hr' := Classical.not_not.2 hr
    rw [show putT t = encT t from if_pos hr, show putE t = 0 from if_pos hr]
    have hb2 := hb
    unfold encT at hb2
    simp only [List.length_append] at hb2
    refine GX.wR ?_; intros
    refine GX.o (cl (rnum_spec (t.classes.length : Int) ⟨by omega, by omega⟩) fun s => ?_)
    obtain ⟨aB, cB⟩ := s
    dsimp only
    obtain ⟨P1, hP1⟩ : ∃ P1, P1 = num (t.classes.length : Int) := ⟨_, rfl⟩
    rw [← hP1] at hb2 ⊢
    refine GX.wR ?_; intros
    refine GX.loop (σ := RwU) (fun q => [(1, .pointer (some ⟨b1, 0, none⟩)), (4, .slice q.ao q.D.length q.cap), (5, .int .i64 (q.i : Int))]) (fun _ => []) (fun q => [Own 5 Ty.byte q.ao q.cap q.D])
      (fun q => q.i ≤ t.classes.length ∧ q.D = P1 ++ (t.classes.take q.i).flatMap encC) (fun q => t.classes.length - q.i) ⟨aB, cB, 0, P1⟩ ⟨rfl, rfl, rfl, trivial⟩ ⟨Nat.zero_le _, by simp⟩ (fun q hq => ?_)
    obtain ⟨aB, cB, i, D⟩ := q
    obtain ⟨hi, hD⟩ := hq
    dsimp only at *
    by_cases hlt : i < t.classes.length
    · obtain ⟨x, hx⟩ := get_lt hlt
      have hsn := fm_snoc (f := encC) hx
      have htk := fm_take encC t.classes (i + 1)
      rw [hsn, List.length_append] at htk
      have hDl : D.length + (encC x).length ≤ 1000000000 := by rw [hD]; simp only [List.length_append]; omega
      have hxo := t1 x (List.mem_of_getElem? hx)
      by_cases harr : x.arr = true
      · have hxe : encC x = num 1 ++ encL x.refs := by unfold encC; rw [if_pos harr]
        have hxl : (encC x).length = (num 1).length + (encL x.refs).length := by rw [hxe, List.length_append]
        refine GX.wR ?_; intros
        refine GX.drawn0  (fun j => !(List.contains [10, 11] j)) [(0, true), (1, true), (4, true), (5, true), (6, true), (7, true), (8, true), (9, true), (2, false), (3, false), (10, false), (11, false), (12, true)] rfl (by kernel_rfl) (by kernel_rfl) (by first | ((repeat (first | apply Go.GX.SelR.nil | apply Go.GX.SelR.cons | (with_reducible apply Go.GX.TakeR.head) | apply Go.GX.TakeR.tail)); done) | (repeat (first | apply Go.GX.SelR.nil | apply Go.GX.SelR.cons | apply Go.GX.TakeR.head | apply Go.GX.TakeR.tail))) ?_; intro wd F hW hR
        refine GX.wT ?_; intros
        refine GX.gow ?_; refine (cl (rnum_spec 1 ⟨by omega, by omega⟩) fun s_ => ?_); obtain ⟨a_, c_⟩ := s_; dsimp only; refine frz a_ ?_; refine GX.wT ?_; intros
        refine GX.gow ?_; refine (cl (rnums_spec _ _ x.refs hxo (by omega)) fun s_ => ?_); obtain ⟨a_, c_⟩ := s_; dsimp only; refine frz a_ ?_; refine GX.wT ?_; intros
        refine GX.wR ?_; intros
        refine GX.nmS 4 ?_; rintro a9 c9 rfl rfl
        exact again ⟨a9, c9, i + 1, D ++ num 1 ++ encL x.refs⟩ ⟨rfl, rfl, rfl, trivial⟩ ⟨by dsimp only; omega, by dsimp only; rw [hD, hsn, hxe]; simp only [List.append_assoc]⟩ (by dsimp only; omega)
      · have hxe : encC x = num 0 ++ encL x.refs := by unfold encC; rw [if_neg harr]
        have harr2 : x.arr = false := by simpa using harr
        have hxl : (encC x).length = (num 0).length + (encL x.refs).length := by rw [hxe, List.length_append]
        refine GX.wR ?_; intros
        refine GX.drawn0  (fun j => !(List.contains [10, 11] j)) [(0, true), (1, true), (4, true), (5, true), (6, true), (7, true), (8, true), (9, true), (2, false), (3, false), (10, false), (11, false), (12, true)] rfl (by kernel_rfl) (by kernel_rfl) (by first | ((repeat (first | apply Go.GX.SelR.nil | apply Go.GX.SelR.cons | (with_reducible apply Go.GX.TakeR.head) | apply Go.GX.TakeR.tail)); done) | (repeat (first | apply Go.GX.SelR.nil | apply Go.GX.SelR.cons | apply Go.GX.TakeR.head | apply Go.GX.TakeR.tail))) ?_; intro wd F hW hR
        refine GX.wT ?_; intros
        refine GX.gow ?_; refine (cl (rnum_spec 0 ⟨by omega, by omega⟩) fun s_ => ?_); obtain ⟨a_, c_⟩ := s_; dsimp only; refine frz a_ ?_; refine GX.wT ?_; intros
        refine GX.gow ?_; refine (cl (rnums_spec _ _ x.refs hxo (by omega)) fun s_ => ?_); obtain ⟨a_, c_⟩ := s_; dsimp only; refine frz a_ ?_; refine GX.wT ?_; intros
        refine GX.wR ?_; intros
        refine GX.nmS 4 ?_; rintro a9 c9 rfl rfl
        exact again ⟨a9, c9, i + 1, D ++ num 0 ++ encL x.refs⟩ ⟨rfl, rfl, rfl, trivial⟩ ⟨by dsimp only; omega, by dsimp only; rw [hD, hsn, hxe]; simp only [List.append_assoc]⟩ (by dsimp only; omega)
    rw [List.take_of_length_le (by omega)] at hD
    have hDl : D.length = P1.length + (t.classes.flatMap encC).length := by rw [hD, List.length_append]
    refine GX.wR ?_; intros
    refine GX.drawn0  (fun j => !(List.contains [8, 9] j)) [(0, true), (1, true), (2, true), (5, true), (6, true), (7, true), (3, false), (4, false), (8, false), (9, false), (10, true)] rfl (by kernel_rfl) (by kernel_rfl) (by first | ((repeat (first | apply Go.GX.SelR.nil | apply Go.GX.SelR.cons | (with_reducible apply Go.GX.TakeR.head) | apply Go.GX.TakeR.tail)); done) | (repeat (first | apply Go.GX.SelR.nil | apply Go.GX.SelR.cons | apply Go.GX.TakeR.head | apply Go.GX.TakeR.tail))) ?_; intro wd F hW hR
    refine GX.wT ?_; intros
    refine GX.gow ?_; refine (cl (rnums_spec _ _ t.globals t2 (by omega)) fun s_ => ?_); obtain ⟨a_, c_⟩ := s_; dsimp only; refine frz a_ ?_; refine GX.wT ?_; intros
    refine GX.gow ?_; refine (cl (rnum_spec (t.units.length : Int) ⟨by omega, by omega⟩) fun s_ => ?_); obtain ⟨a_, c_⟩ := s_; dsimp only; refine frz a_ ?_; refine GX.wT ?_; intros
    refine GX.wR ?_; intros
    refine GX.nmS 4 ?_; rintro a2 c2 rfl rfl
    obtain ⟨P2, hP2⟩ : ∃ P2, P2 = D ++ encL t.globals ++ num (t.units.length : Int) := ⟨_, rfl⟩
    have hP2l : P2.length = D.length + (encL t.globals).length + (num (t.units.length : Int)).length := by rw [hP2]; simp only [List.length_append]
    rw [← hP2]
    refine GX.loop (σ := RwU) (fun q => [(1, .pointer (some ⟨b1, 0, none⟩)), (4, .slice q.ao q.D.length q.cap), (7, .int .i64 (q.i : Int))]) (fun _ => []) (fun q => [Own 5 Ty.byte q.ao q.cap q.D])
      (fun q => q.i ≤ t.units.length ∧ q.D = P2 ++ (t.units.take q.i).flatMap encU) (fun q => t.units.length - q.i) ⟨a2, c2, 0, P2⟩ ⟨rfl, rfl, rfl, trivial⟩ ⟨Nat.zero_le _, by simp⟩ (fun q hq => ?_)
    obtain ⟨aB3, cB3, j, D2⟩ := q
    obtain ⟨hj, hD2⟩ := hq
    dsimp only at *
    by_cases hjl : j < t.units.length
    · obtain ⟨u, hx⟩ := get_lt hjl
      obtain ⟨u1, u2, u3, u4, u5, u6⟩ := t3 u (List.mem_of_getElem? hx)
      have hsn := fm_snoc (f := encU) hx
      have htk := fm_take encU t.units (j + 1)
      rw [hsn, List.length_append] at htk
      have hDl2 : D2.length + (encU u).length ≤ 1000000000 := by rw [hD2, List.length_append]; omega
      have hul : (encU u).length = (num u.params).length + ((encL u.vars).length + ((num u.result).length + ((encL u.takes).length + ((encL u.owns).length + ((num (u.ins.length : Int)).length + (u.ins.flatMap encI).length))))) := by unfold encU; simp only [List.length_append]
      refine GX.wR ?_; intros
      refine GX.nmP 8 ?_; rintro b8 rfl
      refine frzB b8 ?_
      refine GX.drawn0  (fun j => !(List.contains [11, 12] j)) [(0, true), (1, true), (2, true), (5, true), (6, true), (9, true), (10, true), (3, false), (4, false), (7, false), (8, false), (11, false), (12, false), (13, true)] rfl (by kernel_rfl) (by kernel_rfl) (by first | ((repeat (first | apply Go.GX.SelR.nil | apply Go.GX.SelR.cons | (with_reducible apply Go.GX.TakeR.head) | apply Go.GX.TakeR.tail)); done) | (repeat (first | apply Go.GX.SelR.nil | apply Go.GX.SelR.cons | apply Go.GX.TakeR.head | apply Go.GX.TakeR.tail))) ?_; intro wd F hW hR
      refine GX.wT ?_; intros
      refine GX.gow ?_; refine (cl (rnum_spec u.params u1) fun s_ => ?_); obtain ⟨a_, c_⟩ := s_; dsimp only; refine frz a_ ?_; refine GX.wT ?_; intros
      refine GX.gow ?_; refine (cl (rnums_spec _ _ u.vars u2 (by omega)) fun s_ => ?_); obtain ⟨a_, c_⟩ := s_; dsimp only; refine frz a_ ?_; refine GX.wT ?_; intros
      refine GX.gow ?_; refine (cl (rnum_spec u.result u3) fun s_ => ?_); obtain ⟨a_, c_⟩ := s_; dsimp only; refine frz a_ ?_; refine GX.wT ?_; intros
      refine GX.wR ?_; intros
      refine GX.drawn0  (fun j => !(List.contains [12, 13] j)) [(0, true), (1, true), (2, true), (5, true), (6, true), (9, true), (10, true), (11, true), (3, false), (4, false), (7, false), (8, false), (12, false), (13, false), (14, true)] rfl (by kernel_rfl) (by kernel_rfl) (by first | ((repeat (first | apply Go.GX.SelR.nil | apply Go.GX.SelR.cons | (with_reducible apply Go.GX.TakeR.head) | apply Go.GX.TakeR.tail)); done) | (repeat (first | apply Go.GX.SelR.nil | apply Go.GX.SelR.cons | apply Go.GX.TakeR.head | apply Go.GX.TakeR.tail))) ?_; intro wd F hW hR
      refine GX.wT ?_; intros
      refine GX.gow ?_; refine (cl (rnums_spec _ _ u.takes u4 (by omega)) fun s_ => ?_); obtain ⟨a_, c_⟩ := s_; dsimp only; refine frz a_ ?_; refine GX.wT ?_; intros
      refine GX.gow ?_; refine (cl (rnums_spec _ _ u.owns u5 (by omega)) fun s_ => ?_); obtain ⟨a_, c_⟩ := s_; dsimp only; refine frz a_ ?_; refine GX.wT ?_; intros
      refine GX.gow ?_; refine (cl (rnum_spec (u.ins.length : Int) ⟨by omega, by omega⟩) fun s_ => ?_); obtain ⟨a_, c_⟩ := s_; dsimp only; refine frz a_ ?_; refine GX.wT ?_; intros
      refine GX.wR ?_; intros
      refine GX.nmS 4 ?_; rintro a4 c4 rfl rfl
      obtain ⟨P3, hP3⟩ : ∃ P3, P3 = D2 ++ num u.params ++ encL u.vars ++ num u.result ++ encL u.takes ++ encL u.owns ++ num (u.ins.length : Int) := ⟨_, rfl⟩
      have hfin : D2 ++ encU u = P3 ++ u.ins.flatMap encI := by rw [hP3]; unfold encU; simp only [List.append_assoc]
      have hPl : P3.length + (u.ins.flatMap encI).length ≤ 1000000000 := by rw [← List.length_append, hfin.symm, List.length_append]; exact hDl2
      rw [← hP3]
      refine GX.loop (σ := RwU) (fun q => [(1, .pointer (some ⟨b1, 0, none⟩)), (4, .slice q.ao q.D.length q.cap), (7, .int .i64 (j : Int)), (8, .pointer (some ⟨b8, 0, none⟩)), (9, .int .i64 (q.i : Int))]) (fun _ => []) (fun q => [Own 5 Ty.byte q.ao q.cap q.D])
        (fun q => q.i ≤ u.ins.length ∧ q.D = P3 ++ (u.ins.take q.i).flatMap encI) (fun q => u.ins.length - q.i) ⟨a4, c4, 0, P3⟩ ⟨rfl, rfl, rfl, rfl, rfl, trivial⟩ ⟨Nat.zero_le _, by simp⟩ (fun q hq => ?_)
      obtain ⟨aB5, cB5, k, D3⟩ := q
      obtain ⟨hk, hD3⟩ := hq
      dsimp only at *
      by_cases hkl : k < u.ins.length
      · obtain ⟨x, hxi⟩ := get_lt hkl
        obtain ⟨x1, x2, x3, x4, x5, x6⟩ := u6 x (List.mem_of_getElem? hxi)
        have hsni := fm_snoc (f := encI) hxi
        have htki := fm_take encI u.ins (k + 1)
        rw [hsni, List.length_append] at htki
        have hDl3 : D3.length + (encI x).length ≤ 1000000000 := by rw [hD3, List.length_append]; omega
        have hxi2 : encI x = num x.op ++ num x.a ++ num x.b ++ num x.c ++ num x.n ++ encL x.args := by unfold encI encs; simp
        have hxl : (encI x).length = (num x.op).length + (num x.a).length + (num x.b).length + (num x.c).length + (num x.n).length + (encL x.args).length := by rw [hxi2]; simp only [List.length_append]
        refine GX.wR ?_; intros
        refine GX.nmP 10 ?_; rintro b10 rfl
        refine frzB b10 ?_
        refine GX.drawn0  (fun j => !(List.contains [11, 12] j)) [(0, true), (1, true), (2, true), (5, true), (6, true), (9, true), (10, true), (3, false), (4, false), (7, false), (8, false), (11, false), (12, false), (13, true)] rfl (by kernel_rfl) (by kernel_rfl) (by first | ((repeat (first | apply Go.GX.SelR.nil | apply Go.GX.SelR.cons | (with_reducible apply Go.GX.TakeR.head) | apply Go.GX.TakeR.tail)); done) | (repeat (first | apply Go.GX.SelR.nil | apply Go.GX.SelR.cons | apply Go.GX.TakeR.head | apply Go.GX.TakeR.tail))) ?_; intro wd F hW hR
        refine GX.wT ?_; intros
        refine GX.gow ?_; refine (cl (rnum_spec x.op x1) fun s_ => ?_); obtain ⟨a_, c_⟩ := s_; dsimp only; refine frz a_ ?_; refine GX.wT ?_; intros
        refine GX.gow ?_; refine (cl (rnum_spec x.a x2) fun s_ => ?_); obtain ⟨a_, c_⟩ := s_; dsimp only; refine frz a_ ?_; refine GX.wT ?_; intros
        refine GX.gow ?_; refine (cl (rnum_spec x.b x3) fun s_ => ?_); obtain ⟨a_, c_⟩ := s_; dsimp only; refine frz a_ ?_; refine GX.wT ?_; intros
        refine GX.wR ?_; intros
        refine GX.drawn0  (fun j => !(List.contains [11, 12] j)) [(0, true), (1, true), (2, true), (5, true), (6, true), (9, true), (10, true), (3, false), (4, false), (7, false), (8, false), (11, false), (12, false), (13, true)] rfl (by kernel_rfl) (by kernel_rfl) (by first | ((repeat (first | apply Go.GX.SelR.nil | apply Go.GX.SelR.cons | (with_reducible apply Go.GX.TakeR.head) | apply Go.GX.TakeR.tail)); done) | (repeat (first | apply Go.GX.SelR.nil | apply Go.GX.SelR.cons | apply Go.GX.TakeR.head | apply Go.GX.TakeR.tail))) ?_; intro wd F hW hR
        refine GX.wT ?_; intros
        refine GX.gow ?_; refine (cl (rnum_spec x.c x4) fun s_ => ?_); obtain ⟨a_, c_⟩ := s_; dsimp only; refine frz a_ ?_; refine GX.wT ?_; intros
        refine GX.gow ?_; refine (cl (rnum_spec x.n x5) fun s_ => ?_); obtain ⟨a_, c_⟩ := s_; dsimp only; refine frz a_ ?_; refine GX.wT ?_; intros
        refine GX.gow ?_; refine (cl (rnums_spec _ _ x.args x6 (by omega)) fun s_ => ?_); obtain ⟨a_, c_⟩ := s_; dsimp only; refine frz a_ ?_; refine GX.wT ?_; intros
        refine GX.wR ?_; intros
        refine GX.nmS 4 ?_; rintro a9 c9 rfl rfl
        exact again ⟨a9, c9, k + 1, D3 ++ num x.op ++ num x.a ++ num x.b ++ num x.c ++ num x.n ++ encL x.args⟩ ⟨rfl, rfl, rfl, rfl, rfl, trivial⟩ ⟨by dsimp only; omega, by dsimp only; rw [hD3, hsni, hxi2]; simp only [List.append_assoc]⟩ (by dsimp only; omega)
      rw [List.take_of_length_le (by omega), ← hfin] at hD3
      subst hD3
      refine GX.wR ?_; intros
      exact again ⟨aB5, cB5, j + 1, D2 ++ encU u⟩ ⟨rfl, rfl, rfl, trivial⟩ ⟨by dsimp only; omega, by dsimp only; rw [hD2, hsn, List.append_assoc]⟩ (by dsimp only; omega)
    rw [List.take_of_length_le (by omega)] at hD2
    have hD2l : D2.length = P2.length + (t.units.flatMap encU).length := by rw [hD2, List.length_append]
    refine GX.wR ?_; intros
    refine GX.o (cl (rnum_spec t.main t4) fun s => ?_)
    obtain ⟨a1, c1⟩ := s
    dsimp only
    refine frz a1 ?_
    have hall : D2 ++ num t.main = encT t := by rw [hD2, hP2, hD, hP1]; unfold encT; simp only [List.append_assoc]
    refine GX.wR ?_; intros
    rw [hall]
    refine GX.nmS 2 ?_; rintro a9 c9 rfl rfl
    refine frz a9 ?_
    exact rt2 ((a9, c9) : AC) rfl
  · rw [show putT t = [] from if_neg hr, show putE t = 5 from if_neg hr]
    refine GX.wR ?_; intros
    refine slNil Ty.byte ?_
    exact rt2 ((none, 0) : AC) rfl
end Go.Proofs.Ytdkhfjcbhpfkoaa

/- From the form's own reading of what comes in to the readings of this walk. No program in sight. -/
namespace Go.GX
open Go Go.RowKit Go.RR Go.RX Go.Api

section
variable {P : Program}
/-- What the form reads at type t reads so, and is such. -/
def Conv (P : Program) (t : TypeId) {α : Type} (e : Ty α) (ok : α → Prop) : Prop :=
  ∀ {H : Type} (enc : TypeId × Value → H) (w : World) (spare : Nat → Bool) (held : Bool) (fuel : Nat) (cs : List Value) (x : DataW H × List MemPlace),
    DataW.trod enc P w 0 spare held fuel t cs = some x → ∃ y, e.rd (fun k => k < w.heap.size) w cs y ∧ ok y

theorem wf_i64 {a : Int} (h : (Lit.int .i64 a).wf = true) : -9223372036854775808 ≤ a ∧ a ≤ 9223372036854775807 := by
  simp only [Lit.wf, Bool.and_eq_true, decide_eq_true_eq] at h
  exact h
theorem conv_int {t : TypeId} (h : P.underlying t = some (.int .i64)) : Conv P t Ty.int I64 := by
  intro H enc w spare held fuel cs x hx
  obtain ⟨n, rfl, _, hw⟩ := DataW.trod_int h hx
  exact ⟨n, rfl, wf_i64 hw⟩
theorem conv_byte {t : TypeId} (h : P.underlying t = some (.int .u8)) : Conv P t Ty.byte (fun x => 0 ≤ x ∧ x ≤ 255) := by
  intro H enc w spare held fuel cs x hx
  obtain ⟨n, rfl, _, hw⟩ := DataW.trod_int h hx
  simp only [Lit.wf, Bool.and_eq_true, decide_eq_true_eq] at hw
  exact ⟨n, rfl, hw⟩
theorem conv_bool {t : TypeId} (h : P.underlying t = some .bool) : Conv P t Ty.bool (fun _ => True) := by
  intro H enc w spare held fuel cs x hx
  cases fuel with
  | zero => simp [DataW.trod] at hx
  | succ n =>
    unfold DataW.trod at hx
    rw [h] at hx
    split at hx <;> first | (rename_i b _; exact ⟨_, rfl, trivial⟩) | simp_all

theorem choose_list {α : Type} {p : Nat → α → Prop} : ∀ (n : Nat), (∀ i, i < n → ∃ x, p i x) → ∃ l : List α, l.length = n ∧ ∀ (i : Nat) x, l[i]? = some x → p i x
  | 0, _ => ⟨[], rfl, by simp⟩
  | n + 1, h => by
    obtain ⟨l, hl, hp⟩ := choose_list n (fun i hi => h i (by omega))
    obtain ⟨x, hx⟩ := h n (by omega)
    refine ⟨l ++ [x], by simp [hl], fun i y hy => ?_⟩
    rcases Nat.lt_or_ge i l.length with hi | hi
    · rw [List.getElem?_append_left hi] at hy; exact hp i y hy
    · rw [List.getElem?_append_right hi] at hy
      rcases hq : i - l.length with _ | q
      · rw [hq] at hy; simp at hy; subst hy
        rw [show i = n by omega]; exact hx
      · rw [hq] at hy; simp at hy

theorem conv_slice {t et : TypeId} {α : Type} {e : Ty α} {ok : α → Prop} (ht : P.underlying t = some (.slice et)) (hs : P.cellsOf et = e.size) (hp : 0 < e.size) (he : Conv P et e ok) : Conv P t (Ty.slice e) (fun l => ∀ x ∈ l, ok x) := by
  intro H enc w spare held fuel cs x hx
  rcases Go.Deep.open_slice ht hx with ⟨rfl, _⟩ | ⟨a, len, cap, m, n, D, Pl, rfl, _, hl, hm, hmm, _, hel⟩
  · exact ⟨[], ⟨none, 0, rfl, by simp, by omega, fun i x hx => by simp at hx⟩, by simp⟩
  · have hml : len ≤ m := by rw [hmm]; split <;> omega
    obtain ⟨l, hll, hlp⟩ := choose_list (α := α × List Value) (p := fun i q => w.cells? 0 (a.add (i * e.size)) e.size = some q.2 ∧ e.rd (fun k => k < w.heap.size) w q.2 q.1 ∧ ok q.1) len (fun i hi => by
      obtain ⟨cs', h1, h2⟩ := hel i (by omega)
      obtain ⟨y, hy⟩ := he enc w spare held n cs' _ h2
      rw [hs] at h1
      exact ⟨(y, cs'), h1, hy⟩)
    refine ⟨l.map (·.1), ⟨some a, cap, by simp [hll], by simp [hll, hl], by simp only [maxLen] at hm; omega, fun i x hx => ?_⟩, fun x hx => ?_⟩
    · rw [List.getElem?_map] at hx
      obtain ⟨⟨y, cs'⟩, hq, rfl⟩ := Option.map_eq_some_iff.1 hx
      obtain ⟨h1, h2, _⟩ := hlp i _ hq
      dsimp only at h1 h2 ⊢
      have hi : i < len := by have := (List.getElem?_eq_some_iff.1 hq).1; omega
      obtain ⟨_, hlen, hc⟩ := World.cells?_some h1
      have hspot : a.spot = none := by
        obtain ⟨cs0, g1, g2⟩ := hel 0 (by omega)
        rw [hs] at g1
        obtain ⟨_, g3, g4⟩ := World.cells?_some g1
        have := g4 0 (by omega)
        simp only [Nat.zero_mul, Addr.add_zero'] at this
        have g5 : cs0[0]? = some cs0[0] := List.getElem?_eq_getElem (by omega)
        cases hsp : a.spot with
        | none => rfl
        | some q =>
          exfalso
          have h6 : w.cell? a = some cs0[0] := by simpa [g5] using this
          unfold World.cell? at h6
          split at h6
          · simp [hsp] at h6
          · cases h6
      obtain ⟨b, o, sp⟩ := a
      dsimp only at hspot
      subst hspot
      have hcell : CellsAt w b (o + i * e.size) cs' := fun j c hj => by
        have hjl : j < e.size := by have := (List.getElem?_eq_some_iff.1 hj).1; omega
        have := hc j (by omega)
        rw [Addr.add_lit, Addr.add_lit] at this
        rw [this, hj]
      have h0 : cs'[0]? = some cs'[0] := List.getElem?_eq_getElem (by omega)
      have hb := cell_lt (hcell 0 _ h0)
      exact ⟨b, o, cs', rfl, hb, hb, hcell, h2⟩
    · obtain ⟨q, hq, rfl⟩ := List.mem_map.1 hx
      obtain ⟨i, hi⟩ := List.getElem?_of_mem hq
      exact (hlp i q hi).2.2

/-- The fields of a struct, one after the other. -/
def ConvF (P : Program) (fs : List Field) (off : Nat) {α : Type} (r : Ty α) (ok : α → Prop) : Prop :=
  ∀ {H : Type} (enc : TypeId × Value → H) (w : World) (spare : Nat → Bool) (held : Bool) (fuel : Nat) (cs : List Value) (xs : List (DataW H × List MemPlace)),
    off + r.size = cs.length → fs.mapM (fun f => DataW.trod enc P w 0 spare held fuel f.type ((cs.drop f.offset).take (P.cellsOf f.type))) = some xs → ∃ y, r.rd (fun k => k < w.heap.size) w (cs.drop off) y ∧ ok y
theorem convF_nil {off : Nat} : ConvF P [] off Ty.unit (fun _ => True) := by
  intro H enc w spare held fuel cs xs hl _
  exact ⟨(), by simp [Ty.unit] at hl ⊢; omega, trivial⟩
theorem convF_cons {f : Field} {fs : List Field} {off : Nat} {α β : Type} {r : Ty α} {s : Ty β} {ok1 : α → Prop} {ok2 : β → Prop} (ho : f.offset = off) (hs : P.cellsOf f.type = r.size) (h1 : Conv P f.type r ok1) (h2 : ConvF P fs (off + r.size) s ok2) : ConvF P (f :: fs) off (Ty.pair r s) (fun x => ok1 x.1 ∧ ok2 x.2) := by
  intro H enc w spare held fuel cs xs hl hx
  rw [List.mapM_cons] at hx
  cases hy : DataW.trod enc P w 0 spare held fuel f.type ((cs.drop f.offset).take (P.cellsOf f.type)) with
  | none => rw [hy] at hx; simp at hx
  | some y =>
    rw [hy] at hx
    cases hz : fs.mapM (fun f => DataW.trod enc P w 0 spare held fuel f.type ((cs.drop f.offset).take (P.cellsOf f.type))) with
    | none => rw [hz] at hx; simp at hx
    | some zs =>
      obtain ⟨u, hu, ou⟩ := h1 enc w spare held fuel _ _ hy
      obtain ⟨v, hv, ov⟩ := h2 enc w spare held fuel cs zs (by simp only [Ty.pair] at hl; omega) hz
      rw [ho, hs] at hu
      refine ⟨(u, v), ⟨_, _, ?_, hu, hv⟩, ou, ov⟩
      rw [← List.drop_drop, List.take_append_drop]
theorem conv_struct {t : TypeId} {fs : Array Field} {l : List Field} {α : Type} {r : Ty α} {ok : α → Prop} (ht : P.underlying t = some (.struct fs)) (hl : fs.toList = l) (hs : P.cellsOf t = r.size) (h : ConvF P l 0 r ok) : Conv P t r ok := by
  intro H enc w spare held fuel cs x hx
  subst hl
  cases fuel with
  | zero => simp [DataW.trod] at hx
  | succ n =>
    unfold DataW.trod at hx
    rw [ht] at hx
    simp only at hx
    split at hx
    · rename_i hl
      obtain ⟨xs, hxs, _⟩ := Option.map_eq_some_iff.1 hx
      have := h enc w spare held n cs xs (by omega) hxs
      simpa using this
    · cases hx
theorem conv_co {t : TypeId} {α β : Type} {r : Ty α} {ok : α → Prop} {g : β → α} {ok' : β → Prop} (inv : α → β) (h1 : ∀ x, g (inv x) = x) (h2 : ∀ x, ok x → ok' (inv x)) (h : Conv P t r ok) : Conv P t (Ty.co r g) ok' := by
  intro H enc w spare held fuel cs x hx
  obtain ⟨y, hy, ho⟩ := h enc w spare held fuel cs x hx
  exact ⟨inv y, by show r.rd _ _ _ (g (inv y)); rw [h1]; exact hy, h2 y ho⟩

/-! From a walk of a law to what its row asks. -/
theorem Does.calls {f : FuncId} {args : List Value} {ps : List Pf} (h : Does P f args ps [] (fun _ : Unit => .bool true) (fun _ => []) (fun _ => [])) (w : World) (hps : AllP (fun k => k < w.heap.size) w ps) :
    Calls P f args.toArray w fun e w' => e = .returned (.bool true) ∧ Upd (fun _ => False) w w' := by
  refine (h.run w (fun k => k < w.heap.size) ⟨w, fun _ => False, fun k => k < w.heap.size⟩ ⟨Upd.refl _ _, fun _ h => h, fun k h _ => .inl h, hps, no_r, by simp, by simp, by simp⟩).mono ?_
  rintro e w' ⟨_, he, F', s⟩
  exact ⟨he, s.upd.mono (fun k _ hk => absurd hk feet_nil)⟩
theorem all_nil {F : Nat → Prop} {w : World} : AllP F w [] := no_p
theorem all_cons {F : Nat → Prop} {w : World} {p : Pf} {l : List Pf} (h : p.says F w) (hl : AllP F w l) : AllP F w (p :: l) := fun q hq => by
  rcases List.mem_cons.1 hq with rfl | hq
  · exact h
  · exact hl q hq
/-- A slice that comes in. -/
theorem sl_in {F : Nat → Prop} {w : World} {α : Type} {e : Ty α} {s : Option Addr} {k c : Nat} {x : List α} (z : (Ty.slice e).rd F w (Value.slice s k c).cells.toList x) : k = x.length ∧ (Sl e s c x).says F w := by
  obtain ⟨ao, cap, he, h1, h2, h3⟩ := z
  have : [Value.slice s k c] = [Value.slice ao x.length cap] := he
  simp at this
  obtain ⟨rfl, rfl, rfl⟩ := this
  exact ⟨rfl, h1, h2, h3⟩
theorem ag_in {F : Nat → Prop} {w : World} {α : Type} {e : Ty α} {cs : Array Value} {x : α} (z : e.rd F w (Value.agg cs).cells.toList x) : (Ag e cs.toList x).says F w := z
end
end Go.GX

/- How what comes in reads, for this seat's structs. Written by wip/api.py. -/
namespace Go.Proofs.Ytdkhfjcbhpfkoaa
open Go Go.RowKit Go.RR Go.RX Go.GX Go.Api
theorem cv_int : Conv Try.prog 3 Ty.int I64 := conv_int Try.underlying3
theorem cv_byte : Conv Try.prog 5 Ty.byte (fun x => 0 ≤ x ∧ x ≤ 255) := conv_byte Try.underlying5
theorem cv_bool : Conv Try.prog 4 Ty.bool (fun _ => True) := conv_bool Try.underlying4
theorem cv_ints : Conv Try.prog 23 (Ty.slice Ty.int) (fun l => ∀ x ∈ l, I64 x) := conv_slice (et := 3) Try.underlying23 (by kernel_rfl) (by decide) cv_int
theorem conv_ins : Conv Try.prog 49 tyIns Go.Api.Ins.ok := by
  refine conv_co (ok := fun x => I64 x.1 ∧ I64 x.2.1 ∧ I64 x.2.2.1 ∧ I64 x.2.2.2.1 ∧ I64 x.2.2.2.2.1 ∧ (fun l => ∀ x ∈ l, I64 x) x.2.2.2.2.2.1 ∧ True) (fun x => ⟨x.1, x.2.1, x.2.2.1, x.2.2.2.1, x.2.2.2.2.1, x.2.2.2.2.2.1⟩) (fun x => rfl) (fun x h => ⟨h.1, h.2.1, h.2.2.1, h.2.2.2.1, h.2.2.2.2.1, h.2.2.2.2.2.1⟩) ?_
  apply conv_struct (l := [_, _, _, _, _, _]) Try.underlying49 rfl (by kernel_rfl)
  apply convF_cons (ok1 := I64) (ok2 := fun x : Int × Int × Int × Int × (List Int) × Unit => I64 x.1 ∧ I64 x.2.1 ∧ I64 x.2.2.1 ∧ I64 x.2.2.2.1 ∧ (fun l => ∀ x ∈ l, I64 x) x.2.2.2.2.1 ∧ True) rfl (by kernel_rfl) cv_int
  apply convF_cons (ok1 := I64) (ok2 := fun x : Int × Int × Int × (List Int) × Unit => I64 x.1 ∧ I64 x.2.1 ∧ I64 x.2.2.1 ∧ (fun l => ∀ x ∈ l, I64 x) x.2.2.2.1 ∧ True) rfl (by kernel_rfl) cv_int
  apply convF_cons (ok1 := I64) (ok2 := fun x : Int × Int × (List Int) × Unit => I64 x.1 ∧ I64 x.2.1 ∧ (fun l => ∀ x ∈ l, I64 x) x.2.2.1 ∧ True) rfl (by kernel_rfl) cv_int
  apply convF_cons (ok1 := I64) (ok2 := fun x : Int × (List Int) × Unit => I64 x.1 ∧ (fun l => ∀ x ∈ l, I64 x) x.2.1 ∧ True) rfl (by kernel_rfl) cv_int
  apply convF_cons (ok1 := I64) (ok2 := fun x : (List Int) × Unit => (fun l => ∀ x ∈ l, I64 x) x.1 ∧ True) rfl (by kernel_rfl) cv_int
  apply convF_cons (ok1 := (fun l => ∀ x ∈ l, I64 x)) (ok2 := fun x : Unit => True) rfl (by kernel_rfl) cv_ints
  apply convF_nil
theorem conv_inss : Conv Try.prog 45 (Ty.slice tyIns) (fun l => ∀ x ∈ l, Go.Api.Ins.ok x) := conv_slice (et := 49) Try.underlying45 (by kernel_rfl) (by decide) conv_ins
theorem cv_intss : Conv Try.prog 90 (Ty.slice (Ty.slice Ty.int)) (fun l => ∀ x ∈ l, (fun l => ∀ x ∈ l, I64 x) x) := conv_slice (et := 23) Try.underlying90 (by kernel_rfl) (by decide) cv_ints
theorem conv_layout : Conv Try.prog 44 tyLayout Go.Api.Layout.ok := by
  refine conv_co (ok := fun x => (fun _ => True) x.1 ∧ (fun l => ∀ x ∈ l, I64 x) x.2.1 ∧ True) (fun x => ⟨x.1, x.2.1⟩) (fun x => rfl) (fun x h => h.2.1) ?_
  apply conv_struct (l := [_, _]) Try.underlying44 rfl (by kernel_rfl)
  apply convF_cons (ok1 := (fun _ => True)) (ok2 := fun x : (List Int) × Unit => (fun l => ∀ x ∈ l, I64 x) x.1 ∧ True) rfl (by kernel_rfl) cv_bool
  apply convF_cons (ok1 := (fun l => ∀ x ∈ l, I64 x)) (ok2 := fun x : Unit => True) rfl (by kernel_rfl) cv_ints
  apply convF_nil
theorem conv_layouts : Conv Try.prog 22 (Ty.slice tyLayout) (fun l => ∀ x ∈ l, Go.Api.Layout.ok x) := conv_slice (et := 44) Try.underlying22 (by kernel_rfl) (by decide) conv_layout
theorem conv_unt : Conv Try.prog 47 tyUnt Go.Api.Unt.ok := by
  refine conv_co (ok := fun x => I64 x.1 ∧ (fun l => ∀ x ∈ l, I64 x) x.2.1 ∧ I64 x.2.2.1 ∧ (fun l => ∀ x ∈ l, I64 x) x.2.2.2.1 ∧ (fun l => ∀ x ∈ l, I64 x) x.2.2.2.2.1 ∧ (fun l => ∀ x ∈ l, Go.Api.Ins.ok x) x.2.2.2.2.2.1 ∧ True) (fun x => ⟨x.1, x.2.1, x.2.2.1, x.2.2.2.1, x.2.2.2.2.1, x.2.2.2.2.2.1⟩) (fun x => rfl) (fun x h => ⟨h.1, h.2.1, h.2.2.1, h.2.2.2.1, h.2.2.2.2.1, h.2.2.2.2.2.1⟩) ?_
  apply conv_struct (l := [_, _, _, _, _, _]) Try.underlying47 rfl (by kernel_rfl)
  apply convF_cons (ok1 := I64) (ok2 := fun x : (List Int) × Int × (List Int) × (List Int) × (List Go.Api.Ins) × Unit => (fun l => ∀ x ∈ l, I64 x) x.1 ∧ I64 x.2.1 ∧ (fun l => ∀ x ∈ l, I64 x) x.2.2.1 ∧ (fun l => ∀ x ∈ l, I64 x) x.2.2.2.1 ∧ (fun l => ∀ x ∈ l, Go.Api.Ins.ok x) x.2.2.2.2.1 ∧ True) rfl (by kernel_rfl) cv_int
  apply convF_cons (ok1 := (fun l => ∀ x ∈ l, I64 x)) (ok2 := fun x : Int × (List Int) × (List Int) × (List Go.Api.Ins) × Unit => I64 x.1 ∧ (fun l => ∀ x ∈ l, I64 x) x.2.1 ∧ (fun l => ∀ x ∈ l, I64 x) x.2.2.1 ∧ (fun l => ∀ x ∈ l, Go.Api.Ins.ok x) x.2.2.2.1 ∧ True) rfl (by kernel_rfl) cv_ints
  apply convF_cons (ok1 := I64) (ok2 := fun x : (List Int) × (List Int) × (List Go.Api.Ins) × Unit => (fun l => ∀ x ∈ l, I64 x) x.1 ∧ (fun l => ∀ x ∈ l, I64 x) x.2.1 ∧ (fun l => ∀ x ∈ l, Go.Api.Ins.ok x) x.2.2.1 ∧ True) rfl (by kernel_rfl) cv_int
  apply convF_cons (ok1 := (fun l => ∀ x ∈ l, I64 x)) (ok2 := fun x : (List Int) × (List Go.Api.Ins) × Unit => (fun l => ∀ x ∈ l, I64 x) x.1 ∧ (fun l => ∀ x ∈ l, Go.Api.Ins.ok x) x.2.1 ∧ True) rfl (by kernel_rfl) cv_ints
  apply convF_cons (ok1 := (fun l => ∀ x ∈ l, I64 x)) (ok2 := fun x : (List Go.Api.Ins) × Unit => (fun l => ∀ x ∈ l, Go.Api.Ins.ok x) x.1 ∧ True) rfl (by kernel_rfl) cv_ints
  apply convF_cons (ok1 := (fun l => ∀ x ∈ l, Go.Api.Ins.ok x)) (ok2 := fun x : Unit => True) rfl (by kernel_rfl) conv_inss
  apply convF_nil
theorem conv_unts : Conv Try.prog 24 (Ty.slice tyUnt) (fun l => ∀ x ∈ l, Go.Api.Unt.ok x) := conv_slice (et := 47) Try.underlying24 (by kernel_rfl) (by decide) conv_unt
theorem conv_rtg : Conv Try.prog 26 tyRTg Go.Api.RTg.ok := by
  refine conv_co (ok := fun x => (fun l => ∀ x ∈ l, Go.Api.Layout.ok x) x.1 ∧ (fun l => ∀ x ∈ l, I64 x) x.2.1 ∧ (fun l => ∀ x ∈ l, Go.Api.Unt.ok x) x.2.2.1 ∧ I64 x.2.2.2.1 ∧ True) (fun x => ⟨x.1, x.2.1, x.2.2.1, x.2.2.2.1⟩) (fun x => rfl) (fun x h => ⟨h.1, h.2.1, h.2.2.1, h.2.2.2.1⟩) ?_
  apply conv_struct (l := [_, _, _, _]) Try.underlying26 rfl (by kernel_rfl)
  apply convF_cons (ok1 := (fun l => ∀ x ∈ l, Go.Api.Layout.ok x)) (ok2 := fun x : (List Int) × (List Go.Api.Unt) × Int × Unit => (fun l => ∀ x ∈ l, I64 x) x.1 ∧ (fun l => ∀ x ∈ l, Go.Api.Unt.ok x) x.2.1 ∧ I64 x.2.2.1 ∧ True) rfl (by kernel_rfl) conv_layouts
  apply convF_cons (ok1 := (fun l => ∀ x ∈ l, I64 x)) (ok2 := fun x : (List Go.Api.Unt) × Int × Unit => (fun l => ∀ x ∈ l, Go.Api.Unt.ok x) x.1 ∧ I64 x.2.1 ∧ True) rfl (by kernel_rfl) cv_ints
  apply convF_cons (ok1 := (fun l => ∀ x ∈ l, Go.Api.Unt.ok x)) (ok2 := fun x : Int × Unit => I64 x.1 ∧ True) rfl (by kernel_rfl) conv_unts
  apply convF_cons (ok1 := I64) (ok2 := fun x : Unit => True) rfl (by kernel_rfl) cv_int
  apply convF_nil
theorem cv_bytes : Conv Try.prog 28 (Ty.slice Ty.byte) (fun l => ∀ x ∈ l, (fun x => 0 ≤ x ∧ x ≤ 255) x) := conv_slice (et := 5) Try.underlying28 (by kernel_rfl) (by decide) cv_byte
theorem cv_bools : Conv Try.prog 95 (Ty.slice Ty.bool) (fun l => ∀ x ∈ l, (fun _ => True) x) := conv_slice (et := 4) Try.underlying95 (by kernel_rfl) (by decide) cv_bool
end Go.Proofs.Ytdkhfjcbhpfkoaa

/- The walks over the reader of the reference of chapter 27: num, many, list. -/
namespace Go.Proofs.Ytdkhfjcbhpfkoaa
open Go Go.RR Go.RX Go.GX Go.Api Go.NumM
attribute [local irreducible] wpList Code.wp wpPlan Exit.then Exit.inBlock bodyPost NoPanic Went GX.Post GX.Again GX.Meet GX.RowR GX.Own GX.Owns GX.Box GX.Sl GX.Pt GX.Ag GX.MapR GX.Kept GX.Pin wpT GoK AtEnd Both

theorem wrap7 {i : Nat} (h : i ≤ 10) : IntKind.u64.wrap (7 * (i : Int)) = ((7 * i : Nat) : Int) := by rw [wrap_u64]; omega
set_option maxHeartbeats 2000000 in
theorem rrdNum_spec (p : Nat) (c : AC) (D : List Int) (d : Bool) :
    Does Try.prog 30 [.pointer (some ⟨p, 0, none⟩)] [Sl Ty.byte c.1 c.2 D] [RowR p 65 [.slice c.1 D.length c.2, .bool d]] (fun s : RdnS num I64 D d => .int .i64 s.x) (fun s => [Sl Ty.byte s.c.1 s.c.2 s.D2]) (fun s => [RowR p 65 [.slice s.c.1 s.D2.length s.c.2, .bool s.d2]]) := by
  refine enter Try.func30 rfl Try.ntmps30 rfl fun b => ?_
  obtain ⟨ao, cap⟩ := c
  dsimp only
  refine sln ao fun hn1 hn2 _ => ?_
  refine GX.wbR ?_; intros
  refine GX.loop (σ := RnS) (fun q => [(0, .pointer (some ⟨p, 0, none⟩)), (3, .int .u64 q.v), (4, .int .i64 (q.i : Int))]) (fun _ => []) (fun q => [RowR p 65 [.slice (ao, cap).1 D.length (ao, cap).2, .bool d]])
    (fun q => q.i ≤ D.length ∧ q.i ≤ 10 ∧ Mid D q.i q.v) (fun q => D.length - q.i) ⟨0, 0⟩ ⟨rfl, rfl, rfl, trivial⟩ ⟨Nat.zero_le _, by decide, mid0 D⟩ (fun q hq => ?_)
  obtain ⟨i, v⟩ := q
  obtain ⟨h1, h2, h3⟩ := hq
  dsimp only at *
  by_cases hlt : i < D.length
  · obtain ⟨x, hx⟩ := get_lt hlt
    by_cases h64 : 10 ≤ i
    · refine GX.wbR ?_; intros
      exact rt1 (⟨0, (ao, cap), D, true, rd_bad h3 (fun _ => .inr h64) (by omega)⟩ : RdnS num I64 D d) rfl
    · by_cases hd : d = true
      · subst hd
        refine GX.wbR ?_; intros
        exact rt1 (⟨0, (ao, cap), D, true, rd_bad h3 (fun h => absurd h (by decide)) (by omega)⟩ : RdnS num I64 D true) rfl
      have hd0 : d = false := by simpa using hd
      subst hd0
      by_cases hb : x < 128
      · obtain ⟨V, hV⟩ : ∃ V, V = bOr .u64 v (shlV .u64 (IntKind.u64.wrap (bAnd .u8 x 127)) ((7 * i : Nat) : Int)) := ⟨_, rfl⟩
        by_cases hbit : bAnd .u64 V 1 = 1
        · have hz2 : zagR V = IntKind.i64.wrap (cplV .u64 (shrV .u64 V 1)) := if_pos hbit
          rw [hV] at hbit hz2
          have hbit2 := Classical.not_not.2 hbit
          refine GX.wbR ?_; intros
          rw [wrap7 h2]
          refine GX.wbR ?_; intros
          rw [show ((i + 1 : Nat) : Int).toNat = i + 1 from rfl]
          exact rt1 (⟨_, (_, _), D.drop (i + 1), false, rd_num h3 hx hb (low_r x) (.inr hz2.symm)⟩ : RdnS num I64 D false) rfl
        · have hz2 : zagR V = IntKind.i64.wrap (shrV .u64 V 1) := if_neg hbit
          rw [hV] at hbit hz2
          refine GX.wbR ?_; intros
          rw [wrap7 h2]
          refine GX.wbR ?_; intros
          rw [show ((i + 1 : Nat) : Int).toNat = i + 1 from rfl]
          exact rt1 (⟨_, (_, _), D.drop (i + 1), false, rd_num h3 hx hb (low_r x) (.inr hz2.symm)⟩ : RdnS num I64 D false) rfl
      · refine GX.wbR ?_; intros
        rw [wrap7 h2]
        refine GX.wbR ?_; intros
        exact again ⟨i + 1, bOr .u64 v (shlV .u64 (IntKind.u64.wrap (bAnd .u8 x 127)) ((7 * i : Nat) : Int))⟩ ⟨rfl, rfl, rfl, trivial⟩ ⟨by dsimp only; omega, by dsimp only; omega, mid_step h3 hx hb (low_r x)⟩ (by dsimp only; omega)
  · refine GX.wbR ?_; intros
    exact rt1 (⟨0, (ao, cap), D, true, rd_bad h3 (fun _ => .inl (by omega)) (by omega)⟩ : RdnS num I64 D d) rfl
set_option maxHeartbeats 1000000 in
theorem rrdMany_spec (p : Nat) (c : AC) (D : List Int) (d : Bool) :
    Does Try.prog 29 [.pointer (some ⟨p, 0, none⟩)] [Sl Ty.byte c.1 c.2 D] [RowR p 65 [.slice c.1 D.length c.2, .bool d]] (fun s : RdmS D d => .int .i64 (s.n : Int)) (fun s => [Sl Ty.byte s.c.1 s.c.2 s.D2]) (fun s => [RowR p 65 [.slice s.c.1 s.D2.length s.c.2, .bool s.d2]]) := by
  refine enter Try.func29 rfl Try.ntmps29 rfl fun b => ?_
  refine GX.wbR ?_; intros
  refine GX.o (cl (rrdNum_spec p c D d) fun s => ?_)
  obtain ⟨x, c2, D2, d2, hs⟩ := s
  dsimp only
  by_cases hd : d2 = true
  · subst hd
    refine GX.wbR ?_; intros
    exact rt1 (⟨0, c2, D2, true, rdm_bad hs (.inr (.inr rfl))⟩ : RdmS D d) rfl
  have hd0 : d2 = false := by simpa using hd
  subst hd0
  by_cases h1 : x < 0
  · refine GX.wbR ?_; intros
    exact rt1 (⟨0, c2, D2, true, rdm_bad hs (.inl h1)⟩ : RdmS D d) rfl
  by_cases h2 : (D2.length : Int) < x
  · refine GX.wbR ?_; intros
    exact rt1 (⟨0, c2, D2, true, rdm_bad hs (.inr (.inl h2))⟩ : RdmS D d) rfl
  obtain ⟨n, rfl⟩ := Int.eq_ofNat_of_zero_le (show 0 ≤ x by omega)
  refine GX.wbR ?_; intros
  exact rt1 (⟨n, c2, D2, false, rdm_ok hs rfl (by omega)⟩ : RdmS D d) rfl
set_option maxHeartbeats 1000000 in
theorem rrdList_spec (p : Nat) (c : AC) (D : List Int) (d : Bool) (hD : D.length ≤ 4194304) :
    Does Try.prog 31 [.pointer (some ⟨p, 0, none⟩)] [Sl Ty.byte c.1 c.2 D] [RowR p 65 [.slice c.1 D.length c.2, .bool d]] (fun s : RdlS encL (okN I64) D d => .slice s.ao s.xs.length s.cap) (fun s => [Sl Ty.byte s.c.1 s.c.2 s.D2, Sl Ty.int s.ao s.cap s.xs]) (fun s => [RowR p 65 [.slice s.c.1 s.D2.length s.c.2, .bool s.d2]]) := by
  refine enter Try.func31 rfl Try.ntmps31 rfl fun b => ?_
  refine GX.wbR ?_; intros
  refine GX.o (cl (rrdMany_spec p c D d) fun s => ?_)
  obtain ⟨n, c1, D1, d1, hm⟩ := s
  dsimp only
  have hn1 := hm.fit
  have hn2 := hm.len
  refine GX.wbR ?_; intros
  refine ownNil 3 Ty.int ?_
  refine GX.loop (σ := RlS Int) (fun q => [(0, .pointer (some ⟨p, 0, none⟩)), (3, .slice q.ao q.xs.length q.cap), (4, .int .i64 (n : Int)), (5, .int .i64 (q.xs.length : Int))]) (fun q => [Sl Ty.byte q.c.1 q.c.2 q.D]) (fun q => [RowR p 65 [.slice q.c.1 q.D.length q.c.2, .bool q.d], Own 3 Ty.int q.ao q.cap q.xs])
    (fun q => q.xs.length ≤ n ∧ Rdn (flat num) (okL I64 q.xs.length) D1 d1 q.xs q.D q.d) (fun q => n - q.xs.length) ⟨none, 0, [], c1, D1, d1⟩ ⟨rfl, rfl, rfl, rfl, trivial⟩ ⟨Nat.zero_le _, rdl_nil⟩ (fun q hq => ?_)
  obtain ⟨ao, cap, xs, c2, D2, d2⟩ := q
  obtain ⟨h1, h2⟩ := hq
  dsimp only at *
  by_cases hlt : xs.length < n
  · by_cases hd : d2 = true
    · subst hd
      refine GX.wbR ?_; intros
      refine frz ao ?_
      exact rt1 (⟨ao, cap, xs, c2, D2, true, rdl_end hm h2 (.inr ⟨by omega, rfl⟩) (by omega) (by omega) (fun x _ => num_pos x)⟩ : RdlS encL (okN I64) D d) rfl
    have hd0 : d2 = false := by simpa using hd
    subst hd0
    refine GX.wbR ?_; intros
    refine GX.o (cl (rrdNum_spec p c2 D2 false) fun s => ?_)
    obtain ⟨x, c3, D3, d3, hs⟩ := s
    dsimp only
    refine GX.wbR ?_; intros
    refine GX.nmS 3 ?_; rintro a9 c9 rfl rfl
    rw [show xs.length + 1 = (xs ++ [x]).length by simp]
    exact again ⟨a9, c9, xs ++ [x], c3, D3, d3⟩ ⟨rfl, rfl, rfl, rfl, trivial⟩ ⟨by dsimp only; rw [List.length_append]; exact hlt, by dsimp only; rw [List.length_append]; exact rdl_snoc h2 hs⟩ (by dsimp only; rw [List.length_append, List.length_singleton]; omega)
  · refine GX.wbR ?_; intros
    refine frz ao ?_
    exact rt1 (⟨ao, cap, xs, c2, D2, d2, rdl_end hm h2 (.inl (by omega)) (by omega) (by omega) (fun x _ => num_pos x)⟩ : RdlS encL (okN I64) D d) rfl
end Go.Proofs.Ytdkhfjcbhpfkoaa
