import Derived.Test.YtdkhfjcbhpfkoaaM17
import Derived.Test.YtdkhfjcbhpfkoaaM21
import Derived.Test.YtdkhfjcbhpfkoaaM22
import Derived.Test.YtdkhfjcbhpfkoaaM23
/- The walks over 'great', 'small' and 'known' of chapter 27's laws. -/
namespace Go.Proofs.Ytdkhfjcbhpfkoaa
open Go Go.RR Go.RX Go.GX Go.Api Go.RiseM Go.ReachM Go.RtM Go.NumM
attribute [local irreducible] wpList Code.wp wpPlan Exit.then Exit.inBlock bodyPost NoPanic Went GX.Post GX.Again GX.Meet GX.RowR GX.Own GX.Owns GX.Box GX.Sl GX.Pt GX.Ag GX.MapR GX.Kept GX.Pin wpT GoK AtEnd Both

/-- A unit such as the laws speak of. -/
def TinyU (u : Unt) : Prop := (u.vars.length ≤ 150 ∧ u.ins.length ≤ 400 ∧ u.takes.length ≤ 80 ∧ u.owns.length ≤ 80) ∧ ∀ i ∈ u.ins, i.args.length ≤ 80
instance (u : Unt) : Decidable (TinyU u) := by unfold TinyU; infer_instance
def Tiny (t : RTg) : Prop := (t.classes.length ≤ 80 ∧ t.globals.length ≤ 20 ∧ t.units.length ≤ 20) ∧ (∀ L ∈ t.classes, L.refs.length ≤ 20) ∧ ∀ u ∈ t.units, TinyU u
instance (t : RTg) : Decidable (Tiny t) := by unfold Tiny; infer_instance
theorem sum_le {l : List Nat} {k : Nat} (h : ∀ x ∈ l, x ≤ k) : l.sum ≤ l.length * k := by
  induction l with
  | nil => simp
  | cons x l ih =>
    have h1 := h x (by simp)
    have h2 := ih fun y hy => h y (by simp [hy])
    rw [List.sum_cons, List.length_cons, Nat.add_mul]; omega
theorem Tiny.small {t : RTg} (h : Tiny t) : Small t := by
  refine ⟨by have := h.1.1; omega, ?_, by have := h.1.2.1; omega, by have := h.1.2.2; omega, fun u hu => ?_⟩
  · have h1 : ∀ x ∈ (flds t).map List.length, x ≤ 20 := fun x hx => by
      obtain ⟨l, hl, rfl⟩ := List.mem_map.1 hx
      obtain ⟨L, hL, rfl⟩ := List.mem_map.1 hl
      exact h.2.1 L hL
    have h2 := sum_le h1
    rw [List.length_map, flds_len] at h2
    have := h.1.1
    omega
  · have := (h.2.2 u hu).1; omega
theorem all_one {α : Type} {P : α → Prop} {l : List α} {i : Nat} {x : α} (hx : l[i]? = some x) (h : ∀ y ∈ l.take i, P y) (hp : P x) : ∀ y ∈ l.take (i + 1), P y := by
  intro y hy
  rw [List.take_add_one, hx, List.mem_append] at hy
  rcases hy with hy | hy
  · exact h y hy
  · simp at hy; subst hy; exact hp
theorem great27_spec (cs : List Value) (t : RTg) : Does Try.prog 10 [.agg cs.toArray] [Ag tyRTg cs t] [] (fun _ : Unit => .bool (decide (¬ Tiny t))) (fun _ => []) (fun _ => []) := by
  refine enter Try.func10 rfl Try.ntmps10 rfl fun b => ?_
  by_cases h1 : 80 < (t.classes.length : Int)
  · refine GX.wbR ?_; intros
    exact rt1 () (vY fun h => by have := h.1.1; omega)
  by_cases h2 : 20 < (t.globals.length : Int)
  · refine GX.wbR ?_; intros
    exact rt1 () (vY fun h => by have := h.1.2.1; omega)
  by_cases h3 : 20 < (t.units.length : Int)
  · refine GX.wbR ?_; intros
    exact rt1 () (vY fun h => by have := h.1.2.2; omega)
  refine GX.wbR ?_; intros
  refine GX.nmP 1 ?_; rintro b1 rfl
  refine GX.loop (σ := Nat) (fun i => [(1, .pointer (some ⟨b1, 0, none⟩)), (3, .int .i64 (i : Int))]) (fun _ => []) (fun _ => [])
    (fun i => i ≤ t.classes.length ∧ ∀ L ∈ t.classes.take i, L.refs.length ≤ 20) (fun i => t.classes.length - i) 0 ⟨rfl, rfl, trivial⟩ ⟨by omega, by simp⟩ (fun i hi => ?_)
  obtain ⟨hi, hA⟩ := hi
  by_cases hlt : i < t.classes.length
  · obtain ⟨L, hL⟩ := get_lt hlt
    by_cases g1 : 20 < (L.refs.length : Int)
    · refine GX.wbR ?_; intros
      exact rt1 () (vY fun h => by have := h.2.1 L (List.mem_of_getElem? hL); omega)
    · refine GX.wbR ?_; intros
      exact again (i + 1) ⟨rfl, rfl, trivial⟩ ⟨by omega, all_one hL hA (by omega)⟩ (by omega)
  rw [List.take_of_length_le (by omega)] at hA
  clear hi
  refine GX.wbR ?_; intros
  refine GX.loop (σ := Nat) (fun i => [(1, .pointer (some ⟨b1, 0, none⟩)), (4, .int .i64 (i : Int))]) (fun _ => []) (fun _ => [])
    (fun i => i ≤ t.units.length ∧ ∀ u ∈ t.units.take i, TinyU u) (fun i => t.units.length - i) 0 ⟨rfl, rfl, trivial⟩ ⟨by omega, by simp⟩ (fun k hk => ?_)
  obtain ⟨hk, hU⟩ := hk
  by_cases hkl : k < t.units.length
  · obtain ⟨u, hu⟩ := get_lt hkl
    have hm := List.mem_of_getElem? hu
    have no : ¬ TinyU u → ¬ Tiny t := fun h h2 => h (h2.2.2 u hm)
    by_cases g1 : 150 < (u.vars.length : Int)
    · refine GX.wbR ?_; intros
      exact rt1 () (vY (no fun h => by have := h.1.1; omega))
    by_cases g2 : 400 < (u.ins.length : Int)
    · refine GX.wbR ?_; intros
      exact rt1 () (vY (no fun h => by have := h.1.2.1; omega))
    by_cases g3 : 80 < (u.takes.length : Int)
    · refine GX.wbR ?_; intros
      exact rt1 () (vY (no fun h => by have := h.1.2.2.1; omega))
    by_cases g4 : 80 < (u.owns.length : Int)
    · refine GX.wbR ?_; intros
      exact rt1 () (vY (no fun h => by have := h.1.2.2.2; omega))
    refine GX.wbR ?_; intros
    refine GX.nmP 5 ?_; rintro b5 rfl
    refine frzB b5 ?_
    refine GX.loop (σ := Nat) (fun i => [(1, .pointer (some ⟨b1, 0, none⟩)), (4, .int .i64 (k : Int)), (5, .pointer (some ⟨b5, 0, none⟩)), (6, .int .i64 (i : Int))]) (fun _ => []) (fun _ => [])
      (fun j => j ≤ u.ins.length ∧ ∀ i ∈ u.ins.take j, i.args.length ≤ 80) (fun j => u.ins.length - j) 0 ⟨rfl, rfl, rfl, rfl, trivial⟩ ⟨by omega, by simp⟩ (fun j hj => ?_)
    obtain ⟨hj, hI⟩ := hj
    by_cases hjl : j < u.ins.length
    · obtain ⟨x, hx⟩ := get_lt hjl
      by_cases g5 : 80 < (x.args.length : Int)
      · refine GX.wbR ?_; intros
        exact rt1 () (vY (no fun h => by have := h.2 x (List.mem_of_getElem? hx); omega))
      · refine GX.wbR ?_; intros
        exact again (j + 1) ⟨rfl, rfl, rfl, rfl, trivial⟩ ⟨by omega, all_one hx hI (by omega)⟩ (by omega)
    · rw [List.take_of_length_le (by omega)] at hI
      refine GX.wbR ?_; intros
      exact again (k + 1) ⟨rfl, rfl, trivial⟩ ⟨by omega, all_one hu hU ⟨by omega, hI⟩⟩ (by omega)
  rw [List.take_of_length_le (by omega)] at hU
  refine GX.wbR ?_; intros
  exact rt1 () (vN (Classical.not_not.2 ⟨by omega, hA, hU⟩))

def smallU (n : Int) : Unt := ⟨0, [-2], -3, [], [], [⟨1, 0, 0, 0, n, []⟩, ⟨15, 0, 0, 0, 0, []⟩, ⟨18, -1, 0, 0, 0, []⟩]⟩
def smallT (n : Int) : RTg := ⟨[], [], [smallU n], 0⟩
theorem small_right (n : Int) : RightP (smallT n) := by
  refine ⟨by show (0 ≤ 60 ∧ 0 ≤ 8 ∧ 1 ≠ 0 ∧ 1 ≤ 16); decide, ⟨rfl, rfl⟩, fun L hL => by simp [smallT] at hL, fun x hx => by simp [smallT] at hx, by show 3 ≤ 16000; decide, fun u hu => ?_⟩
  obtain rfl : u = smallU n := by simpa [smallT] using hu
  refine ⟨⟨⟨by show (0:Int) ≤ 0; decide, by show (0:Int) ≤ 6; decide, by show (0:Int) ≤ 1; decide, by show 1 ≤ 4000; decide⟩, fun x hx => .inr (.inr (by simpa [smallU] using hx)), .inl rfl, by simp [smallU], ⟨by show Rise []; decide, fun c hc => by simp [smallU] at hc⟩, ⟨by show Rise []; decide, fun c hc => by simp [smallU] at hc⟩, .inr (.inr rfl)⟩, fun i hi => ?_⟩
  simp only [smallU, List.mem_cons, List.not_mem_nil, or_false] at hi
  rcases hi with rfl | rfl | rfl
  · exact ⟨by simp [Bare, names, Only], by simp [Fits, of, smallU, RtM.gt]⟩
  · exact ⟨by decide, by simp [Fits, of, smallU, RtM.gt]⟩
  · exact ⟨by decide, by simp [Fits, Goes, of, smallU, RtM.gt]⟩
theorem small_ok {n : Int} (h : I64 n) : RTg.ok (smallT n) := by
  have z : I64 0 := ⟨by omega, by omega⟩
  refine ⟨fun x hx => by simp [smallT] at hx, fun x hx => by simp [smallT] at hx, fun u hu => ?_, z⟩
  obtain rfl : u = smallU n := by simpa [smallT] using hu
  refine ⟨z, fun x hx => ?_, (show I64 (-3) from ⟨by omega, by omega⟩), fun x hx => by simp [smallU] at hx, fun x hx => by simp [smallU] at hx, fun i hi => ?_⟩
  · obtain rfl : x = -2 := by simpa [smallU] using hx
    exact ⟨by omega, by omega⟩
  · simp only [smallU, List.mem_cons, List.not_mem_nil, or_false] at hi
    rcases hi with rfl | rfl | rfl
    · exact ⟨(show I64 1 from ⟨by omega, by omega⟩), z, z, z, h, fun x hx => by simp at hx⟩
    · exact ⟨⟨by decide, by decide⟩, z, z, z, z, fun x hx => by simp at hx⟩
    · exact ⟨⟨by decide, by decide⟩, ⟨by decide, by decide⟩, z, z, z, fun x hx => by simp at hx⟩
theorem small_spec (n : Int) : Does Try.prog 20 [.int .i64 n] [] [] (fun s : List Value => .agg s.toArray) (fun s => [Ag tyRTg s (smallT n)]) (fun _ => []) := by
  refine enter Try.func20 rfl Try.ntmps20 rfl fun b => ?_
  refine GX.wbR ?_; intros
  exact rt1B id (fun _ => rfl)
theorem fm_le {α : Type} {f : α → List Int} {l : List α} {k : Nat} (h : ∀ x ∈ l, (f x).length ≤ k) : (l.flatMap f).length ≤ l.length * k := by
  induction l with
  | nil => simp
  | cons x l ih =>
    have h1 := h x (by simp)
    have h2 := ih fun y hy => h y (by simp [hy])
    rw [List.flatMap_cons, List.length_append, List.length_cons, Nat.add_mul]; omega
theorem encL_le {l : List Int} {m : Nat} (h : ∀ x ∈ l, I64 x) (hl : l.length ≤ m) (hm : m ≤ 1000000) : (encL l).length ≤ 10 + m * 10 := by
  have h1 : (encs l).length ≤ l.length * 10 := fm_le fun x hx => num_len x (h x hx)
  have h2 := num_len (l.length : Int) ⟨by omega, by omega⟩
  unfold encL
  rw [List.length_append]
  have := Nat.mul_le_mul_right 10 hl
  omega
theorem encI_le {i : Ins} (h : Ins.ok i) (hl : i.args.length ≤ 80) : (encI i).length ≤ 860 := by
  obtain ⟨h1, h2, h3, h4, h5, h6⟩ := h
  have := encL_le h6 hl (by omega)
  have e : (encs [i.op, i.a, i.b, i.c, i.n]).length ≤ 50 := fm_le (l := [i.op, i.a, i.b, i.c, i.n]) (k := 10) fun x hx => num_len x (by simp at hx; rcases hx with rfl | rfl | rfl | rfl | rfl <;> assumption)
  unfold encI
  rw [List.length_append]; omega
theorem encU_le {u : Unt} (h : Unt.ok u) (hl : TinyU u) : (encU u).length ≤ 400000 := by
  obtain ⟨h1, h2, h3, h4, h5, h6⟩ := h
  obtain ⟨⟨g1, g2, g3, g4⟩, g5⟩ := hl
  have k1 := num_len _ h1
  have k2 := encL_le h2 g1 (by omega)
  have k3 := num_len _ h3
  have k4 := encL_le h4 g3 (by omega)
  have k5 := encL_le h5 g4 (by omega)
  have k6 := num_len (u.ins.length : Int) ⟨by omega, by omega⟩
  have k7 : (u.ins.flatMap encI).length ≤ u.ins.length * 860 := fm_le fun x hx => encI_le (h6 x hx) (g5 x hx)
  unfold encU
  simp only [List.length_append]
  omega
theorem encT_le {t : RTg} (h : RTg.ok t) (hl : Tiny t) : (encT t).length ≤ 9000000 := by
  obtain ⟨h1, h2, h3, h4⟩ := h
  obtain ⟨⟨g1, g2, g3⟩, g4, g5⟩ := hl
  have k1 := num_len (t.classes.length : Int) ⟨by omega, by omega⟩
  have k2 : (t.classes.flatMap encC).length ≤ t.classes.length * 220 := fm_le fun x hx => by
    have := encL_le (h1 x hx) (g4 x hx) (by omega)
    have := num_bit x.arr
    unfold encC; rw [List.length_append]; omega
  have k3 := encL_le h2 g2 (by omega)
  have k4 := num_len (t.units.length : Int) ⟨by omega, by omega⟩
  have k5 : (t.units.flatMap encU).length ≤ t.units.length * 400000 := fm_le fun x hx => encU_le (h3 x hx) (g5 x hx)
  have k6 := num_len _ h4
  unfold encT
  simp only [List.length_append]
  omega
theorem small_tiny (n : Int) : Tiny (smallT n) := by
  refine ⟨⟨by simp [smallT], by simp [smallT], by simp [smallT]⟩, fun L hL => by simp [smallT] at hL, fun u hu => ?_⟩
  obtain rfl : u = smallU n := by simpa [smallT] using hu
  refine ⟨⟨by simp [smallU], by simp [smallU], by simp [smallU], by simp [smallU]⟩, fun i hi => ?_⟩
  simp only [smallU, List.mem_cons, List.not_mem_nil, or_false] at hi
  rcases hi with rfl | rfl | rfl <;> simp
theorem small_len {n : Int} (h : I64 n) : (encT (smallT n)).length ≤ 4194304 := by
  have e : ∀ u : Unt, Unt.ok u → u = smallU n → (encU u).length ≤ 400000 := fun u hu hu2 => by subst hu2; exact encU_le hu ((small_tiny n).2.2 _ (by simp [smallT]))
  have k := (small_ok h).2.2.1 (smallU n) (by simp [smallT])
  have k5 := e _ k rfl
  have k1 := num_len 0 ⟨by omega, by omega⟩
  have k2 := num_len 1 ⟨by omega, by omega⟩
  show (num 0 ++ ([] ++ (num 0 ++ [] ++ (num 1 ++ ([smallU n].flatMap encU ++ num 0))))).length ≤ 4194304
  have e2 : [smallU n].flatMap encU = encU (smallU n) := by simp
  rw [e2]
  simp only [List.length_append, List.length_nil]
  omega
theorem putT_right {t : RTg} (h : RightP t) : putT t = encT t := if_pos h
theorem putE_right {t : RTg} (h : RightP t) : putE t = 0 := if_pos h
theorem get_of {B : List Int} {t : RTg} {e : Int} {t2 : RTg} (h : (e = 0 ∧ Is B t ∧ ∀ t2, Is B t2 → t = t2) ∨ (t = ⟨[], [], [], 0⟩ ∧ (∀ t2, B.length ≤ 4194304 → ¬ Is B t2) ∧ e = if 4194304 < B.length then 4 else 6)) (h2 : Is B t2) (hB : B.length ≤ 4194304) : t = t2 ∧ e = 0 := by
  rcases h with ⟨h, _, h3⟩ | ⟨_, h3, _⟩
  · exact ⟨h3 t2 h2, h⟩
  · exact absurd h2 (h3 t2 hB)
theorem num64 : num 64 = [128, 1] := by
  have e : zig 64 = 128 := by decide
  unfold num
  rw [e, enc_big (by decide), enc_small (by decide)]; rfl
set_option maxHeartbeats 1000000 in
theorem known27_spec : Does Try.prog 13 [] [] [] (fun _ : Unit => .bool true) (fun _ => []) (fun _ => []) := by
  refine enter Try.func13 rfl Try.ntmps13 rfl fun b => ?_
  have z3 : I64 3 := ⟨by omega, by omega⟩
  have hr := small_right 3
  have hl := small_len z3
  refine GX.wbR ?_; intros
  refine GX.o (cl (small_spec 3) fun s => ?_)
  refine GX.wbR ?_; intros
  refine GX.o (cl (put27_spec _ (smallT 3) (small_ok z3) (small_of (by omega)) (by omega)) fun s => ?_)
  obtain ⟨a1, c1⟩ := s
  rw [putT_right hr, putE_right hr]
  dsimp only
  refine GX.wbR ?_; intros
  refine GX.o (cl (get27_spec a1 c1 (encT (smallT 3))) fun s => ?_)
  obtain ⟨cs2, t2, e2, h2⟩ := s
  obtain ⟨rfl, rfl⟩ := get_of h2 (show Is _ (smallT 3) from ⟨small_ok z3, hr, rfl⟩) hl
  dsimp only
  refine GX.wbR ?_; intros
  refine GX.nmP 3 ?_; rintro b3 rfl
  refine frzB b3 ?_
  have hs : strEq (strOfNums (num 64)) ⟨#[128, 1]⟩ = true := by rw [num64]; exact strEq_self _
  have hss : decide (smallT 3 = smallT 3) = true := decide_eq_true rfl
  refine GX.drawn0  (fun j => !(List.contains [9, 10, 11, 12, 13, 14, 15, 16] j)) [(0, true), (1, true), (2, true), (3, true), (4, true), (5, true), (6, true), (7, true), (8, false), (9, false), (10, false), (11, false), (12, false), (13, false), (14, false), (15, false), (16, false)] rfl (by kernel_rfl) (by kernel_rfl) (by first | ((repeat (first | apply Go.GX.SelR.nil | apply Go.GX.SelR.cons | (with_reducible apply Go.GX.TakeR.head) | apply Go.GX.TakeR.tail)); done) | (repeat (first | apply Go.GX.SelR.nil | apply Go.GX.SelR.cons | apply Go.GX.TakeR.head | apply Go.GX.TakeR.tail))) ?_; intro wd F hW hR
  refine GX.wbT ?_; intros
  refine GX.gow ?_
  refine (cl (small_spec 3) fun s3 => ?_)
  refine GX.wbT ?_; intros
  refine GX.gow ?_
  refine (cl (same27_spec _ _ (smallT 3) (smallT 3)) fun _ => ?_)
  rw [hss]
  refine GX.wbT ?_; intros
  refine GX.gow ?_
  refine (cl (num_spec 64 ⟨by omega, by omega⟩) fun s4 => ?_)
  obtain ⟨a9, c9⟩ := s4
  dsimp only
  refine frz a9 ?_
  refine GX.wbT ?_; intros
  refine GX.wbR ?_; intros
  rw [hs]
  exact rt1 () rfl
end Go.Proofs.Ytdkhfjcbhpfkoaa

/- The walks over In, and over what compares lists of bools. -/
namespace Go.Proofs.Ytdkhfjcbhpfkoaa
open Go Go.RR Go.RX Go.GX
attribute [local irreducible] wpList Code.wp wpPlan Exit.then Exit.inBlock bodyPost NoPanic Went GX.Post GX.Again GX.Meet GX.RowR GX.Own GX.Owns GX.Box GX.Sl GX.Pt GX.Ag GX.MapR GX.Kept GX.Pin

theorem in_spec (ao : Option Addr) (cap : Nat) (l : List Int) (v : Int) : Does Try.prog 48 [.slice ao l.length cap, .int .i64 v] [Sl Ty.int ao cap l] []
    (fun _ : Unit => .bool (decide (v ∈ l))) (fun _ => []) (fun _ => []) := by
  refine enter Try.func48 rfl Try.ntmps48 rfl fun b => ?_
  refine sln ao fun h1 h2 _ => ?_
  repeat (first | (apply GX.s_list; first | apply GX.nil | (refine GX.o ?_; first | (apply GX.k_load; first | refine GX.lr ?_ | refine GX.lrA ?_ | refine GX.ln ?_ | refine GX.lb ?_ | refine GX.lh ?_ | (refine GX.ls ?_; intro ao cap _ _) | (refine GX.lA ?_; intro cs) | (refine GX.l0 ?_; intro cs) | refine GX.o1n ?_ | refine GX.o1b ?_ | refine GX.o1h ?_ | (refine GX.o1s ?_; intro ao cap _ _) | refine GX.omn ?_ | refine GX.omb ?_ | refine GX.omh ?_ | (refine GX.oms ?_; intro ao cap _ _) | refine GX.ofn ?_ | refine GX.ofb ?_ | refine GX.ofh ?_ | (refine GX.ofs ?_; intro ao cap _ _) | (refine GX.oA ?_; intro cs)) | (apply GX.k_move; refine GX.m ?_) | (apply GX.k_indexAddr; first | refine GX.io1 ?_ | refine GX.ioh ?_ | refine GX.i1 ?_ | refine GX.ih ?_ | (refine GX.ix ?_; intro bl o)) | (apply GX.k_binOp_lss; refine GX.b_lss ?_) | (apply GX.k_binOp_add; first | refine GX.b_inc ?_ | refine GX.b_add ?_ | refine GX.b_addw ?_) | (apply GX.k_assign; refine GX.a ?_) | (apply GX.k_call; refine GX.c_len ?_) | (apply GX.k_binOp_eql; first | refine GX.b_eql ?_ | refine GX.b_pn ?_ | refine GX.b_nn ?_ | refine GX.b_snn ?_ | refine GX.b_sns ?_ | refine GX.b_eqls ?_ | refine GX.b_eqltf ?_ | refine GX.b_eqlft ?_ | refine GX.b_eqlb ?_)) | refine GX.gt ?_ | refine GX.gf ?_ | refine GX.gbt ?_ | refine GX.gbf ?_ | refine GX.un ?_ | refine GX.un0 ?_) | apply GX.then_normal | apply GX.seq | apply GX.region | (apply GX.s_cond; first | refine GX.ct ?_ | refine GX.cf ?_ | refine GX.cdf ?_ | refine GX.cdt ?_ | refine GX.cbt ?_ | refine GX.cbf ?_) | apply GX.skip | apply GX.block | apply GX.inBlock_normal | apply GX.exit | apply GX.then_exit | apply GX.inBlock_exit | refine GX.ibo ?_ | apply GX.ret | apply GX.then_ret | apply GX.inBlock_ret)
  refine GX.loop (σ := Nat) (fun i => [(0, .slice ao l.length cap), (1, .int .i64 v), (5, .int .i64 (i : Int))]) (fun _ => []) (fun _ => [])
    (fun i => i ≤ l.length ∧ v ∉ l.take i) (fun i => l.length - i) 0 ⟨rfl, rfl, rfl, trivial⟩ ⟨by omega, by simp⟩ (fun i hi => ?_)
  obtain ⟨hi, hn⟩ := hi
  by_cases hlt : i < l.length
  · obtain ⟨x, hx⟩ := get_lt hlt
    by_cases hxv : x = v
    · repeat (first | (apply GX.s_list; first | apply GX.nil | (refine GX.o ?_; first | (apply GX.k_load; first | refine GX.lr ?_ | refine GX.lrA ?_ | refine GX.ln ?_ | refine GX.lb ?_ | refine GX.lh ?_ | (refine GX.ls ?_; intro ao cap _ _) | (refine GX.lA ?_; intro cs) | (refine GX.l0 ?_; intro cs) | refine GX.o1n ?_ | refine GX.o1b ?_ | refine GX.o1h ?_ | (refine GX.o1s ?_; intro ao cap _ _) | refine GX.omn ?_ | refine GX.omb ?_ | refine GX.omh ?_ | (refine GX.oms ?_; intro ao cap _ _) | refine GX.ofn ?_ | refine GX.ofb ?_ | refine GX.ofh ?_ | (refine GX.ofs ?_; intro ao cap _ _) | (refine GX.oA ?_; intro cs)) | (apply GX.k_move; refine GX.m ?_) | (apply GX.k_indexAddr; first | refine GX.io1 ?_ | refine GX.ioh ?_ | refine GX.i1 ?_ | refine GX.ih ?_ | (refine GX.ix ?_; intro bl o)) | (apply GX.k_binOp_lss; refine GX.b_lss ?_) | (apply GX.k_binOp_add; first | refine GX.b_inc ?_ | refine GX.b_add ?_ | refine GX.b_addw ?_) | (apply GX.k_assign; refine GX.a ?_) | (apply GX.k_call; refine GX.c_len ?_) | (apply GX.k_binOp_eql; first | refine GX.b_eql ?_ | refine GX.b_pn ?_ | refine GX.b_nn ?_ | refine GX.b_snn ?_ | refine GX.b_sns ?_ | refine GX.b_eqls ?_ | refine GX.b_eqltf ?_ | refine GX.b_eqlft ?_ | refine GX.b_eqlb ?_)) | refine GX.gt ?_ | refine GX.gf ?_ | refine GX.gbt ?_ | refine GX.gbf ?_ | refine GX.un ?_ | refine GX.un0 ?_) | apply GX.then_normal | apply GX.seq | apply GX.region | (apply GX.s_cond; first | refine GX.ct ?_ | refine GX.cf ?_ | refine GX.cdf ?_ | refine GX.cdt ?_ | refine GX.cbt ?_ | refine GX.cbf ?_) | apply GX.skip | apply GX.block | apply GX.inBlock_normal | apply GX.exit | apply GX.then_exit | apply GX.inBlock_exit | refine GX.ibo ?_ | apply GX.ret | apply GX.then_ret | apply GX.inBlock_ret)
      exact rt1 () (congrArg Value.bool (decide_eq_true (hxv ▸ List.mem_of_getElem? hx)))
    · repeat (first | (apply GX.s_list; first | apply GX.nil | (refine GX.o ?_; first | (apply GX.k_load; first | refine GX.lr ?_ | refine GX.lrA ?_ | refine GX.ln ?_ | refine GX.lb ?_ | refine GX.lh ?_ | (refine GX.ls ?_; intro ao cap _ _) | (refine GX.lA ?_; intro cs) | (refine GX.l0 ?_; intro cs) | refine GX.o1n ?_ | refine GX.o1b ?_ | refine GX.o1h ?_ | (refine GX.o1s ?_; intro ao cap _ _) | refine GX.omn ?_ | refine GX.omb ?_ | refine GX.omh ?_ | (refine GX.oms ?_; intro ao cap _ _) | refine GX.ofn ?_ | refine GX.ofb ?_ | refine GX.ofh ?_ | (refine GX.ofs ?_; intro ao cap _ _) | (refine GX.oA ?_; intro cs)) | (apply GX.k_move; refine GX.m ?_) | (apply GX.k_indexAddr; first | refine GX.io1 ?_ | refine GX.ioh ?_ | refine GX.i1 ?_ | refine GX.ih ?_ | (refine GX.ix ?_; intro bl o)) | (apply GX.k_binOp_lss; refine GX.b_lss ?_) | (apply GX.k_binOp_add; first | refine GX.b_inc ?_ | refine GX.b_add ?_ | refine GX.b_addw ?_) | (apply GX.k_assign; refine GX.a ?_) | (apply GX.k_call; refine GX.c_len ?_) | (apply GX.k_binOp_eql; first | refine GX.b_eql ?_ | refine GX.b_pn ?_ | refine GX.b_nn ?_ | refine GX.b_snn ?_ | refine GX.b_sns ?_ | refine GX.b_eqls ?_ | refine GX.b_eqltf ?_ | refine GX.b_eqlft ?_ | refine GX.b_eqlb ?_)) | refine GX.gt ?_ | refine GX.gf ?_ | refine GX.gbt ?_ | refine GX.gbf ?_ | refine GX.un ?_ | refine GX.un0 ?_) | apply GX.then_normal | apply GX.seq | apply GX.region | (apply GX.s_cond; first | refine GX.ct ?_ | refine GX.cf ?_ | refine GX.cdf ?_ | refine GX.cdt ?_ | refine GX.cbt ?_ | refine GX.cbf ?_) | apply GX.skip | apply GX.block | apply GX.inBlock_normal | apply GX.exit | apply GX.then_exit | apply GX.inBlock_exit | refine GX.ibo ?_ | apply GX.ret | apply GX.then_ret | apply GX.inBlock_ret)
      refine again (i + 1) ⟨rfl, rfl, rfl, trivial⟩ ⟨by omega, fun h => ?_⟩ (by omega)
      rw [List.take_add_one, hx, List.mem_append] at h
      rcases h with h | h
      · exact hn h
      · simp at h; exact hxv h.symm
  · have hil : i = l.length := by omega
    subst hil
    rw [List.take_length] at hn
    repeat (first | (apply GX.s_list; first | apply GX.nil | (refine GX.o ?_; first | (apply GX.k_load; first | refine GX.lr ?_ | refine GX.lrA ?_ | refine GX.ln ?_ | refine GX.lb ?_ | refine GX.lh ?_ | (refine GX.ls ?_; intro ao cap _ _) | (refine GX.lA ?_; intro cs) | (refine GX.l0 ?_; intro cs) | refine GX.o1n ?_ | refine GX.o1b ?_ | refine GX.o1h ?_ | (refine GX.o1s ?_; intro ao cap _ _) | refine GX.omn ?_ | refine GX.omb ?_ | refine GX.omh ?_ | (refine GX.oms ?_; intro ao cap _ _) | refine GX.ofn ?_ | refine GX.ofb ?_ | refine GX.ofh ?_ | (refine GX.ofs ?_; intro ao cap _ _) | (refine GX.oA ?_; intro cs)) | (apply GX.k_move; refine GX.m ?_) | (apply GX.k_indexAddr; first | refine GX.io1 ?_ | refine GX.ioh ?_ | refine GX.i1 ?_ | refine GX.ih ?_ | (refine GX.ix ?_; intro bl o)) | (apply GX.k_binOp_lss; refine GX.b_lss ?_) | (apply GX.k_binOp_add; first | refine GX.b_inc ?_ | refine GX.b_add ?_ | refine GX.b_addw ?_) | (apply GX.k_assign; refine GX.a ?_) | (apply GX.k_call; refine GX.c_len ?_) | (apply GX.k_binOp_eql; first | refine GX.b_eql ?_ | refine GX.b_pn ?_ | refine GX.b_nn ?_ | refine GX.b_snn ?_ | refine GX.b_sns ?_ | refine GX.b_eqls ?_ | refine GX.b_eqltf ?_ | refine GX.b_eqlft ?_ | refine GX.b_eqlb ?_)) | refine GX.gt ?_ | refine GX.gf ?_ | refine GX.gbt ?_ | refine GX.gbf ?_ | refine GX.un ?_ | refine GX.un0 ?_) | apply GX.then_normal | apply GX.seq | apply GX.region | (apply GX.s_cond; first | refine GX.ct ?_ | refine GX.cf ?_ | refine GX.cdf ?_ | refine GX.cdt ?_ | refine GX.cbt ?_ | refine GX.cbf ?_) | apply GX.skip | apply GX.block | apply GX.inBlock_normal | apply GX.exit | apply GX.then_exit | apply GX.inBlock_exit | refine GX.ibo ?_ | apply GX.ret | apply GX.then_ret | apply GX.inBlock_ret)
    exact rt1 () (congrArg Value.bool (decide_eq_false hn))
end Go.Proofs.Ytdkhfjcbhpfkoaa

/- The plain mathematics of chapter 26: what the reference's functions say, and that the two agree. No program in sight. -/
namespace Go.RtM
open Go.RiseM Go.ReachM Go.Api

abbrev REntry (t : RTg) (e : Int) : Prop := -2 ≤ e ∧ e < (t.classes.length : Int)
theorem rentry_iff (t : RTg) (e : Int) : REntry t e ↔ IsEntry t e := by unfold REntry IsEntry IsClass; omega
def RInto (a b : Int) : Prop := if a = -2 ∨ b = -2 then a = b else b = a ∨ b = -1
instance (a b : Int) : Decidable (RInto a b) := by unfold RInto; infer_instance
def rof (u : Unt) (n : Int) : Int := (gt u.vars n).getD (-4)
def rnames (op : Int) : Bool × Bool × Bool × Bool × Bool :=
  if op = 1 ∨ op = 11 ∨ op = 19 ∨ op = 20 then (true, false, false, true, false)
  else if op = 3 ∨ op = 10 then (true, true, false, false, false)
  else if op = 4 then (true, true, true, true, false)
  else if op = 5 ∨ op = 12 then (true, true, false, true, false)
  else if op = 6 ∨ op = 7 ∨ op = 8 ∨ op = 9 then (true, true, true, false, false)
  else if op = 13 then (true, false, true, false, true)
  else if op = 17 then (true, false, true, true, false)
  else if op = 16 then (false, false, false, true, false)
  else if op = 21 ∨ op = 22 then (false, false, false, false, true)
  else (true, false, false, false, false)
def Named (i : Ins) : Prop := Only i (rnames i.op).1 (rnames i.op).2.1 (rnames i.op).2.2.1 (rnames i.op).2.2.2.1 (rnames i.op).2.2.2.2
instance (i : Ins) : Decidable (Named i) := by unfold Named; infer_instance
/-- A field of a record's entry, an array's items: the entry; it is none that is known. -/
def record (t : RTg) (e k : Int) : Int × Bool :=
  if e = -1 ∧ 0 ≤ k ∧ k < 8 then (-4, true)
  else match gt t.classes e with
    | some L => if L.arr = true then (-4, false) else (match gt L.refs k with | some x => (x, false) | none => (-4, false))
    | none => (-4, false)
def array (t : RTg) (e : Int) : Int × Bool :=
  if e = -1 then (-4, true)
  else match gt t.classes e with
    | some L => if L.arr = true then (match gt L.refs 0 with | some x => (x, false) | none => (-4, false)) else (-4, false)
    | none => (-4, false)
theorem record_arr {t : RTg} {e k : Int} {L : Layout} (hn : ¬ (e = -1 ∧ 0 ≤ k ∧ k < 8)) (hL : gt t.classes e = some L) (h3 : L.arr = true) : record t e k = (-4, false) := by unfold record; rw [if_neg hn, hL]; simp only [if_pos h3]
theorem record_out {t : RTg} {e k : Int} {L : Layout} (hn : ¬ (e = -1 ∧ 0 ≤ k ∧ k < 8)) (hL : gt t.classes e = some L) (h3 : ¬ L.arr = true) (h4 : gt L.refs k = none) : record t e k = (-4, false) := by unfold record; rw [if_neg hn, hL]; simp only [if_neg h3, h4]
theorem record_some {t : RTg} {e k x : Int} {L : Layout} (hn : ¬ (e = -1 ∧ 0 ≤ k ∧ k < 8)) (hL : gt t.classes e = some L) (h3 : ¬ L.arr = true) (h4 : gt L.refs k = some x) : record t e k = (x, false) := by unfold record; rw [if_neg hn, hL]; simp only [if_neg h3, h4]
theorem array_some {t : RTg} {e x : Int} {L : Layout} (hn : e ≠ -1) (hL : gt t.classes e = some L) (h3 : L.arr = true) (h4 : gt L.refs 0 = some x) : array t e = (x, false) := by unfold array; rw [if_neg hn, hL]; simp only [if_pos h3, h4]
theorem array_rec {t : RTg} {e : Int} {L : Layout} (hn : e ≠ -1) (hL : gt t.classes e = some L) (h3 : ¬ L.arr = true) : array t e = (-4, false) := by unfold array; rw [if_neg hn, hL]; simp only [if_neg h3]
def RClass (t : RTg) (c : Int) (arr : Bool) : Prop := match gt t.classes c with | some L => L.arr = arr | none => False
instance (t : RTg) (c : Int) (arr : Bool) : Decidable (RClass t c arr) := by unfold RClass; split <;> infer_instance
def RCall (t : RTg) (u : Unt) (i : Ins) : Prop := match gt t.units i.c with
  | some g => (0 ≤ g.params ∧ g.params ≤ (g.vars.length : Int) ∧ (i.args.length : Int) = g.params ∧ (∀ p ∈ i.args.zip g.vars, rof u p.1 ≠ -4 ∧ RInto p.2 (rof u p.1))) ∧ (i.a = -1 ∨ rof u i.a ≠ -4 ∧ g.result ≠ -3 ∧ RInto (rof u i.a) g.result)
  | none => False
instance (t : RTg) (u : Unt) (i : Ins) : Decidable (RCall t u i) := by unfold RCall; split <;> infer_instance
/-- May an entry, or what is known of it, be had? -/
def Has (x : Int × Bool) (P : Int → Prop) : Prop := x.2 = true ∨ x.1 ≠ -4 ∧ P x.1
instance (x : Int × Bool) (P : Int → Prop) [∀ e, Decidable (P e)] : Decidable (Has x P) := by unfold Has; infer_instance
def Step (t : RTg) (u : Unt) (i : Ins) : Prop :=
  Named i ∧
  if i.op = 1 ∨ i.op = 14 ∨ i.op = 15 then rof u i.a = -2
  else if i.op = 2 then -1 ≤ rof u i.a
  else if i.op = 3 then rof u i.a ≠ -4 ∧ rof u i.b ≠ -4 ∧ RInto (rof u i.a) (rof u i.b)
  else if i.op = 4 then (rof u i.a = -2 ∧ 14 ≤ i.n ∧ i.n ≤ 24) ∧ (if i.n = 21 ∨ i.n = 22 then rof u i.b ≠ -4 ∧ rof u i.c ≠ -4 ∧ (rof u i.b = -2 ↔ rof u i.c = -2) else rof u i.b = -2 ∧ rof u i.c = -2)
  else if i.op = 5 then rof u i.a = -2 ∧ rof u i.b = -2 ∧ (i.n = 12 ∨ i.n = 13)
  else if i.op = 6 then rof u i.a ≠ -4 ∧ Has (record t (rof u i.b) i.c) (RInto (rof u i.a))
  else if i.op = 7 then rof u i.b ≠ -4 ∧ Has (record t (rof u i.a) i.c) (fun e => RInto e (rof u i.b))
  else if i.op = 8 then rof u i.a ≠ -4 ∧ rof u i.c = -2 ∧ Has (array t (rof u i.b)) (RInto (rof u i.a))
  else if i.op = 9 then rof u i.c ≠ -4 ∧ rof u i.b = -2 ∧ Has (array t (rof u i.a)) (fun e => RInto e (rof u i.c))
  else if i.op = 10 then rof u i.a = -2 ∧ Has (array t (rof u i.b)) (fun _ => True)
  else if i.op = 11 then RClass t i.n false ∧ rof u i.a = i.n
  else if i.op = 12 then RClass t i.n true ∧ rof u i.a = i.n ∧ rof u i.b = -2
  else if i.op = 13 then RCall t u i
  else if i.op = 16 then Place u i.n
  else if i.op = 17 then rof u i.a = -2 ∧ Place u i.n ∧ Place u i.c
  else if i.op = 18 then (if u.result = -3 then i.a = -1 else rof u i.a ≠ -4 ∧ RInto u.result (rof u i.a))
  else if i.op = 19 then rof u i.a ≠ -4 ∧ InG t i.n (fun g => RInto (rof u i.a) g)
  else if i.op = 20 then rof u i.a ≠ -4 ∧ InG t i.n (fun g => RInto g (rof u i.a))
  else if i.op = 21 ∨ i.op = 22 then i.args ≠ [] ∧ Rise i.args ∧ ∀ n ∈ i.args, n ∈ u.owns
  else False

/-! ### The two agree, where all else is right. -/
section
variable {t : RTg} {u : Unt}
/-- What is known of an entry that may be. -/
abbrev Ent (e : Int) : Prop := -2 ≤ e
theorem of_rof (hv : ∀ n ∈ u.vars, Ent n) (n : Int) : (∃ e, Ent e ∧ of u n = e ∧ rof u n = e) ∨ (of u n = -3 ∧ rof u n = -4) := by
  unfold of rof
  cases h : gt u.vars n with
  | none => exact .inr ⟨rfl, rfl⟩
  | some e => exact .inl ⟨e, hv e (gt_mem h), rfl, rfl⟩
theorem into_iff {a b : Int} (ha : Ent a) (hb : Ent b) : Into a b ↔ RInto a b := by
  unfold Into RInto Ent at *
  split <;> split <;> omega
theorem into_none {a : Int} : ¬ Into a (-3) := by unfold Into; split <;> omega
theorem none_into {b : Int} : ¬ Into (-3) b := by unfold Into; split <;> omega
theorem named_iff {i : Ins} (h : i.op ∈ ([1, 2, 3, 4, 5, 6, 7, 8, 9, 10, 11, 12, 13, 14, 15, 16, 17, 18, 19, 20, 21, 22] : List Int)) : Bare i ↔ Named i := by
  obtain ⟨op, a, b, c, n, args⟩ := i
  dsimp only at h
  simp only [List.mem_cons, List.not_mem_nil, or_false] at h
  rcases h with rfl | rfl | rfl | rfl | rfl | rfl | rfl | rfl | rfl | rfl | rfl | rfl | rfl | rfl | rfl | rfl | rfl | rfl | rfl | rfl | rfl | rfl <;> exact Iff.rfl
theorem bare_op {i : Ins} (h : Bare i) : i.op ∈ ([1, 2, 3, 4, 5, 6, 7, 8, 9, 10, 11, 12, 13, 14, 15, 16, 17, 18, 19, 20, 21, 22] : List Int) := by
  unfold Bare at h
  split at h
  · rename_i a b c n g hn
    unfold names at hn
    simp only [List.mem_cons, List.not_mem_nil, or_false]
    repeat' split at hn
    all_goals first | omega | simp at hn
  · exact h.elim
theorem step_op {i : Ins} (h : Step t u i) : i.op ∈ ([1, 2, 3, 4, 5, 6, 7, 8, 9, 10, 11, 12, 13, 14, 15, 16, 17, 18, 19, 20, 21, 22] : List Int) := by
  obtain ⟨_, h⟩ := h
  simp only [List.mem_cons, List.not_mem_nil, or_false]
  by_cases h1 : i.op = 1 ∨ i.op = 2 ∨ i.op = 3 ∨ i.op = 4 ∨ i.op = 5 ∨ i.op = 6 ∨ i.op = 7 ∨ i.op = 8 ∨ i.op = 9 ∨ i.op = 10 ∨ i.op = 11 ∨ i.op = 12 ∨ i.op = 13 ∨ i.op = 14 ∨ i.op = 15 ∨ i.op = 16 ∨ i.op = 17 ∨ i.op = 18 ∨ i.op = 19 ∨ i.op = 20 ∨ i.op = 21 ∨ i.op = 22
  · exact h1
  · simp only [not_or] at h1
    obtain ⟨g1, g2, g3, g4, g5, g6, g7, g8, g9, g10, g11, g12, g13, g14, g15, g16, g17, g18, g19, g20, g21, g22⟩ := h1
    simp only [g1, g2, g3, g4, g5, g6, g7, g8, g9, g10, g11, g12, g13, g14, g15, g16, g17, g18, g19, g20, g21, g22, or_false, if_false] at h
end
end Go.RtM

/- The walks over the small functions of the reference of chapter 26. -/
namespace Go.Proofs.Ytdkhfjcbhpfkoaa
open Go Go.RR Go.RX Go.GX Go.Api Go.RiseM Go.ReachM Go.RtM
attribute [local irreducible] wpList Code.wp wpPlan Exit.then Exit.inBlock bodyPost NoPanic Went GX.Post GX.Again GX.Meet GX.RowR GX.Own GX.Owns GX.Box GX.Sl GX.Pt GX.Ag GX.MapR GX.Kept GX.Pin wpT GoK AtEnd Both

theorem entry_spec (cs : List Value) (t : RTg) (n : Int) : Does Try.prog 44 [.agg cs.toArray, .int .i64 n] [Ag tyRTg cs t] [] (fun _ : Unit => .bool (decide (IsEntry t n))) (fun _ => []) (fun _ => []) := by
  refine enter Try.func44 rfl Try.ntmps44 rfl fun b => ?_
  have e := rentry_iff t n
  by_cases h : -2 ≤ n
  · refine GX.wR ?_; intros
    exact rt1 () (vI (e.symm.trans ⟨fun h => h.2, fun h2 => ⟨h, h2⟩⟩))
  · refine GX.wR ?_; intros
    exact rt1 () (vN fun h2 => h (e.2 h2).1)
theorem rentries_spec (cs : List Value) (t : RTg) (ao : Option Addr) (cap : Nat) (l : List Int) : Does Try.prog 34 [.agg cs.toArray, .slice ao l.length cap] [Sl Ty.int ao cap l, Ag tyRTg cs t] [] (fun _ : Unit => .bool (decide (Entries t l))) (fun _ => []) (fun _ => []) := by
  refine enter Try.func34 rfl Try.ntmps34 rfl fun b => ?_
  refine sln ao fun hl1 hl2 _ => ?_
  refine GX.wR ?_; intros
  refine GX.nmP 2 ?_; rintro b2 rfl
  refine GX.loop (σ := Nat) (fun i => [(1, .slice ao l.length cap), (2, .pointer (some ⟨b2, 0, none⟩)), (5, .int .i64 (i : Int))]) (fun _ => []) (fun _ => [])
    (fun i => i ≤ l.length ∧ ∀ x ∈ l.take i, IsEntry t x) (fun i => l.length - i) 0 ⟨rfl, rfl, rfl, trivial⟩ ⟨by omega, by simp⟩ (fun i hi => ?_)
  obtain ⟨hi, hA⟩ := hi
  by_cases hlt : i < l.length
  · obtain ⟨x, hx⟩ := get_lt hlt
    refine GX.wR ?_; intros
    refine GX.drawn0  (fun j => !(List.contains [5] j)) [(0, true), (1, true), (2, true), (3, true), (4, true), (5, false), (6, true)] rfl (by kernel_rfl) (by kernel_rfl) (by first | ((repeat (first | apply Go.GX.SelR.nil | apply Go.GX.SelR.cons | (with_reducible apply Go.GX.TakeR.head) | apply Go.GX.TakeR.tail)); done) | (repeat (first | apply Go.GX.SelR.nil | apply Go.GX.SelR.cons | apply Go.GX.TakeR.head | apply Go.GX.TakeR.tail))) ?_; intro wd F hW hR
    refine GX.wT ?_; intros
    refine GX.gow ?_
    refine (cl (entry_spec _ t x) fun _ => ?_)
    refine GX.wT ?_; intros
    by_cases h : IsEntry t x
    · have h' := Classical.not_not.2 h
      refine GX.wR ?_; intros
      refine again (i + 1) ⟨rfl, rfl, rfl, trivial⟩ ⟨by omega, fun y hy => ?_⟩ (by omega)
      rw [List.take_add_one, hx, List.mem_append] at hy
      rcases hy with hy | hy
      · exact hA y hy
      · simp at hy; subst hy; exact h
    · refine GX.wR ?_; intros
      exact rt1 () (vN fun h2 => h (h2 x (List.mem_of_getElem? hx)))
  · rw [List.take_of_length_le (by omega)] at hA
    refine GX.wR ?_; intros
    exact rt1 () (vY hA)
theorem rinto_spec (a c : Int) : Does Try.prog 52 [.int .i64 a, .int .i64 c] [] [] (fun _ : Unit => .bool (decide (RInto a c))) (fun _ => []) (fun _ => []) := by
  refine enter Try.func52 rfl Try.ntmps52 rfl fun b => ?_
  have e : RInto a c ↔ if a = -2 ∨ c = -2 then a = c else c = a ∨ c = -1 := Iff.rfl
  by_cases h1 : a = -2
  · rw [if_pos (.inl h1)] at e
    refine GX.wR ?_; intros
    exact rt1 () (vI e)
  · by_cases h2 : c = -2
    · rw [if_pos (.inr h2)] at e
      refine GX.wR ?_; intros
      exact rt1 () (vI e)
    · rw [if_neg (by omega)] at e
      by_cases h3 : c = a
      · refine GX.wR ?_; intros
        exact rt1 () (vY (e.2 (.inl h3)))
      · refine GX.wR ?_; intros
        exact rt1 () (vI (e.trans ⟨fun h => h.elim (fun h => absurd h h3) id, .inr⟩))
theorem rof_spec (cs : List Value) (u : Unt) (n : Int) : Does Try.prog 51 [.agg cs.toArray, .int .i64 n] [Ag tyUnt cs u] [] (fun _ : Unit => .int .i64 (rof u n)) (fun _ => []) (fun _ => []) := by
  refine enter Try.func51 rfl Try.ntmps51 rfl fun b => ?_
  by_cases h : n < 0
  · have e : rof u n = -4 := by unfold rof; rw [gt_out (.inl h)]; rfl
    rw [e]
    refine GX.wR ?_; intros
    exact rt1 () rfl
  · by_cases h2 : (u.vars.length : Int) ≤ n
    · have e : rof u n = -4 := by unfold rof; rw [gt_out (.inr h2)]; rfl
      rw [e]
      refine GX.wR ?_; intros
      exact rt1 () rfl
    · obtain ⟨x, hx, k, rfl, hk, hx2⟩ := gt_in (l := u.vars) (n := n) ⟨by omega, by omega⟩
      have e : rof u k = x := by unfold rof; rw [hx]; rfl
      rw [e]
      refine GX.wR ?_; intros
      exact rt1 () rfl
theorem rclass_spec (cs : List Value) (t : RTg) (c : Int) (arr : Bool) : Does Try.prog 55 [.agg cs.toArray, .int .i64 c, .bool arr] [Ag tyRTg cs t] [] (fun _ : Unit => .bool (decide (RClass t c arr))) (fun _ => []) (fun _ => []) := by
  refine enter Try.func55 rfl Try.ntmps55 rfl fun b => ?_
  by_cases h : c < 0
  · have e : ¬ RClass t c arr := by unfold RClass; rw [gt_out (.inl h)]; exact id
    refine GX.wR ?_; intros
    exact rt1 () (vN e)
  · by_cases h2 : (t.classes.length : Int) ≤ c
    · have e : ¬ RClass t c arr := by unfold RClass; rw [gt_out (.inr h2)]; exact id
      refine GX.wR ?_; intros
      exact rt1 () (vN e)
    · obtain ⟨L, hL, k, rfl, hk, hx2⟩ := gt_in (l := t.classes) (n := c) ⟨by omega, by omega⟩
      have e : RClass t k arr ↔ L.arr = arr := by unfold RClass; rw [hL]
      have e2 : decide (RClass t k arr) = (L.arr == arr) := by
        rw [Bool.eq_iff_iff, decide_eq_true_eq, beq_iff_eq]; exact e
      rw [e2]
      refine GX.wR ?_; intros
      exact rt1 () rfl
theorem record_spec (cs : List Value) (t : RTg) (e k : Int) (he : e < (t.classes.length : Int)) : Does Try.prog 53 [.agg cs.toArray, .int .i64 e, .int .i64 k] [Ag tyRTg cs t] []
    (fun _ : Unit => .tuple #[.int .i64 (record t e k).1, .bool (record t e k).2]) (fun _ => []) (fun _ => []) := by
  refine enter Try.func53 rfl Try.ntmps53 rfl fun b => ?_
  have none : ∀ {x}, (¬ (e = -1 ∧ 0 ≤ k ∧ k < 8)) → gt t.classes e = none → x = record t e k → x = (-4, false) := fun h1 h2 h3 => by rw [h3]; unfold record; rw [if_neg h1, h2]
  by_cases h1 : e = -1
  · have hg : gt t.classes e = Option.none := gt_out (.inl (by omega))
    by_cases h2 : 0 ≤ k
    · by_cases h3 : k < 8
      · have e1 : record t e k = (-4, true) := by unfold record; rw [if_pos ⟨h1, h2, h3⟩]
        rw [e1]
        refine GX.wR ?_; intros
        exact rt2 () rfl
      · rw [none (fun h => h3 h.2.2) hg rfl]
        refine GX.wR ?_; intros
        exact rt2 () rfl
    · rw [none (fun h => h2 h.2.1) hg rfl]
      refine GX.wR ?_; intros
      exact rt2 () rfl
  · have hn : ¬ (e = -1 ∧ 0 ≤ k ∧ k < 8) := fun h => h1 h.1
    by_cases h2 : e < 0
    · rw [none hn (gt_out (.inl h2)) rfl]
      refine GX.wR ?_; intros
      exact rt2 () rfl
    · obtain ⟨L, hL, j, rfl, hj, hx2⟩ := gt_in (l := t.classes) (n := e) ⟨by omega, he⟩
      by_cases h3 : L.arr = true
      · rw [record_arr hn hL h3]
        refine GX.wR ?_; intros
        exact rt2 () rfl
      · have h3' : L.arr = false := by simpa using h3
        by_cases h4 : k < 0
        · rw [record_out hn hL h3 (gt_out (.inl h4))]
          refine GX.wR ?_; intros
          exact rt2 () rfl
        · by_cases h5 : (L.refs.length : Int) ≤ k
          · rw [record_out hn hL h3 (gt_out (.inr h5))]
            refine GX.wR ?_; intros
            exact rt2 () rfl
          · obtain ⟨x, hx, m, rfl, hm, hx3⟩ := gt_in (l := L.refs) (n := k) ⟨by omega, by omega⟩
            rw [record_some hn hL h3 hx]
            refine GX.wR ?_; intros
            exact rt2 () rfl
theorem array_spec (cs : List Value) (t : RTg) (e : Int) (he : e < (t.classes.length : Int)) (hl : ∀ L ∈ t.classes, L.arr = true → L.refs.length = 1) : Does Try.prog 54 [.agg cs.toArray, .int .i64 e] [Ag tyRTg cs t] []
    (fun _ : Unit => .tuple #[.int .i64 (array t e).1, .bool (array t e).2]) (fun _ => []) (fun _ => []) := by
  refine enter Try.func54 rfl Try.ntmps54 rfl fun b => ?_
  by_cases h1 : e = -1
  · have e1 : array t e = (-4, true) := by unfold array; rw [if_pos h1]
    rw [e1]
    refine GX.wR ?_; intros
    exact rt2 () rfl
  · by_cases h2 : e < 0
    · have e1 : array t e = (-4, false) := by unfold array; rw [if_neg h1, gt_out (.inl h2)]
      rw [e1]
      refine GX.wR ?_; intros
      exact rt2 () rfl
    · obtain ⟨L, hL, j, rfl, hj, hx2⟩ := gt_in (l := t.classes) (n := e) ⟨by omega, he⟩
      by_cases h3 : L.arr = true
      · have h4 := hl L (List.mem_of_getElem? hx2) h3
        have hb : (!L.arr) = false := by rw [h3]; rfl
        obtain ⟨x, hx⟩ := get_lt (show 0 < L.refs.length by omega)
        rw [array_some h1 hL h3 (show gt L.refs 0 = some x from hx)]
        refine GX.wR ?_; intros
        exact rt2 () rfl
      · have hb : (!L.arr) = true := by simpa using h3
        rw [array_rec h1 hL h3]
        refine GX.wR ?_; intros
        exact rt2 () rfl
end Go.Proofs.Ytdkhfjcbhpfkoaa
