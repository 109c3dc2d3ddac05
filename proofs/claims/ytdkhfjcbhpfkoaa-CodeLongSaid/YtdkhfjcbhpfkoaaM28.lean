import Derived.Test.YtdkhfjcbhpfkoaaM22
import Derived.Test.YtdkhfjcbhpfkoaaM24
import Derived.Test.YtdkhfjcbhpfkoaaM27
/- Bytes of programs, plainly: no encoding begins another; how long those of right programs are; numbers laid down too long. No program in sight. -/
namespace Go.NumM
open Go Go.GX Go.Api Go.RtM Go.RiseM
def Byt (l : List Int) : Prop := ∀ x ∈ l, 0 ≤ x ∧ x ≤ 255
theorem byt_app {a c : List Int} (h1 : Byt a) (h2 : Byt c) : Byt (a ++ c) := fun x hx => (List.mem_append.1 hx).elim (h1 x) (h2 x)
theorem byt_fm {α : Type} {f : α → List Int} {l : List α} (h : ∀ x ∈ l, Byt (f x)) : Byt (l.flatMap f) := fun x hx => by
  obtain ⟨y, hy, hx⟩ := List.mem_flatMap.1 hx
  exact h y hy x hx
theorem enc_byt : ∀ z : Nat, Byt (enc z) := by
  intro z
  induction z using Nat.strongRecOn with
  | _ z ih =>
    by_cases h : z < 128
    · rw [enc_small h]
      intro x hx
      simp at hx
      omega
    · rw [enc_big h]
      intro x hx
      rcases List.mem_cons.1 hx with rfl | hx
      · omega
      · exact ih (z / 128) (by omega) x hx
theorem num_byt (x : Int) : Byt (num x) := enc_byt _
theorem encs_byt (l : List Int) : Byt (encs l) := byt_fm fun x _ => num_byt x
theorem encL_byt (l : List Int) : Byt (encL l) := byt_app (num_byt _) (encs_byt l)
theorem encC_byt (c : Layout) : Byt (encC c) := byt_app (num_byt _) (encL_byt _)
theorem encI_byt (i : Ins) : Byt (encI i) := byt_app (encs_byt _) (encL_byt _)
theorem encU_byt (u : Unt) : Byt (encU u) := byt_app (num_byt _) (byt_app (encL_byt _) (byt_app (num_byt _) (byt_app (encL_byt _) (byt_app (encL_byt _) (byt_app (num_byt _) (byt_fm fun x _ => encI_byt x))))))
theorem encT_byt (t : RTg) : Byt (encT t) := byt_app (num_byt _) (byt_app (byt_fm fun x _ => encC_byt x) (byt_app (encL_byt _) (byt_app (num_byt _) (byt_app (byt_fm fun x _ => encU_byt x) (num_byt _)))))
/-- What one may read back whatever follows. -/
def Pf {α : Type} (e : α → List Int) : Prop := ∀ x y r s, e x ++ r = e y ++ s → x = y ∧ r = s
theorem pf_enc : Pf enc := by
  intro z
  induction z using Nat.strongRecOn with
  | _ z ih =>
    intro y r s h
    by_cases h1 : z < 128 <;> by_cases h2 : y < 128
    · rw [enc_small h1, enc_small h2] at h
      simp at h
      exact ⟨by omega, h.2⟩
    · rw [enc_small h1, enc_big h2] at h
      simp at h
      omega
    · rw [enc_big h1, enc_small h2] at h
      simp at h
      omega
    · rw [enc_big h1, enc_big h2] at h
      simp at h
      obtain ⟨g1, g2⟩ := h
      obtain ⟨k1, k2⟩ := ih (z / 128) (by omega) (y / 128) r s g2
      exact ⟨by omega, k2⟩
theorem pf_num : Pf num := fun x y r s h => by
  obtain ⟨h1, h2⟩ := pf_enc _ _ _ _ h
  exact ⟨by rw [← zag_zig x, h1, zag_zig], h2⟩
theorem pf_flat {α : Type} {f : α → List Int} (hf : Pf f) : ∀ l m : List α, ∀ r s, l.length = m.length → l.flatMap f ++ r = m.flatMap f ++ s → l = m ∧ r = s
  | [], [], r, s, _, h => ⟨rfl, by simpa using h⟩
  | x :: l, y :: m, r, s, hl, h => by
    rw [List.flatMap_cons, List.flatMap_cons, List.append_assoc, List.append_assoc] at h
    obtain ⟨h1, h2⟩ := hf _ _ _ _ h
    obtain ⟨h3, h4⟩ := pf_flat hf l m r s (by simpa using hl) h2
    exact ⟨by rw [h1, h3], h4⟩
  | [], y :: m, r, s, hl, _ => by simp at hl
  | x :: l, [], r, s, hl, _ => by simp at hl
theorem pf_encN {α : Type} {f : α → List Int} (hf : Pf f) : Pf (encN f) := fun l m r s h => by
  unfold encN at h
  rw [List.append_assoc, List.append_assoc] at h
  obtain ⟨h1, h2⟩ := pf_num _ _ _ _ h
  exact pf_flat hf l m r s (by omega) h2
theorem pf_encL : Pf encL := pf_encN pf_num
theorem pf_encC : Pf encC := fun x y r s h => by
  unfold encC at h
  rw [List.append_assoc, List.append_assoc] at h
  obtain ⟨h1, h2⟩ := pf_num _ _ _ _ h
  obtain ⟨h3, h4⟩ := pf_encL _ _ _ _ h2
  obtain ⟨a, l⟩ := x
  obtain ⟨c, m⟩ := y
  dsimp only at *
  subst h3
  refine ⟨?_, h4⟩
  cases a <;> cases c <;> simp_all
theorem pf_encI : Pf encI := fun x y r s h => by
  have e : ∀ i : Ins, encI i = num i.op ++ (num i.a ++ (num i.b ++ (num i.c ++ (num i.n ++ encL i.args)))) := fun i => by unfold encI encs; simp
  rw [e, e] at h
  simp only [List.append_assoc] at h
  obtain ⟨h1, h⟩ := pf_num _ _ _ _ h
  obtain ⟨h2, h⟩ := pf_num _ _ _ _ h
  obtain ⟨h3, h⟩ := pf_num _ _ _ _ h
  obtain ⟨h4, h⟩ := pf_num _ _ _ _ h
  obtain ⟨h5, h⟩ := pf_num _ _ _ _ h
  obtain ⟨h6, h⟩ := pf_encL _ _ _ _ h
  obtain ⟨⟩ := x
  obtain ⟨⟩ := y
  simp_all
theorem pf_encU : Pf encU := fun x y r s h => by
  have e : ∀ i : Unt, encU i = num i.params ++ (encL i.vars ++ (num i.result ++ (encL i.takes ++ (encL i.owns ++ encN encI i.ins)))) := fun i => by unfold encU encN; simp
  rw [e, e] at h
  simp only [List.append_assoc] at h
  obtain ⟨h1, h⟩ := pf_num _ _ _ _ h
  obtain ⟨h2, h⟩ := pf_encL _ _ _ _ h
  obtain ⟨h3, h⟩ := pf_num _ _ _ _ h
  obtain ⟨h4, h⟩ := pf_encL _ _ _ _ h
  obtain ⟨h5, h⟩ := pf_encL _ _ _ _ h
  obtain ⟨h6, h⟩ := pf_encN pf_encI _ _ _ _ h
  obtain ⟨⟩ := x
  obtain ⟨⟩ := y
  simp_all
theorem encT_eq (t : RTg) : encT t = encN encC t.classes ++ (encL t.globals ++ (encN encU t.units ++ num t.main)) := by unfold encT encN; simp
theorem pf_encT : Pf encT := fun x y r s h => by
  rw [encT_eq, encT_eq] at h
  simp only [List.append_assoc] at h
  obtain ⟨h1, h⟩ := pf_encN pf_encC _ _ _ _ h
  obtain ⟨h2, h⟩ := pf_encL _ _ _ _ h
  obtain ⟨h3, h⟩ := pf_encN pf_encU _ _ _ _ h
  obtain ⟨h4, h⟩ := pf_num _ _ _ _ h
  obtain ⟨⟩ := x
  obtain ⟨⟩ := y
  simp_all
theorem encT_inj {t u : RTg} (h : encT t = encT u) : t = u := (pf_encT t u [] [] (by rw [h])).1
/-- What is cut off is no program. -/
theorem not_cut {t u : RTg} {k : Nat} (hk : k < (encT t).length) : encT u ≠ (encT t).take k := fun h => by
  have e : encT u ++ (encT t).drop k = encT t ++ [] := by rw [h, List.take_append_drop, List.append_nil]
  have h2 := congrArg List.length (pf_encT _ _ _ _ e).2
  rw [List.length_drop] at h2
  simp at h2
  omega
theorem not_more {t u : RTg} {m : List Int} (hm : m ≠ []) : encT u ≠ encT t ++ m := fun h => hm (pf_encT u t [] m (by rw [List.append_nil]; exact h)).2.symm
/-- A number's bytes begin another's only if they are the same. -/
theorem num_begins (n m : Int) : ((num n).length ≤ (num m).length ∧ (num m).take (num n).length = num n) ↔ n = m := by
  constructor
  · rintro ⟨_, h⟩
    exact (pf_num n m ((num m).drop (num n).length) [] (by rw [← h, List.length_take, List.append_nil]; rw [show min (num n).length (num m).length = (num n).length by omega]; exact List.take_append_drop _ _)).1
  · rintro rfl
    exact ⟨Nat.le_refl _, List.take_length⟩
theorem enc_last : ∀ (z i : Nat) (x : Int), (enc z)[i]? = some x → (x < 128 ↔ i + 1 = (enc z).length) := by
  intro z
  induction z using Nat.strongRecOn with
  | _ z ih =>
    intro i x h
    by_cases hz : z < 128
    · rw [enc_small hz] at h ⊢
      cases i with
      | zero => simp at h; subst h; simp; omega
      | succ i => simp at h
    · rw [enc_big hz] at h ⊢
      cases i with
      | zero =>
        obtain ⟨c, l, hc⟩ := enc_ne (z / 128)
        simp at h; subst h
        rw [hc]; simp; omega
      | succ i =>
        have h2 : (enc (z / 128))[i]? = some x := by simpa using h
        have := ih (z / 128) (by omega) i x h2
        rw [this]; simp
/-- A number's bytes, the last one marked as if more came, and a naught behind. -/
theorem enc_long : ∀ (l : List Int) (z : Nat) (r s : List Int), (∀ x ∈ l, 128 ≤ x) → l ≠ [] → enc z ++ r ≠ l ++ 0 :: s := by
  intro l
  induction l with
  | nil => intro z r s _ h; exact absurd rfl h
  | cons x l ih =>
    intro z r s hl _ h
    have hx := hl x (by simp)
    by_cases hz : z < 128
    · rw [enc_small hz] at h
      simp at h
      omega
    · rw [enc_big hz] at h
      simp at h
      by_cases hn : l = []
      · subst hn
        by_cases h2 : z / 128 < 128
        · rw [enc_small h2] at h
          simp at h
          omega
        · rw [enc_big h2] at h
          simp at h
          omega
      · exact ih (z / 128) r s (fun y hy => hl y (by simp [hy])) hn h.2
theorem and20 (n : Int) : ∃ k : Nat, bAnd .i64 n 1048575 = (k : Int) ∧ k ≤ 1048575 := by
  refine ⟨(BitVec.ofInt 64 n &&& BitVec.ofInt 64 1048575).toNat, ?_, ?_⟩
  · have h : (BitVec.ofInt 64 n &&& BitVec.ofInt 64 1048575).toNat ≤ 1048575 := by
      rw [BitVec.toNat_and]
      exact Nat.le_trans Nat.and_le_right (by decide)
    show IntKind.i64.wrap (((BitVec.ofInt 64 n &&& BitVec.ofInt 64 1048575).toNat : Nat) : Int) = _
    exact wrap_i64 ⟨by omega, by omega⟩
  · rw [BitVec.toNat_and]
    exact Nat.le_trans Nat.and_le_right (by decide)
end Go.NumM
namespace Go.Proofs.Ytdkhfjcbhpfkoaa
open Go Go.GX Go.Api Go.RtM Go.NumM Go.RiseM
theorem one_len {x : Int} (h : 0 ≤ x ∧ x < 64) : (num x).length = 1 := by
  have : zig x < 128 := by unfold zig; split <;> omega
  unfold num
  rw [enc_small this]; rfl
theorem args_le {t : RTg} (ht : RTg.ok t) (hR : RightP t) (hT : Tiny t) {u : Unt} (hu : u ∈ t.units) {i : Ins} (hi : i ∈ u.ins) : (encs i.args).length ≤ 80 := by
  obtain ⟨⟨hc, _, _, _⟩, _, _, _, _, hU⟩ := hR
  obtain ⟨hd, hI⟩ := hU u hu
  obtain ⟨hB, hF⟩ := hI i hi
  have hio := (ht.2.2.1 u hu).2.2.2.2.2 i hi
  have six : i.args.length ≤ 6 → (encs i.args).length ≤ 80 := fun h => by
    have := fm_le (f := num) (l := i.args) (k := 10) fun x hx => num_len x (hio.2.2.2.2.2 x hx)
    unfold encs; omega
  by_cases h13 : i.op = 13
  · have hF2 : CallOk t u i := by
      unfold Fits at hF
      simpa [h13, Goes] using hF
    unfold CallOk at hF2
    split at hF2
    · rename_i g hg
      have hgm : g ∈ t.units := by
        unfold RtM.gt at hg
        split at hg
        · exact List.mem_of_getElem? hg
        · exact absurd hg (by simp)
      have := (hU g hgm).1.1
      have := hF2.1.1
      exact six (by omega)
    · exact hF2.elim
  · by_cases h21 : i.op = 21 ∨ i.op = 22
    · have hF2 : i.args ≠ [] ∧ Rise i.args ∧ ∀ n ∈ i.args, n ∈ u.owns := by
        unfold Fits at hF
        rcases h21 with h21 | h21 <;> simpa [h21, Goes] using hF
      have h1 : ∀ x ∈ i.args, (num x).length ≤ 1 := fun x hx => by
        have := (hd.2.2.2.2.2.1.2 x (hF2.2.2 x hx)).1
        unfold IsClass at this
        rw [one_len (by omega)]; exact Nat.le_refl _
      have h2 := fm_le (f := num) h1
      have := (hT.2.2 u hu).2 i hi
      unfold encs; omega
    · have : i.args = [] := by
        unfold Bare names at hB
        split at hB
        · rename_i a b c n g hn
          have := hB.2.2.2.2
          rcases this with h | h
          · exfalso
            subst h
            simp only [h13, h21, if_false] at hn
            repeat' split at hn
            all_goals simp at hn
          · exact h
        · exact hB.elim
      exact six (by rw [this]; exact Nat.zero_le _)
theorem right_le {t : RTg} (ht : RTg.ok t) (hR : RightP t) (hT : Tiny t) : (encT t).length ≤ 2000000 := by
  have ht0 := ht
  obtain ⟨h1, h2, h3, h4⟩ := ht
  obtain ⟨⟨g1, g2, g3⟩, g4, g5⟩ := hT
  have k1 := num_len (t.classes.length : Int) ⟨by omega, by omega⟩
  have k2 : (t.classes.flatMap encC).length ≤ t.classes.length * 220 := fm_le fun x hx => by
    have := encL_le (h1 x hx) (g4 x hx) (by omega)
    have := num_bit x.arr
    unfold encC; rw [List.length_append]; omega
  have k3 := encL_le h2 g2 (by omega)
  have k4 := num_len (t.units.length : Int) ⟨by omega, by omega⟩
  have k5 : (t.units.flatMap encU).length ≤ t.units.length * 70000 := fm_le fun u hu => by
    obtain ⟨h1, h2, h3, h4, h5, h6⟩ := h3 u hu
    obtain ⟨⟨g1, g2, g3, g4⟩, g6⟩ := g5 u hu
    have k1 := num_len _ h1
    have k2 := encL_le h2 g1 (by omega)
    have k3 := num_len _ h3
    have k4 := encL_le h4 g3 (by omega)
    have k5 := encL_le h5 g4 (by omega)
    have k6 := num_len (u.ins.length : Int) ⟨by omega, by omega⟩
    have k7 : (u.ins.flatMap encI).length ≤ u.ins.length * 140 := fm_le fun x hx => by
      obtain ⟨h1, h2, h3, h4, h5, h7⟩ := h6 x hx
      have e : (encs [x.op, x.a, x.b, x.c, x.n]).length ≤ 50 := fm_le (l := [x.op, x.a, x.b, x.c, x.n]) (k := 10) fun y hy => num_len y (by simp at hy; rcases hy with rfl | rfl | rfl | rfl | rfl <;> assumption)
      have := args_le ht0 hR ⟨⟨by omega, by omega, by omega⟩, by assumption, by assumption⟩ hu hx
      have := g6 x hx
      have := num_len (x.args.length : Int) ⟨by omega, by omega⟩
      unfold encI encL
      rw [List.length_append, List.length_append]; omega
    unfold encU
    simp only [List.length_append]
    omega
  have k6 := num_len _ h4
  unfold encT
  simp only [List.length_append]
  omega
end Go.Proofs.Ytdkhfjcbhpfkoaa

/- The walk over Get of the reference of chapter 27. -/
namespace Go.Proofs.Ytdkhfjcbhpfkoaa
open Go Go.RR Go.RX Go.GX Go.Api Go.NumM Go.RtM
attribute [local irreducible] wpList Code.wp wpPlan Exit.then Exit.inBlock bodyPost NoPanic Went GX.Post GX.Again GX.Meet GX.RowR GX.Own GX.Owns GX.Box GX.Sl GX.Pt GX.Ag GX.MapR GX.Kept GX.Pin wpT GoK AtEnd Both
set_option maxHeartbeats 4000000 in
theorem rget27_spec (a : Option Addr) (c : Nat) (B : List Int) (hB : Byt B) :
    Does Try.prog 15 [.slice a B.length c] [Sl Ty.byte a c B] [] (fun s : GetS B => .tuple #[.agg s.cs.toArray, .int .i64 s.e]) (fun s => [Ag tyRTg s.cs s.t]) (fun _ => []) := by
  refine enter Try.func15 rfl Try.ntmps15 rfl fun b => ?_
  by_cases h1 : 4194304 < (B.length : Int)
  · refine GX.wbR ?_; intros
    exact rt2B (fun cs => (⟨cs, ⟨[], [], [], 0⟩, 4, get_great (by omega)⟩ : GetS B)) (fun _ => rfl)
  have h1n : ¬ 4194304 < B.length := by omega
  refine GX.wbRN ?_; intros
  apply GX.region
  refine GX.wbRN ?_; intros
  refine GX.nmP 2 ?_; rintro b2 rfl
  apply GX.region
  refine GX.wbRN ?_; intros
  apply GX.region
  refine GX.wbRA ?_; intros
  refine GX.nmP 4 ?_; rintro p rfl
  refine GX.nmP 5 ?_; rintro b5 rfl
  refine GX.o (cl (rrdMany_spec p ((a, c) : AC) B false) fun s => ?_)
  obtain ⟨n, c1, D1, d1, hm⟩ := s
  dsimp only
  have hn1 := hm.fit
  have hn2 := hm.len
  refine GX.wbRB ?_; intros
  refine GX.cut (σ := RlS Layout) (fun q => [(0, .slice a B.length c), (2, .pointer (some ⟨b2, 0, none⟩)), (4, .pointer (some ⟨p, 0, none⟩)), (5, .pointer (some ⟨b5, 0, none⟩))]) (fun q => [Sl Ty.byte q.c.1 q.c.2 q.D, Sl tyLayout q.ao q.cap q.xs]) (fun q => [RowR p 65 [.slice q.c.1 q.D.length q.c.2, .bool q.d], RowR b5 26 [.slice q.ao q.xs.length q.cap, .slice none 0 0, .slice none 0 0, .int .i64 0], Box 26 tyRTg b2 ⟨[], [], [], 0⟩])
    (fun q => Rdn (encN encC) (okN Layout.ok) B false q.xs q.D q.d) ?_ (fun q hq => ?_)
  · refine GX.wbR ?_; intros
    refine ownNil 44 tyLayout ?_
    refine GX.loop (σ := RlS Layout) (fun q => [(0, .slice a B.length c), (2, .pointer (some ⟨b2, 0, none⟩)), (4, .pointer (some ⟨p, 0, none⟩)), (5, .pointer (some ⟨b5, 0, none⟩)), (6, .int .i64 (n : Int)), (7, .int .i64 (q.xs.length : Int))]) (fun q => [Sl Ty.byte q.c.1 q.c.2 q.D]) (fun q => [RowR p 65 [.slice q.c.1 q.D.length q.c.2, .bool q.d], RowR b5 26 [.slice q.ao q.xs.length q.cap, .slice none 0 0, .slice none 0 0, .int .i64 0], Own 44 tyLayout q.ao q.cap q.xs, Box 26 tyRTg b2 ⟨[], [], [], 0⟩])
      (fun q => q.xs.length ≤ n ∧ Rdn (flat encC) (okL Layout.ok q.xs.length) D1 d1 q.xs q.D q.d) (fun q => n - q.xs.length) ⟨none, 0, [], c1, D1, d1⟩ ⟨rfl, rfl, rfl, rfl, rfl, rfl, trivial⟩ ⟨Nat.zero_le _, rdl_nil⟩ (fun q hq => ?_)
    obtain ⟨ao, cap, xs, c7, D7, d7⟩ := q
    obtain ⟨g1, g2⟩ := hq
    dsimp only at *
    have l7 := g2.len
    by_cases hlt : xs.length < n
    · by_cases hd : d7 = true
      · subst hd
        refine GX.wbR ?_; intros
        refine frz ao ?_
        exact meet ⟨ao, cap, xs, c7, D7, true⟩ ⟨rfl, rfl, rfl, rfl, trivial⟩ (rdl_end hm g2 (.inr ⟨by omega, rfl⟩) (by omega) (by omega) (fun x _ => encC_pos x))
      have hd0 : d7 = false := by simpa using hd
      subst hd0
      refine GX.wbRA ?_; intros
      refine GX.o (cl (rrdNum_spec p c7 D7 false) fun s => ?_)
      obtain ⟨x, c8, D8, d8, hs⟩ := s
      have l8 := hs.len
      dsimp only
      refine GX.wbRA ?_; intros
      refine GX.nmP 8 ?_; rintro b8 rfl
      refine GX.o (cl (rrdList_spec p c8 D8 d8 (by omega)) fun s => ?_)
      obtain ⟨aX, cX, ys, c9, D9, d9, hs2⟩ := s
      dsimp only
      refine GX.wbRN ?_; intros
      refine frzR b8 (e := tyLayout) (vs := [.bool (decide (x = 1)), .slice aX ys.length cX]) (y := (⟨decide (x = 1), ys⟩ : Layout)) ?_ (show Reads _ _ tyLayout (⟨decide (x = 1), ys⟩ : Layout) from Go.GX.Rds.r)
      refine GX.wbR ?_; intros
      refine GX.nmS 48 ?_; rintro a9 c10 rfl rfl
      rw [show xs.length + 1 = (xs ++ [(⟨decide (x = 1), ys⟩ : Layout)]).length by simp]
      exact again ⟨a9, c10, xs ++ [⟨decide (x = 1), ys⟩], c9, D9, d9⟩ ⟨rfl, rfl, rfl, rfl, rfl, rfl, trivial⟩ ⟨by dsimp only; rw [List.length_append]; exact hlt, by dsimp only; rw [List.length_append]; exact rdl_snoc g2 (rd_lay hs hs2)⟩ (by dsimp only; rw [List.length_append, List.length_singleton]; omega)
    · refine GX.wbR ?_; intros
      refine frz ao ?_
      exact meet ⟨ao, cap, xs, c7, D7, d7⟩ ⟨rfl, rfl, rfl, rfl, trivial⟩ (rdl_end hm g2 (.inl (by omega)) (by omega) (by omega) (fun x _ => encC_pos x))
  obtain ⟨ao, cap, xs, c7, D7, d7⟩ := q
  dsimp only at *
  have l7 := hq.len
  clear hm
  refine GX.wbR ?_; intros
  refine GX.o (cl (rrdList_spec p c7 D7 d7 (by omega)) fun s => ?_)
  obtain ⟨aG, cG, gl, c8, D8, d8, hg⟩ := s
  dsimp only
  have l8 := hg.len
  refine GX.wbR ?_; intros
  refine GX.o (cl (rrdMany_spec p c8 D8 d8) fun s => ?_)
  obtain ⟨n2, c9, D9, d9, hm2⟩ := s
  dsimp only
  have hn3 := hm2.fit
  have hn4 := hm2.len
  refine GX.wbRB ?_; intros
  refine GX.cut (σ := RlS Unt) (fun q => [(0, .slice a B.length c), (2, .pointer (some ⟨b2, 0, none⟩)), (4, .pointer (some ⟨p, 0, none⟩)), (5, .pointer (some ⟨b5, 0, none⟩))]) (fun q => [Sl Ty.byte q.c.1 q.c.2 q.D, Sl tyUnt q.ao q.cap q.xs]) (fun q => [RowR p 65 [.slice q.c.1 q.D.length q.c.2, .bool q.d], RowR b5 26 [.slice ao xs.length cap, .slice aG gl.length cG, .slice q.ao q.xs.length q.cap, .int .i64 0], Box 26 tyRTg b2 ⟨[], [], [], 0⟩])
    (fun q => Rdn (encN encU) (okN Unt.ok) D8 d8 q.xs q.D q.d) ?_ (fun q hq2 => ?_)
  · refine GX.wbR ?_; intros
    refine ownNil 47 tyUnt ?_
    refine GX.loop (σ := RlS Unt) (fun q => [(0, .slice a B.length c), (2, .pointer (some ⟨b2, 0, none⟩)), (4, .pointer (some ⟨p, 0, none⟩)), (5, .pointer (some ⟨b5, 0, none⟩)), (6, .int .i64 (n2 : Int)), (9, .int .i64 (q.xs.length : Int))]) (fun q => [Sl Ty.byte q.c.1 q.c.2 q.D]) (fun q => [RowR p 65 [.slice q.c.1 q.D.length q.c.2, .bool q.d], RowR b5 26 [.slice ao xs.length cap, .slice aG gl.length cG, .slice q.ao q.xs.length q.cap, .int .i64 0], Own 47 tyUnt q.ao q.cap q.xs, Box 26 tyRTg b2 ⟨[], [], [], 0⟩])
      (fun q => q.xs.length ≤ n2 ∧ Rdn (flat encU) (okL Unt.ok q.xs.length) D9 d9 q.xs q.D q.d) (fun q => n2 - q.xs.length) ⟨none, 0, [], c9, D9, d9⟩ ⟨rfl, rfl, rfl, rfl, rfl, rfl, trivial⟩ ⟨Nat.zero_le _, rdl_nil⟩ (fun q hq => ?_)
    obtain ⟨aU, cU, us, c5, D5, d5⟩ := q
    obtain ⟨g1, g2⟩ := hq
    dsimp only at *
    have l5 := g2.len
    by_cases hlt : us.length < n2
    · by_cases hd : d5 = true
      · subst hd
        refine GX.wbR ?_; intros
        refine frz aU ?_
        exact meet ⟨aU, cU, us, c5, D5, true⟩ ⟨rfl, rfl, rfl, rfl, trivial⟩ (rdl_end hm2 g2 (.inr ⟨by omega, rfl⟩) (by omega) (by omega) (fun x _ => encU_pos x))
      have hd0 : d5 = false := by simpa using hd
      subst hd0
      refine GX.wbRA ?_; intros
      refine GX.nmP 10 ?_; rintro b10 rfl
      refine GX.o (cl (rrdNum_spec p c5 D5 false) fun s => ?_)
      obtain ⟨x1, k1, E1, e1, h1⟩ := s
      have m1 := h1.len
      dsimp only
      refine GX.wbR ?_; intros
      refine GX.o (cl (rrdList_spec p k1 E1 e1 (by omega)) fun s => ?_)
      obtain ⟨aV, cV, x2, k2, E2, e2, h2⟩ := s
      have m2 := h2.len
      dsimp only
      refine GX.wbR ?_; intros
      refine GX.o (cl (rrdNum_spec p k2 E2 e2) fun s => ?_)
      obtain ⟨x3, k3, E3, e3, h3⟩ := s
      have m3 := h3.len
      dsimp only
      refine GX.wbR ?_; intros
      refine GX.o (cl (rrdList_spec p k3 E3 e3 (by omega)) fun s => ?_)
      obtain ⟨aT, cT, x4, k4, E4, e4, h4⟩ := s
      have m4 := h4.len
      dsimp only
      refine GX.wbR ?_; intros
      refine GX.o (cl (rrdList_spec p k4 E4 e4 (by omega)) fun s => ?_)
      obtain ⟨aO, cO, x5, k5, E5, e5, h5⟩ := s
      have m5 := h5.len
      dsimp only
      refine GX.wbR ?_; intros
      refine GX.o (cl (rrdMany_spec p k5 E5 e5) fun s => ?_)
      obtain ⟨n3, k6, E6, e6, hm3⟩ := s
      dsimp only
      have hn5 := hm3.fit
      have hn6 := hm3.len
      refine GX.wbRB ?_; intros
      refine GX.cut (σ := RlS Ins) (fun q => [(0, .slice a B.length c), (2, .pointer (some ⟨b2, 0, none⟩)), (4, .pointer (some ⟨p, 0, none⟩)), (5, .pointer (some ⟨b5, 0, none⟩)), (6, .int .i64 (n2 : Int)), (9, .int .i64 (us.length : Int)), (10, .pointer (some ⟨b10, 0, none⟩))]) (fun q => [Sl Ty.byte q.c.1 q.c.2 q.D, Sl tyIns q.ao q.cap q.xs]) (fun q => [RowR p 65 [.slice q.c.1 q.D.length q.c.2, .bool q.d], RowR b10 47 [.int .i64 x1, .slice aV x2.length cV, .int .i64 x3, .slice aT x4.length cT, .slice aO x5.length cO, .slice q.ao q.xs.length q.cap], RowR b5 26 [.slice ao xs.length cap, .slice aG gl.length cG, .slice aU us.length cU, .int .i64 0], Own 47 tyUnt aU cU us, Box 26 tyRTg b2 ⟨[], [], [], 0⟩])
        (fun q => Rdn (encN encI) (okN Ins.ok) E5 e5 q.xs q.D q.d) ?_ (fun q hq3 => ?_)
      · refine GX.wbR ?_; intros
        refine ownNil 49 tyIns ?_
        refine GX.loop (σ := RlS Ins) (fun q => [(0, .slice a B.length c), (2, .pointer (some ⟨b2, 0, none⟩)), (4, .pointer (some ⟨p, 0, none⟩)), (5, .pointer (some ⟨b5, 0, none⟩)), (6, .int .i64 (n2 : Int)), (9, .int .i64 (us.length : Int)), (10, .pointer (some ⟨b10, 0, none⟩)), (11, .int .i64 (n3 : Int)), (12, .int .i64 (q.xs.length : Int))]) (fun q => [Sl Ty.byte q.c.1 q.c.2 q.D]) (fun q => [RowR p 65 [.slice q.c.1 q.D.length q.c.2, .bool q.d], RowR b10 47 [.int .i64 x1, .slice aV x2.length cV, .int .i64 x3, .slice aT x4.length cT, .slice aO x5.length cO, .slice q.ao q.xs.length q.cap], Own 49 tyIns q.ao q.cap q.xs, RowR b5 26 [.slice ao xs.length cap, .slice aG gl.length cG, .slice aU us.length cU, .int .i64 0], Own 47 tyUnt aU cU us, Box 26 tyRTg b2 ⟨[], [], [], 0⟩])
          (fun q => q.xs.length ≤ n3 ∧ Rdn (flat encI) (okL Ins.ok q.xs.length) E6 e6 q.xs q.D q.d) (fun q => n3 - q.xs.length) ⟨none, 0, [], k6, E6, e6⟩ ⟨rfl, rfl, rfl, rfl, rfl, rfl, rfl, rfl, rfl, trivial⟩ ⟨Nat.zero_le _, rdl_nil⟩ (fun q hq => ?_)
        obtain ⟨aI, cI, is, c0, F0, f0⟩ := q
        obtain ⟨j1, j2⟩ := hq
        dsimp only at *
        have q0 := j2.len
        by_cases hlt3 : is.length < n3
        · by_cases hd : f0 = true
          · subst hd
            refine GX.wbR ?_; intros
            refine frz aI ?_
            exact meet ⟨aI, cI, is, c0, F0, true⟩ ⟨rfl, rfl, rfl, rfl, rfl, rfl, rfl, trivial⟩ (rdl_end hm3 j2 (.inr ⟨by omega, rfl⟩) (by omega) (by omega) (fun x _ => encI_pos x))
          have hd0 : f0 = false := by simpa using hd
          subst hd0
          refine GX.wbRA ?_; intros
          refine GX.nmP 13 ?_; rintro b13 rfl
          refine GX.o (cl (rrdNum_spec p c0 F0 false) fun s => ?_)
          obtain ⟨y1, c1, F1, f1, i1⟩ := s
          have q1 := i1.len
          dsimp only
          refine GX.wbR ?_; intros
          refine GX.o (cl (rrdNum_spec p c1 F1 f1) fun s => ?_)
          obtain ⟨y2, c2, F2, f2, i2⟩ := s
          have q2 := i2.len
          dsimp only
          refine GX.wbR ?_; intros
          refine GX.o (cl (rrdNum_spec p c2 F2 f2) fun s => ?_)
          obtain ⟨y3, c3, F3, f3, i3⟩ := s
          have q3 := i3.len
          dsimp only
          refine GX.wbR ?_; intros
          refine GX.o (cl (rrdNum_spec p c3 F3 f3) fun s => ?_)
          obtain ⟨y4, c4, F4, f4, i4⟩ := s
          have q4 := i4.len
          dsimp only
          refine GX.wbR ?_; intros
          refine GX.o (cl (rrdNum_spec p c4 F4 f4) fun s => ?_)
          obtain ⟨y5, c5, F5, f5, i5⟩ := s
          have q5 := i5.len
          dsimp only
          refine GX.wbR ?_; intros
          refine GX.o (cl (rrdList_spec p c5 F5 f5 (by omega)) fun s => ?_)
          obtain ⟨aX, cX, ys, c6, F6, f6, i6⟩ := s
          dsimp only
          refine GX.wbRN ?_; intros
          refine frzR b13 (e := tyIns) (vs := [.int .i64 y1, .int .i64 y2, .int .i64 y3, .int .i64 y4, .int .i64 y5, .slice aX ys.length cX]) (y := (⟨y1, y2, y3, y4, y5, ys⟩ : Ins)) ?_ (show Reads _ _ tyIns (⟨y1, y2, y3, y4, y5, ys⟩ : Ins) from Go.GX.Rds.r)
          refine GX.wbR ?_; intros
          refine GX.nmS 118 ?_; rintro a9 c10 rfl rfl
          rw [show is.length + 1 = (is ++ [(⟨y1, y2, y3, y4, y5, ys⟩ : Ins)]).length by simp]
          exact again ⟨a9, c10, is ++ [⟨y1, y2, y3, y4, y5, ys⟩], c6, F6, f6⟩ ⟨rfl, rfl, rfl, rfl, rfl, rfl, rfl, rfl, rfl, trivial⟩ ⟨by dsimp only; rw [List.length_append]; exact hlt3, by dsimp only; rw [List.length_append]; exact rdl_snoc j2 (rd_ins i1 i2 i3 i4 i5 i6)⟩ (by dsimp only; rw [List.length_append, List.length_singleton]; omega)
        · refine GX.wbR ?_; intros
          refine frz aI ?_
          exact meet ⟨aI, cI, is, c0, F0, f0⟩ ⟨rfl, rfl, rfl, rfl, rfl, rfl, rfl, trivial⟩ (rdl_end hm3 j2 (.inl (by omega)) (by omega) (by omega) (fun x _ => encI_pos x))
      obtain ⟨aI, cI, is, c6, F6, f6⟩ := q
      dsimp only at *
      refine frzR b10 (e := tyUnt) (vs := [.int .i64 x1, .slice aV x2.length cV, .int .i64 x3, .slice aT x4.length cT, .slice aO x5.length cO, .slice aI is.length cI]) (y := (⟨x1, x2, x3, x4, x5, is⟩ : Unt)) ?_ (show Reads _ _ tyUnt (⟨x1, x2, x3, x4, x5, is⟩ : Unt) from Go.GX.Rds.r)
      refine GX.wbR ?_; intros
      refine GX.nmS 124 ?_; rintro a9 c10 rfl rfl
      rw [show us.length + 1 = (us ++ [(⟨x1, x2, x3, x4, x5, is⟩ : Unt)]).length by simp]
      exact again ⟨a9, c10, us ++ [⟨x1, x2, x3, x4, x5, is⟩], c6, F6, f6⟩ ⟨rfl, rfl, rfl, rfl, rfl, rfl, trivial⟩ ⟨by dsimp only; rw [List.length_append]; exact hlt, by dsimp only; rw [List.length_append]; exact rdl_snoc g2 (rd_unt h1 h2 h3 h4 h5 hq3)⟩ (by dsimp only; rw [List.length_append, List.length_singleton]; omega)
    · refine GX.wbR ?_; intros
      refine frz aU ?_
      exact meet ⟨aU, cU, us, c5, D5, d5⟩ ⟨rfl, rfl, rfl, rfl, trivial⟩ (rdl_end hm2 g2 (.inl (by omega)) (by omega) (by omega) (fun x _ => encU_pos x))
  obtain ⟨aU, cU, us, c5, D5, d5⟩ := q
  dsimp only at *
  clear hm2
  refine GX.wbR ?_; intros
  refine GX.o (cl (rrdNum_spec p c5 D5 d5) fun s => ?_)
  obtain ⟨m, c6, D6, d6, hm4⟩ := s
  dsimp only
  have hr := rd_rtg hq hg hq2 hm4
  by_cases hd : d6 = true
  · subst hd
    refine GX.wbR ?_; intros
    exact rt2B (fun cs => (⟨cs, ⟨[], [], [], 0⟩, 6, get_not h1n (fun t2 h2 => absurd (rd_is hr h2).2 (by decide))⟩ : GetS B)) (fun _ => rfl)
  have hd2 : d6 = false := by simpa using hd
  subst hd2
  have hsz : (encT ⟨xs, gl, us, m⟩).length ≤ 41943040 := by have := hr.size rfl; omega
  refine GX.wbRN ?_; intros
  refine frzR b5 (e := tyRTg) (vs := [.slice ao xs.length cap, .slice aG gl.length cG, .slice aU us.length cU, .int .i64 m]) (y := (⟨xs, gl, us, m⟩ : RTg)) ?_ (show Reads _ _ tyRTg (⟨xs, gl, us, m⟩ : RTg) from Go.GX.Rds.r)
  obtain ⟨t, ht⟩ : ∃ t : RTg, t = ⟨xs, gl, us, m⟩ := ⟨_, rfl⟩
  rw [← ht] at hr hsz ⊢
  refine GX.wbR ?_; intros
  refine GX.o (cl (rput27_spec _ t hr.good (small_of (by omega)) (by omega)) fun s => ?_)
  obtain ⟨a3, c3⟩ := s
  dsimp only
  by_cases hR : RightP t
  · rw [show putT t = encT t from if_pos hR, show putE t = 0 from if_pos hR]
    have hS := strEq_nums (encT_byt t) hB
    by_cases hE : encT t = B
    · have hN : strNe (strOfNums (encT t)) (strOfNums B) = false := by unfold strNe; rw [hS, decide_eq_true hE]; rfl
      refine GX.wbR ?_; intros
      exact rt2B (fun cs => (⟨cs, t, 0, .inl ⟨rfl, ⟨hr.good, hR, hE⟩, fun t2 h2 => (rd_is hr h2).1⟩⟩ : GetS B)) (fun _ => rfl)
    · have hN : strNe (strOfNums (encT t)) (strOfNums B) = true := by unfold strNe; rw [hS, decide_eq_false hE]; rfl
      refine GX.wbR ?_; intros
      exact rt2B (fun cs => (⟨cs, ⟨[], [], [], 0⟩, 6, get_not h1n (fun t2 h2 => hE (by rw [(rd_is hr h2).1]; exact h2.2.2))⟩ : GetS B)) (fun _ => rfl)
  · rw [show putT t = [] from if_neg hR, show putE t = 5 from if_neg hR]
    refine GX.wbR ?_; intros
    exact rt2B (fun cs => (⟨cs, ⟨[], [], [], 0⟩, 6, get_not h1n (fun t2 h2 => hR (by rw [(rd_is hr h2).1]; exact h2.2.1))⟩ : GetS B)) (fun _ => rfl)
end Go.Proofs.Ytdkhfjcbhpfkoaa
