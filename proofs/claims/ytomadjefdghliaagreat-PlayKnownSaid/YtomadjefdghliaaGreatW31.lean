import Derived.Test.YtomadjefdghliaaGreatW10
import Derived.Test.YtomadjefdghliaaGreatW12
import Derived.Test.YtomadjefdghliaaGreatW25
/- What a run does to its regions, counted, plainly. No program in sight. -/
namespace Go.Proofs.YtomadjefdghliaaGreat
open Go.Api Go.RtM Go.RiseM
/-- What becomes of a table in a run. -/
inductive TR (T : Tb) : Tb → Prop where
  | refl : TR T T
  | make {T' : Tb} : TR T T' → TR T T'.make
  | rem {T' : Tb} (r : Int) : r ≠ 1 → TR T T' → TR T (T'.rem r)
  | add {T' : Tb} (r n : Int) : TR T T' → TR T (T'.add r n)
  | put {T' : Tb} (a b c : Int) : TR T T' → TR T (T'.put a b c)
theorem TR.trans {T T1 T2 : Tb} (h1 : TR T T1) (h2 : TR T1 T2) : TR T T2 := by
  induction h2 with
  | refl => exact h1
  | make _ ih => exact ih.make
  | rem r hr _ ih => exact ih.rem r hr
  | add r n _ ih => exact ih.add r n
  | put a b c _ ih => exact ih.put a b c
/-- How many are gone. -/
def goneN (B : List Bool) : Nat := B.length - liveN B
theorem liveN_le (B : List Bool) : liveN B ≤ B.length := List.countP_le_length
/-- More and more. -/
structure TMono (T T' : Tb) : Prop where
  len : T.B.length ≤ T'.B.length
  gone : goneN T.B ≤ goneN T'.B
  peak : T.peak ≤ T'.peak
  most : T.most ≤ T'.most
theorem TMono.refl (T : Tb) : TMono T T := ⟨Nat.le_refl _, Nat.le_refl _, Int.le_refl _, Int.le_refl _⟩
theorem TMono.trans {a b c : Tb} (h1 : TMono a b) (h2 : TMono b c) : TMono a c := ⟨Nat.le_trans h1.len h2.len, Nat.le_trans h1.gone h2.gone, Int.le_trans h1.peak h2.peak, Int.le_trans h1.most h2.most⟩
theorem hasB_at {B : List Bool} {r : Int} (h : hasB B r = true) : ∃ k : Nat, r = (k : Int) + 1 ∧ B[k]? = some true := by
  unfold hasB at h
  simp only [Bool.and_eq_true, decide_eq_true_eq] at h
  obtain ⟨h1, h2⟩ := h
  refine ⟨(r - 1).toNat, by omega, ?_⟩
  cases hx : B[(r - 1).toNat]? with
  | none => rw [hx] at h2; simp at h2
  | some b => rw [hx] at h2; simp at h2; rw [h2]
theorem rem_mono (T : Tb) (r : Int) : TMono T (T.rem r) := by
  unfold Tb.rem
  split
  · rename_i h
    obtain ⟨k, rfl, hk⟩ := hasB_at h
    have h1 := liveN_set hk
    rw [show ((k : Int) + 1 - 1).toNat = k by omega]
    refine ⟨by rw [List.length_set]; exact Nat.le_refl _, ?_, Int.le_refl _, Int.le_refl _⟩
    unfold goneN
    dsimp only
    rw [List.length_set]
    omega
  · exact .refl T
theorem make_mono (T : Tb) : TMono T T.make := by
  refine ⟨?_, ?_, ?_, Int.le_refl _⟩
  · show _ ≤ (T.B ++ [true]).length; rw [List.length_append]; omega
  · show goneN T.B ≤ goneN (T.B ++ [true])
    unfold goneN
    rw [liveN_app, List.length_append]
    show _ ≤ T.B.length + 1 - (liveN T.B + 1)
    omega
  · show T.peak ≤ max _ _; omega
theorem add_mono (T : Tb) (r n : Int) : TMono T (T.add r n) := by
  unfold Tb.add
  split
  · exact ⟨Nat.le_refl _, Nat.le_refl _, Int.le_refl _, by show T.most ≤ max _ _; omega⟩
  · exact .refl T
theorem put_mono (T : Tb) (a b c : Int) : TMono T (T.put a b c) := ⟨Nat.le_refl _, Nat.le_refl _, Int.le_refl _, Int.le_refl _⟩
theorem TR.mono {T T' : Tb} (h : TR T T') : TMono T T' := by
  induction h with
  | refl => exact .refl _
  | make _ ih => exact ih.trans (make_mono _)
  | rem r _ _ ih => exact ih.trans (rem_mono _ r)
  | add r n _ ih => exact ih.trans (add_mono _ r n)
  | put a b c _ ih => exact ih.trans (put_mono _ a b c)
/-- The global region is there; peak and most are what they say. -/
structure TOk (T : Tb) : Prop where
  one : T.B[0]? = some true
  lo : 1 ≤ T.peak
  live : (liveN T.B : Int) ≤ T.peak
  hi : T.peak ≤ (T.B.length : Int)
  most : T.most ≤ (T.L.length : Int)
theorem TR.ok {T T' : Tb} (h : TR T T') (h0 : TOk T) : TOk T' := by
  induction h with
  | refl => exact h0
  | make _ ih =>
    rename_i T' _
    obtain ⟨a, b, c, d, e⟩ := ih
    have hl := liveN_le T'.B
    have hp : T'.make.peak = max T'.peak (liveN (T'.B ++ [true]) : Int) := rfl
    have hB : T'.make.B = T'.B ++ [true] := rfl
    rw [liveN_app] at hp
    refine ⟨?_, by omega, ?_, ?_, e⟩
    · rw [hB, List.getElem?_append_left (by have := (List.getElem?_eq_some_iff.1 a).1; omega)]; exact a
    · rw [hB, liveN_app]; omega
    · rw [hB, List.length_append]; simp only [List.length_singleton]; omega
  | rem r hr _ ih =>
    rename_i T' _
    obtain ⟨a, b, c, d, e⟩ := ih
    unfold Tb.rem
    split
    · rename_i h
      obtain ⟨k, rfl, hk⟩ := hasB_at h
      have h1 := liveN_set hk
      rw [show ((k : Int) + 1 - 1).toNat = k by omega]
      refine ⟨?_, b, by dsimp only; omega, by dsimp only; rw [List.length_set]; exact d, e⟩
      dsimp only
      rw [List.getElem?_set_ne (by omega)]; exact a
    · exact ⟨a, b, c, d, e⟩
  | add r n _ ih =>
    rename_i T' _
    obtain ⟨a, b, c, d, e⟩ := ih
    unfold Tb.add
    split
    · refine ⟨a, b, c, d, ?_⟩
      dsimp only
      have : nowN T'.B (T'.L ++ [(r, List.replicate (cells n) 0)]) ≤ (T'.L ++ [(r, List.replicate (cells n) 0)]).length := List.countP_le_length
      rw [List.length_append] at this ⊢
      simp only [List.length_singleton] at this ⊢
      omega
    · exact ⟨a, b, c, d, e⟩
  | put x y z _ ih =>
    rename_i T' _
    obtain ⟨a, b, c, d, e⟩ := ih
    exact ⟨a, b, c, d, by rw [(tput_len T' x y z).2]; exact e⟩
/-- How a run may end so far. -/
def EnC (e c : Int) : Prop := (e = 0 ∧ c = 0) ∨ (e = 1 ∧ c = 0) ∨ (e = 2 ∧ 1 ≤ c ∧ c ≤ 6) ∨ (e = 4 ∧ c = 0)
def RgOk (m : Int → Int) : Prop := ∀ c, m c ≠ 1
theorem RgOk.upd {m : Int → Int} (h : RgOk m) (c : Int) {r : Int} (hr : r ≠ 1) : RgOk (updI m c r) := fun d => by
  unfold updI
  split
  · exact hr
  · exact h d
theorem crT_tr {T0 : Tb} : ∀ (l : List Int) (T : Tb) (m : Int → Int), TR T0 T → RgOk m → 1 ≤ T.B.length → TR T0 (crT l T m).1 ∧ RgOk (crT l T m).2.1
  | [], T, m, h, hm, _ => ⟨h, hm⟩
  | c :: l, T, m, h, hm, hB => by
    unfold crT
    split
    · exact ⟨h, hm⟩
    · exact crT_tr l T.make _ h.make (hm.upd c (by omega)) (by show 1 ≤ (T.B ++ [true]).length; rw [List.length_append]; omega)
theorem rmT_tr {T0 : Tb} : ∀ (l : List Int) (T : Tb) (m : Int → Int), TR T0 T → RgOk m → TR T0 (rmT l T m).1 ∧ RgOk (rmT l T m).2.1
  | [], T, m, h, hm => ⟨h, hm⟩
  | c :: l, T, m, h, hm => by
    unfold rmT
    split
    · exact ⟨h, hm⟩
    · exact rmT_tr l _ _ (h.rem (m c) (hm c)) (hm.upd c (by omega))
theorem takeR_rg {G : List Int} {B : List Bool} {f : Fr} (hf : RgOk f.regs) : ∀ (l : List Int) (m m' : Int → Int), (∀ c ∈ l, c ∉ G) → RgOk m → takeR G B f l m = some m' → RgOk m'
  | [], m, m', _, hm, h => by cases h; exact hm
  | c :: l, m, m', hl, hm, h => by
    unfold takeR at h
    split at h
    · refine takeR_rg hf l _ m' (fun d hd => hl d (List.mem_cons_of_mem _ hd)) (hm.upd c ?_) h
      rw [show reg G f c = f.regs c from if_neg (hl c List.mem_cons_self)]
      exact hf c
    · cases h
/-- What an operation does. -/
structure GoR (M M' : Ms) : Prop where
  tb : TR M.tb M'.tb
  out : M.out <+: M'.out
  en : EnC M'.en M'.code
  rg : ∀ f ∈ M'.fs, RgOk f.regs
  sl : M'.slack = M.slack
section
variable {M : Ms} {f : Fr} {r : List Fr}
structure GoI (M : Ms) (f : Fr) (r : List Fr) : Prop where
  fs : M.fs = f :: r
  en : M.en = 0
  code : M.code = 0
  rg : ∀ g ∈ M.fs, RgOk g.regs
  B : 1 ≤ M.tb.B.length
theorem GoI.e0 (h : GoI M f r) : EnC M.en M.code := .inl ⟨h.en, h.code⟩
theorem GoI.keep (h : GoI M f r) (f' : Fr) (hf : RgOk f'.regs) {M' : Ms} (h1 : M'.fs = f' :: M.fs.tail) (h2 : TR M.tb M'.tb) (h3 : M.out <+: M'.out) (h4 : EnC M'.en M'.code) (h5 : M'.slack = M.slack) : GoR M M' := by
  refine ⟨h2, h3, h4, fun g hg => ?_, h5⟩
  rw [h1, h.fs] at hg
  rcases List.mem_cons.1 hg with rfl | hg
  · exact hf
  · exact h.rg g (by rw [h.fs]; exact List.mem_cons_of_mem _ hg)
theorem GoI.rgf (h : GoI M f r) : RgOk f.regs := h.rg f (by rw [h.fs]; simp)
theorem GoI.tl (h : GoI M f r) : M.fs = f :: M.fs.tail := by rw [h.fs]; rfl
theorem GoI.var (h : GoI M f r) (n y : Int) : GoR M (M.var f n y) := h.keep { f with vars := setv f.vars n y } h.rgf rfl .refl (List.prefix_refl _) h.e0 rfl
theorem GoI.ends (h : GoI M f r) {e c : Int} (hc : EnC e c) : GoR M (M.ends e c) := h.keep f h.rgf h.tl .refl (List.prefix_refl _) hc rfl
theorem GoI.trapT (h : GoI M f r) {T : Tb} (hT : TR M.tb T) {c : Int} (hc : c = 0 ∨ c = -1 ∨ (1 ≤ c ∧ c ≤ 6)) : GoR M (({ M with tb := T } : Ms).trap c) := by
  unfold Ms.trap
  split
  · exact h.keep f h.rgf h.tl hT (List.prefix_refl _) h.e0 rfl
  · split
    · exact h.keep f h.rgf h.tl hT (List.prefix_refl _) (.inr (.inr (.inr ⟨rfl, rfl⟩))) rfl
    · exact h.keep f h.rgf h.tl hT (List.prefix_refl _) (.inr (.inr (.inl ⟨rfl, by show 1 ≤ c; omega, by show c ≤ 6; omega⟩))) rfl
theorem GoI.trap (h : GoI M f r) {c : Int} (hc : c = 0 ∨ c = -1 ∨ (1 ≤ c ∧ c ≤ 6)) : GoR M (M.trap c) := h.trapT .refl hc
theorem GoI.got (h : GoI M f r) (a : Int) {q : Int × Int} (hc : q.2 = 0 ∨ q.2 = -1 ∨ (1 ≤ q.2 ∧ q.2 ≤ 6)) : GoR M (M.got f a q) := by
  unfold Ms.got
  split
  · exact h.var a _
  · exact h.trap hc
theorem GoI.lies (h : GoI M f r) (G : List Int) (a c n : Int) : GoR M (M.lies G f a c n) := by
  unfold Ms.lies
  split
  · exact h.keep { f with vars := setv f.vars a ((M.tb.L.length + 1 : Nat) : Int) } h.rgf rfl (TR.refl.add _ _) (List.prefix_refl _) h.e0 rfl
  · exact h.ends (.inr (.inr (.inr ⟨rfl, rfl⟩)))
theorem GoI.regs (h : GoI M f r) {q : Tb × (Int → Int) × Bool} (h1 : TR M.tb q.1) (h2 : RgOk q.2.1) : GoR M (M.regs f q) := by
  unfold Ms.regs
  split
  · exact h.keep { f with regs := q.2.1 } h2 rfl h1 (List.prefix_refl _) h.e0 rfl
  · exact h.keep { f with regs := q.2.1 } h2 rfl h1 (List.prefix_refl _) (.inr (.inr (.inr ⟨rfl, rfl⟩))) rfl
theorem bin_code (op a b : Int) : (bin op a b).2 = 0 ∨ (bin op a b).2 = 3 := by
  unfold bin
  repeat' split
  all_goals first | exact .inl rfl | exact .inr rfl
theorem len_code (B : List Bool) (l : List Cell) (ref : Int) : (lenP B l ref).2 = 0 ∨ (lenP B l ref).2 = -1 ∨ (1 ≤ (lenP B l ref).2 ∧ (lenP B l ref).2 ≤ 6) := by
  unfold lenP
  repeat' split
  all_goals first | exact .inl rfl | exact .inr (.inl rfl) | exact .inr (.inr ⟨by dsimp only; omega, by dsimp only; omega⟩)
theorem load_code (B : List Bool) (l : List Cell) (ref i : Int) : (loadP B l ref i).2 = 0 ∨ (loadP B l ref i).2 = -1 ∨ (1 ≤ (loadP B l ref i).2 ∧ (loadP B l ref i).2 ≤ 6) := by
  unfold loadP
  repeat' split
  all_goals first | exact .inl rfl | exact .inr (.inl rfl) | exact .inr (.inr ⟨by dsimp only; omega, by dsimp only; omega⟩)
theorem GoI.go (h : GoI M f r) {t : RTg} {G : List Int} {i : Ins} (hG : ∀ g ∈ t.units, ∀ c ∈ g.takes, c ∉ G) (h1 : 1 ≤ i.op) (h2 : i.op ≤ 22) : GoR M (M.go t G f i) := by
  obtain ho | ho | ho | ho | ho | ho | ho | ho | ho | ho | ho | ho | ho | ho | ho | ho | ho | ho | ho | ho | ho | ho : i.op = 1 ∨ i.op = 2 ∨ i.op = 3 ∨ i.op = 4 ∨ i.op = 5 ∨ i.op = 6 ∨ i.op = 7 ∨ i.op = 8 ∨ i.op = 9 ∨ i.op = 10 ∨ i.op = 11 ∨ i.op = 12 ∨ i.op = 13 ∨ i.op = 14 ∨ i.op = 15 ∨ i.op = 16 ∨ i.op = 17 ∨ i.op = 18 ∨ i.op = 19 ∨ i.op = 20 ∨ i.op = 21 ∨ i.op = 22 := by omega
  · rw [go1 ho]; exact h.var _ _
  · rw [go2 ho]; exact h.var _ _
  · rw [go3 ho]; exact h.var _ _
  · rw [go4 ho]; exact h.got _ (by rcases bin_code i.n (lkv f.vars i.b) (lkv f.vars i.c) with e | e <;> omega)
  · rw [go5 ho]; exact h.var _ _
  · rw [go6 ho]; exact h.got _ (load_code _ _ _ _)
  · rw [go7 ho]; exact h.trapT (TR.refl.put _ _ _) (load_code _ _ _ _)
  · rw [go8 ho]; exact h.got _ (load_code _ _ _ _)
  · rw [go9 ho]; exact h.trapT (TR.refl.put _ _ _) (load_code _ _ _ _)
  · rw [go10 ho]; exact h.got _ (len_code _ _ _)
  · rw [go11 ho]; exact h.lies G _ _ _
  · rw [go12 ho]
    split
    · exact h.trap (by omega)
    · exact h.lies G _ _ _
  · rw [go13 ho]
    unfold Ms.call
    split
    · exact h.trap (by omega)
    · split
      · exact h.keep f h.rgf h.tl .refl (List.prefix_refl _) h.e0 rfl
      · rename_i g hg
        split
        · exact h.ends (.inr (.inr (.inr ⟨rfl, rfl⟩)))
        · rename_i m hm
          refine ⟨.refl, List.prefix_refl _, h.e0, fun q hq => ?_, rfl⟩
          rcases List.mem_cons.1 hq with rfl | hq
          · exact takeR_rg h.rgf _ _ _ (hG g (gt_mem hg)) (fun _ => by show (0 : Int) ≠ 1; omega) hm
          · exact h.rg q hq
  · rw [go14 ho]
    split
    · exact h.trap (by omega)
    · exact h.keep { f with vars := setv f.vars i.a _ } h.rgf rfl .refl (List.prefix_refl _) h.e0 rfl
  · rw [go15 ho]; exact h.keep f h.rgf h.tl .refl (List.prefix_append _ _) h.e0 rfl
  · rw [go16 ho]; exact h.keep { f with pc := i.n } h.rgf rfl .refl (List.prefix_refl _) h.e0 rfl
  · rw [go17 ho]; exact h.keep { f with pc := if lkv f.vars i.a ≠ 0 then i.n else i.c } h.rgf rfl .refl (List.prefix_refl _) h.e0 rfl
  · rw [go18 ho]
    unfold Ms.ret
    rw [h.fs]
    cases r with
    | nil => exact ⟨.refl, List.prefix_refl _, .inr (.inl ⟨rfl, rfl⟩), fun g hg => (by cases hg), rfl⟩
    | cons hh r =>
      have hhr : RgOk hh.regs := h.rg hh (by rw [h.fs]; simp)
      refine ⟨.refl, List.prefix_refl _, h.e0, fun g hg => ?_, rfl⟩
      rcases List.mem_cons.1 hg with rfl | hg
      · split
        · exact hhr
        · exact hhr
      · exact h.rg g (by rw [h.fs]; simp [hg])
  · rw [go19 ho]; exact h.var _ _
  · rw [go20 ho]; exact h.keep f h.rgf h.tl .refl (List.prefix_refl _) h.e0 rfl
  · rw [go21 ho]
    have := crT_tr i.args M.tb f.regs .refl h.rgf h.B
    exact h.regs this.1 this.2
  · rw [go22 ho]
    have := rmT_tr i.args M.tb f.regs .refl h.rgf
    exact h.regs this.1 this.2
end
/-- What holds all along a run. -/
structure Lives (M : Ms) : Prop where
  tb : TOk M.tb
  en : EnC M.en M.code
  rg : ∀ f ∈ M.fs, RgOk f.regs
/-- One run goes on as another. -/
structure Fore (M M' : Ms) : Prop where
  tb : TMono M.tb M'.tb
  out : M.out <+: M'.out
  sl : M'.slack ≤ M.slack
  st : M.steps ≤ M'.steps
theorem Fore.refl (M : Ms) : Fore M M := ⟨.refl _, List.prefix_refl _, Int.le_refl _, Int.le_refl _⟩
theorem Fore.trans {a b c : Ms} (h1 : Fore a b) (h2 : Fore b c) : Fore a c := ⟨h1.tb.trans h2.tb, h1.out.trans h2.out, Int.le_trans h2.sl h1.sl, Int.le_trans h1.st h2.st⟩
/-- No region that is taken is global. -/
theorem right_takes {t : RTg} (hR : RightP t) : ∀ g ∈ t.units, ∀ c ∈ g.takes, c ∉ glob t := by
  intro g hg c hc
  have h1 := (right_unit hR hg).1.2.2.2.2.1.2 c hc
  unfold outOf at h1
  rw [List.mem_filter] at h1
  exact of_decide_eq_true h1.2
theorem step_lives {t : RTg} (hR : RightP t) {M : Ms} (hok : MsOk t M) (hz : M.en = 0) (hl : Lives M) : Lives (M.step t (glob t)) ∧ Fore M (M.step t (glob t)) ∧ (M.step t (glob t)).steps = M.steps + 1 := by
  obtain ⟨f, r, u, i, hnx, hnext⟩ := hok.nextOf hz
  have hv := right_ins hR (gt_mem hnx.unit) (gt_mem hnx.ins)
  rw [step_next hnext]
  have hB : 1 ≤ M.tb.B.length := by have := (List.getElem?_eq_some_iff.1 hl.tb.one).1; omega
  have hc : M.code = 0 := by
    rcases hl.en with h | h | h | h
    · exact h.2
    · exact h.2
    · omega
    · exact h.2
  have hI : GoI (M.pre f) { f with pc := f.pc + 1 } r := by
    refine ⟨by show _ :: M.fs.tail = _; rw [hnx.fs]; rfl, hz, hc, fun g hg => ?_, hB⟩
    have hg : g ∈ _ :: M.fs.tail := hg
    rcases List.mem_cons.1 hg with rfl | hg
    · exact hl.rg f (by rw [hnx.fs]; simp)
    · exact hl.rg g (by rw [hnx.fs] at hg ⊢; exact List.mem_cons_of_mem _ hg)
  have hg := hI.go (right_takes hR) hv.op.1 hv.op.2
  have hst := (go_grow (M.pre f) t (glob t) { f with pc := f.pc + 1 } i hv.op.1 hv.op.2).st
  obtain ⟨l1, l2, l3, l4, l5, l6, l7, l8⟩ := less_fs ((M.pre f).go t (glob t) { f with pc := f.pc + 1 } i) t
  have hsl : (((M.pre f).go t (glob t) { f with pc := f.pc + 1 } i).less t).slack ≤ ((M.pre f).go t (glob t) { f with pc := f.pc + 1 } i).slack := by
    unfold Ms.less
    split
    · exact Int.min_le_left _ _
    · exact Int.le_refl _
  have e1 : (M.pre f).steps = M.steps + 1 := rfl
  refine ⟨⟨by rw [l4]; exact hg.tb.ok hl.tb, by rw [l3, l8]; exact hg.en, by rw [l1]; exact hg.rg⟩, ⟨by rw [l4]; exact hg.tb.mono, by rw [l5]; exact hg.out, Int.le_trans hsl (Int.le_of_eq hg.sl), by rw [l6, hst, e1]; omega⟩, by rw [l6, hst, e1]⟩
/-- So far a run gets, of itself. -/
def iter (t : RTg) (G : List Int) : Nat → Ms → Ms
  | 0, M => M
  | n + 1, M => if M.en = 0 then iter t G n (M.step t G) else M
theorem runM_iter (t : RTg) (G : List Int) : ∀ (n : Nat) (M : Ms), runM t G n M = if (iter t G n M).en = 0 then (iter t G n M).ends 3 0 else iter t G n M
  | 0, M => rfl
  | n + 1, M => by
    by_cases h : M.en = 0
    · rw [show runM t G (n + 1) M = runM t G n (M.step t G) from if_pos h, show iter t G (n + 1) M = iter t G n (M.step t G) from if_pos h]
      exact runM_iter t G n _
    · rw [show runM t G (n + 1) M = M from if_neg h, show iter t G (n + 1) M = M from if_neg h, if_neg h]
theorem iter_ended {t : RTg} {G : List Int} {M : Ms} (h : M.en ≠ 0) : ∀ n, iter t G n M = M
  | 0 => rfl
  | n + 1 => if_neg h
theorem iter_add (t : RTg) (G : List Int) (m : Nat) : ∀ (n : Nat) (M : Ms), iter t G (n + m) M = iter t G m (iter t G n M)
  | 0, M => by rw [Nat.zero_add]; rfl
  | n + 1, M => by
    rw [Nat.succ_add]
    by_cases h : M.en = 0
    · rw [show iter t G (n + m).succ M = iter t G (n + m) (M.step t G) from if_pos h, show iter t G (n + 1) M = iter t G n (M.step t G) from if_pos h]
      exact iter_add t G m n _
    · rw [iter_ended h, iter_ended h, iter_ended h]
theorem iter_lives {t : RTg} (hR : RightP t) : ∀ (n : Nat) {M : Ms}, MsOk t M → Lives M → MsOk t (iter t (glob t) n M) ∧ Lives (iter t (glob t) n M) ∧ Fore M (iter t (glob t) n M) ∧ (iter t (glob t) n M).steps ≤ M.steps + n ∧ ((iter t (glob t) n M).en = 0 → (iter t (glob t) n M).steps = M.steps + n)
  | 0, M, h1, h2 => ⟨h1, h2, .refl M, by show M.steps ≤ M.steps + ((0 : Nat) : Int); omega, fun _ => by show M.steps = M.steps + ((0 : Nat) : Int); omega⟩
  | n + 1, M, h1, h2 => by
    unfold iter
    split
    · rename_i hz
      obtain ⟨a, b, c⟩ := step_lives hR h1 hz h2
      obtain ⟨d1, d2, d3, d4, d5⟩ := iter_lives hR n (h1.step hR hz) a
      exact ⟨d1, d2, b.trans d3, by omega, fun h => by have := d5 h; omega⟩
    · rename_i hz
      exact ⟨h1, h2, .refl M, by omega, fun h => absurd h hz⟩
theorem iter_bnd {t : RTg} (hR : RightP t) (hT : Tame30 t) : ∀ (n : Nat) {M : Ms}, MsOk t M → Bnd M → Bnd (iter t (glob t) n M)
  | 0, M, _, h2 => h2
  | n + 1, M, h1, h2 => by
    unfold iter
    split
    · rename_i hz
      obtain ⟨f, r, u, i, hnx, hnext⟩ := h1.nextOf hz
      refine iter_bnd hR hT n (h1.step hR hz) ?_
      rw [step_next hnext]
      exact (h2.go hR hT hnx).less t
    · exact h2
theorem begin_lives (t : RTg) (inp : List Int) : Lives (begin_ t inp) := by
  refine ⟨⟨rfl, by show (1 : Int) ≤ 1; omega, by show ((1 : Nat) : Int) ≤ 1; omega, by show (1 : Int) ≤ ((1 : Nat) : Int); omega, by show (0 : Int) ≤ ((0 : Nat) : Int); omega⟩, .inl ⟨rfl, rfl⟩, fun f hf => ?_⟩
  have hf : f ∈ [_] := hf
  obtain rfl := List.mem_singleton.1 hf
  exact fun _ => by show (0 : Int) ≠ 1; omega
theorem remAll_mono (T : Tb) : ∀ n, TMono T (remAll T n)
  | 0 => .refl T
  | n + 1 => (remAll_mono T n).trans (rem_mono _ _)
theorem clear_mono (M : Ms) : TMono M.tb M.clear.tb ∧ M.clear.out = M.out ∧ M.clear.slack = M.slack ∧ M.clear.steps = M.steps ∧ M.clear.en = M.en ∧ M.clear.code = M.code := by
  unfold Ms.clear
  split
  · exact ⟨rem_mono _ _, rfl, rfl, rfl, rfl, rfl⟩
  · split
    · exact ⟨remAll_mono _ _, rfl, rfl, rfl, rfl, rfl⟩
    · exact ⟨.refl _, rfl, rfl, rfl, rfl, rfl⟩
theorem set_false_at {B : List Bool} {k : Nat} : ∀ j, (B.set k false)[j]? = some true → B[j]? = some true ∧ j ≠ k := by
  intro j h
  rw [List.getElem?_set] at h
  split at h
  · split at h <;> cases h
  · rename_i hk
    exact ⟨h, fun e => hk e.symm⟩
theorem remAll_at (T : Tb) : ∀ (n : Nat) (j : Nat), j < n → (remAll T n).B[j]? ≠ some true
  | 0, j, h => by omega
  | n + 1, j, h => by
    show ((remAll T n).rem ((n : Int) + 1)).B[j]? ≠ some true
    unfold Tb.rem
    split
    · rename_i hh
      rw [show ((n : Int) + 1 - 1).toNat = n by omega]
      dsimp only
      intro h2
      obtain ⟨h3, h4⟩ := set_false_at j h2
      exact remAll_at T n j (by omega) h3
    · rename_i hh
      intro h2
      by_cases hj : j = n
      · subst hj
        exact hh (by rw [hasB_in h2])
      · exact remAll_at T n j (by omega) h2
theorem liveN_zero {B : List Bool} (h : ∀ j : Nat, B[j]? ≠ some true) : liveN B = 0 := by
  unfold liveN
  rw [List.countP_eq_zero]
  intro x hx
  obtain ⟨j, hj, rfl⟩ := List.getElem_of_mem hx
  have := h j
  rw [List.getElem?_eq_getElem hj] at this
  simpa using this
theorem remAll_len0 (T : Tb) : ∀ n : Nat, (remAll T n).B.length = T.B.length ∧ (remAll T n).L = T.L ∧ (remAll T n).peak = T.peak ∧ (remAll T n).most = T.most
  | 0 => ⟨rfl, rfl, rfl, rfl⟩
  | n + 1 => by
    have h1 := rem_len0 (remAll T n) ((n : Int) + 1)
    obtain ⟨a, b, c, d⟩ := remAll_len0 T n
    have e : ((remAll T n).rem ((n : Int) + 1)).peak = (remAll T n).peak ∧ ((remAll T n).rem ((n : Int) + 1)).most = (remAll T n).most := by
      unfold Tb.rem
      split <;> exact ⟨rfl, rfl⟩
    exact ⟨h1.1.trans a, h1.2.trans b, e.1.trans c, e.2.trans d⟩
theorem rem_peak (T : Tb) (r : Int) : (T.rem r).peak = T.peak ∧ (T.rem r).most = T.most := by
  unfold Tb.rem
  split <;> exact ⟨rfl, rfl⟩
theorem remAll_live (T : Tb) : liveN (remAll T T.B.length).B = 0 := by
  refine liveN_zero fun j h => ?_
  have h1 := (List.getElem?_eq_some_iff.1 h).1
  rw [(remAll_len0 T _).1] at h1
  exact remAll_at T _ j h1 h
theorem clear_len (M : Ms) : M.clear.tb.B.length = M.tb.B.length ∧ M.clear.tb.peak = M.tb.peak ∧ M.clear.tb.most = M.tb.most := by
  unfold Ms.clear
  split
  · exact ⟨(rem_len0 _ _).1, (rem_peak _ _).1, (rem_peak _ _).2⟩
  · split
    · obtain ⟨a, _, c, d⟩ := remAll_len0 M.tb M.tb.B.length
      exact ⟨a, c, d⟩
    · exact ⟨rfl, rfl, rfl⟩
theorem liveN_pos {B : List Bool} {k : Nat} (h : B[k]? = some true) : 1 ≤ liveN B := by have := liveN_set h; omega
/-- What is said of every run. -/
theorem ran_counts {t : RTg} (hR : RightP t) (hT : Tame30 t) (inp : List Int) (fuel : Int) :
    let y := ranP t (glob t) inp fuel
    y.live = y.made - y.gone ∧ 0 ≤ y.live ∧ 1 ≤ y.peak ∧ y.peak ≤ y.made ∧ y.live ≤ y.peak ∧ y.beh.steps ≤ max fuel 0 ∧ y.most ≤ y.beh.steps ∧ (0 ≤ y.gone ∧ y.made ≤ 1 + 80 * y.beh.steps ∧ 0 ≤ y.beh.steps) ∧
      ((y.beh.end_ = 1 ∧ y.beh.code = 0 ∧ 1 ≤ y.gone) ∨ (y.beh.end_ = 2 ∧ 1 ≤ y.beh.code ∧ y.beh.code ≤ 6 ∧ y.live = 0) ∨ ((y.beh.end_ = 3 ∨ y.beh.end_ = 4) ∧ y.beh.code = 0 ∧ 1 ≤ y.live)) := by
  intro y
  obtain ⟨hok, hb⟩ := begin_ok (inp := inp) hR
  obtain ⟨h1, h2, h3, h4, h5⟩ := iter_lives hR (max fuel 0).toNat hok (begin_lives t inp)
  have h6 := iter_bnd hR hT (max fuel 0).toNat hok hb
  have hb0 : (begin_ t inp).steps = 0 := rfl
  have hy : y = (runM t (glob t) (max fuel 0).toNat (begin_ t inp)).clear.ran := rfl
  rw [runM_iter] at hy
  generalize iter t (glob t) (max fuel 0).toNat (begin_ t inp) = M at h1 h2 h3 h4 h5 h6 hy
  have hL := h6.L
  have hlv := liveN_le M.tb.B
  obtain ⟨o1, o2, o3, o4, o5⟩ := h2.tb
  have hpos := liveN_pos o1
  have key : ∀ M' : Ms, M'.tb = M.tb → M'.steps = M.steps → M'.clear.ran = y → y.live = y.made - y.gone ∧ 0 ≤ y.live ∧ 1 ≤ y.peak ∧ y.peak ≤ y.made ∧ y.live ≤ y.peak ∧ y.beh.steps ≤ max fuel 0 ∧ y.most ≤ y.beh.steps ∧ (0 ≤ y.gone ∧ y.made ≤ 1 + 80 * y.beh.steps ∧ 0 ≤ y.beh.steps) := by
    intro M' e1 e2 e3
    obtain ⟨c1, c2, c3⟩ := clear_len M'
    obtain ⟨m1, _, _, m4, _, _⟩ := clear_mono M'
    rw [← e3]
    have hl1 := liveN_le M'.clear.tb.B
    have hgn := m1.gone
    unfold goneN at hgn
    rw [e1] at c1 c2 c3 hgn
    rw [e2] at m4
    unfold Ms.ran
    dsimp only
    rw [c1, c2, c3, m4]
    rw [c1] at hl1 hgn
    have hBd := h6.B
    have hSd := h6.st
    refine ⟨by omega, by omega, by omega, by omega, by omega, by omega, by omega, by omega, by omega, by omega⟩
  by_cases hz : M.en = 0
  · rw [if_pos hz] at hy
    obtain ⟨k1, k2, k3, k4, k5, k6, k7, k8⟩ := key (M.ends 3 0) rfl rfl hy.symm
    refine ⟨k1, k2, k3, k4, k5, k6, k7, k8, .inr (.inr ⟨.inl ?_, ?_, ?_⟩)⟩
    · rw [hy]; rfl
    · rw [hy]; rfl
    · rw [hy]; show (1 : Int) ≤ ((liveN M.tb.B : Nat) : Int); omega
  · rw [if_neg hz] at hy
    obtain ⟨k1, k2, k3, k4, k5, k6, k7, k8⟩ := key M rfl rfl hy.symm
    refine ⟨k1, k2, k3, k4, k5, k6, k7, k8, ?_⟩
    obtain ⟨_, _, _, _, m5, m6⟩ := clear_mono M
    have ye : y.beh.end_ = M.en := by rw [hy]; exact m5
    have yc : y.beh.code = M.code := by rw [hy]; exact m6
    rcases h2.en with ⟨e, c⟩ | ⟨e, c⟩ | ⟨e, c⟩ | ⟨e, c⟩
    · exact absurd e hz
    · refine .inl ⟨by rw [ye, e], by rw [yc, c], ?_⟩
      rw [hy]
      have hcl : M.clear = { M with tb := M.tb.rem 1 } := if_pos e
      rw [hcl]
      have hh : hasB M.tb.B 1 = true := hasB_in (k := 0) o1
      have hr : (M.tb.rem 1) = ⟨M.tb.B.set 0 false, M.tb.L, M.tb.peak, M.tb.most⟩ := if_pos hh
      rw [hr]
      have hs := liveN_set o1
      show (1 : Int) ≤ ((M.tb.B.set 0 false).length : Int) - (liveN (M.tb.B.set 0 false) : Int)
      rw [List.length_set]
      omega
    · refine .inr (.inl ⟨by rw [ye, e], by rw [yc]; exact c.1, by rw [yc]; exact c.2, ?_⟩)
      rw [hy]
      have hcl : M.clear = { M with tb := remAll M.tb M.tb.B.length } := by unfold Ms.clear; rw [if_neg (by omega), if_pos e]
      rw [hcl]
      show ((liveN (remAll M.tb M.tb.B.length).B : Nat) : Int) = 0
      rw [remAll_live]; rfl
    · refine .inr (.inr ⟨.inr (by rw [ye, e]), by rw [yc, c], ?_⟩)
      rw [hy]
      have hcl : M.clear = M := by unfold Ms.clear; rw [if_neg (by omega), if_neg (by omega)]
      rw [hcl]
      show (1 : Int) ≤ ((liveN M.tb.B : Nat) : Int)
      omega
end Go.Proofs.YtomadjefdghliaaGreat

/- The walks over In, and over what compares lists of bools. -/
namespace Go.Proofs.YtomadjefdghliaaGreat
open Go Go.RR Go.RX Go.GX
attribute [local irreducible] wpList Code.wp wpPlan Exit.then Exit.inBlock bodyPost NoPanic Went GX.Post GX.Again GX.Meet GX.RowR GX.Own GX.Owns GX.Box GX.Sl GX.Pt GX.Ag GX.MapR GX.Kept GX.Pin

theorem in_spec (ao : Option Addr) (cap : Nat) (l : List Int) (v : Int) : Does Tryz.prog 86 [.slice ao l.length cap, .int .i64 v] [Sl Ty.int ao cap l] []
    (fun _ : Unit => .bool (decide (v ∈ l))) (fun _ => []) (fun _ => []) := by
  refine enter Tryz.func86 rfl Tryz.ntmps86 rfl fun b => ?_
  refine sln ao fun h1 h2 _ => ?_
  repeat (first | (apply GX.s_list; first | apply GX.nil | (refine GX.o ?_; first | (apply GX.k_load; first | refine GX.lr ?_ | refine GX.lrA ?_ | refine GX.ln ?_ | refine GX.lb ?_ | refine GX.lh ?_ | (refine GX.ls ?_; intro ao cap _ _) | (refine GX.lA ?_; intro cs) | (refine GX.l0 ?_; intro cs) | refine GX.o1n ?_ | refine GX.o1b ?_ | refine GX.o1h ?_ | (refine GX.o1s ?_; intro ao cap _ _) | refine GX.omn ?_ | refine GX.omb ?_ | refine GX.omh ?_ | (refine GX.oms ?_; intro ao cap _ _) | refine GX.ofn ?_ | refine GX.ofb ?_ | refine GX.ofh ?_ | (refine GX.ofs ?_; intro ao cap _ _) | (refine GX.oA ?_; intro cs)) | (apply GX.k_move; refine GX.m ?_) | (apply GX.k_indexAddr; first | refine GX.io1 ?_ | refine GX.ioh ?_ | refine GX.i1 ?_ | refine GX.ih ?_ | (refine GX.ix ?_; intro bl o)) | (apply GX.k_binOp_lss; refine GX.b_lss ?_) | (apply GX.k_binOp_add; first | refine GX.b_inc ?_ | refine GX.b_add ?_ | refine GX.b_addw ?_) | (apply GX.k_assign; refine GX.a ?_) | (apply GX.k_call; refine GX.c_len ?_) | (apply GX.k_binOp_eql; first | refine GX.b_eql ?_ | refine GX.b_pn ?_ | refine GX.b_nn ?_ | refine GX.b_snn ?_ | refine GX.b_sns ?_ | refine GX.b_eqls ?_ | refine GX.b_eqltf ?_ | refine GX.b_eqlft ?_ | refine GX.b_eqlb ?_)) | refine GX.gt ?_ | refine GX.gf ?_ | refine GX.gbt ?_ | refine GX.gbf ?_ | refine GX.un ?_ | refine GX.un0 ?_) | apply GX.then_normal | apply GX.seq | apply GX.region | (apply GX.s_cond; first | refine GX.ct ?_ | refine GX.cf ?_ | refine GX.cdf ?_ | refine GX.cdt ?_ | refine GX.cbt ?_ | refine GX.cbf ?_) | apply GX.skip | apply GX.block | apply GX.inBlock_normal | apply GX.exit | apply GX.then_exit | apply GX.inBlock_exit | refine GX.ibo ?_ | apply GX.ret | apply GX.then_ret | apply GX.inBlock_ret)
  refine GX.loop (σ := Nat) (fun i => [(0, .slice ao l.length cap), (1, .int .i64 v), (5, .int .i64 (i : Int))]) (fun _ => []) (fun _ => [])
    (fun i => i ≤ l.length ∧ v ∉ l.take i) (fun i => l.length - i) 0 ⟨rfl, rfl, rfl, trivial⟩ ⟨by omega, by simp⟩ (fun i hi => ?_)
  obtain ⟨hi, hn⟩ := hi
  by_cases hlt : i < l.length
  · obtain ⟨x, hx⟩ := get_lt hlt
    by_cases hxv : x = v
    · repeat (first | (apply GX.s_list; first | apply GX.nil | (refine GX.o ?_; first | (apply GX.k_load; first | refine GX.lr ?_ | refine GX.lrA ?_ | refine GX.ln ?_ | refine GX.lb ?_ | refine GX.lh ?_ | (refine GX.ls ?_; intro ao cap _ _) | (refine GX.lA ?_; intro cs) | (refine GX.l0 ?_; intro cs) | refine GX.o1n ?_ | refine GX.o1b ?_ | refine GX.o1h ?_ | (refine GX.o1s ?_; intro ao cap _ _) | refine GX.omn ?_ | refine GX.omb ?_ | refine GX.omh ?_ | (refine GX.oms ?_; intro ao cap _ _) | refine GX.ofn ?_ | refine GX.ofb ?_ | refine GX.ofh ?_ | (refine GX.ofs ?_; intro ao cap _ _) | (refine GX.oA ?_; intro cs)) | (apply GX.k_move; refine GX.m ?_) | (apply GX.k_indexAddr; first | refine GX.io1 ?_ | refine GX.ioh ?_ | refine GX.i1 ?_ | refine GX.ih ?_ | (refine GX.ix ?_; intro bl o)) | (apply GX.k_binOp_lss; refine GX.b_lss ?_) | (apply GX.k_binOp_add; first | refine GX.b_inc ?_ | refine GX.b_add ?_ | refine GX.b_addw ?_) | (apply GX.k_assign; refine GX.a ?_) | (apply GX.k_call; refine GX.c_len ?_) | (apply GX.k_binOp_eql; first | refine GX.b_eql ?_ | refine GX.b_pn ?_ | refine GX.b_nn ?_ | refine GX.b_snn ?_ | refine GX.b_sns ?_ | refine GX.b_eqls ?_ | refine GX.b_eqltf ?_ | refine GX.b_eqlft ?_ | refine GX.b_eqlb ?_)) | refine GX.gt ?_ | refine GX.gf ?_ | refine GX.gbt ?_ | refine GX.gbf ?_ | refine GX.un ?_ | refine GX.un0 ?_) | apply GX.then_normal | apply GX.seq | apply GX.region | (apply GX.s_cond; first | refine GX.ct ?_ | refine GX.cf ?_ | refine GX.cdf ?_ | refine GX.cdt ?_ | refine GX.cbt ?_ | refine GX.cbf ?_) | apply GX.skip | apply GX.block | apply GX.inBlock_normal | apply GX.exit | apply GX.then_exit | apply GX.inBlock_exit | refine GX.ibo ?_ | apply GX.ret | apply GX.then_ret | apply GX.inBlock_ret)
      exact rt1 () (congrArg Value.bool (decide_eq_true (hxv ▸ List.mem_of_getElem? hx)))
    · repeat (first | (apply GX.s_list; first | apply GX.nil | (refine GX.o ?_; first | (apply GX.k_load; first | refine GX.lr ?_ | refine GX.lrA ?_ | refine GX.ln ?_ | refine GX.lb ?_ | refine GX.lh ?_ | (refine GX.ls ?_; intro ao cap _ _) | (refine GX.lA ?_; intro cs) | (refine GX.l0 ?_; intro cs) | refine GX.o1n ?_ | refine GX.o1b ?_ | refine GX.o1h ?_ | (refine GX.o1s ?_; intro ao cap _ _) | refine GX.omn ?_ | refine GX.omb ?_ | refine GX.omh ?_ | (refine GX.oms ?_; intro ao cap _ _) | refine GX.ofn ?_ | refine GX.ofb ?_ | refine GX.ofh ?_ | (refine GX.ofs ?_; intro ao cap _ _) | (refine GX.oA ?_; intro cs)) | (apply GX.k_move; refine GX.m ?_) | (apply GX.k_indexAddr; first | refine GX.io1 ?_ | refine GX.ioh ?_ | refine GX.i1 ?_ | refine GX.ih ?_ | (refine GX.ix ?_; intro bl o)) | (apply GX.k_binOp_lss; refine GX.b_lss ?_) | (apply GX.k_binOp_add; first | refine GX.b_inc ?_ | refine GX.b_add ?_ | refine GX.b_addw ?_) | (apply GX.k_assign; refine GX.a ?_) | (apply GX.k_call; refine GX.c_len ?_) | (apply GX.k_binOp_eql; first | refine GX.b_eql ?_ | refine GX.b_pn ?_ | refine GX.b_nn ?_ | refine GX.b_snn ?_ | refine GX.b_sns ?_ | refine GX.b_eqls ?_ | refine GX.b_eqltf ?_ | refine GX.b_eqlft ?_ | refine GX.b_eqlb ?_)) | refine GX.gt ?_ | refine GX.gf ?_ | refine GX.gbt ?_ | refine GX.gbf ?_ | refine GX.un ?_ | refine GX.un0 ?_) | apply GX.then_normal | apply GX.seq | apply GX.region | (apply GX.s_cond; first | refine GX.ct ?_ | refine GX.cf ?_ | refine GX.cdf ?_ | refine GX.cdt ?_ | refine GX.cbt ?_ | refine GX.cbf ?_) | apply GX.skip | apply GX.block | apply GX.inBlock_normal | apply GX.exit | apply GX.then_exit | apply GX.inBlock_exit | refine GX.ibo ?_ | apply GX.ret | apply GX.then_ret | apply GX.inBlock_ret)
      refine again (i + 1) ⟨rfl, rfl, rfl, trivial⟩ ⟨by omega, fun h => ?_⟩ (by omega)
      rw [List.take_add_one, hx, List.mem_append] at h
      rcases h with h | h
      · exact hn h
      · simp at h; exact hxv h.symm
  · have hil : i = l.length := by omega
    subst hil
    rw [List.take_length] at hn
    repeat (first | (apply GX.s_list; first | apply GX.nil | (refine GX.o ?_; first | (apply GX.k_load; first | refine GX.lr ?_ | refine GX.lrA ?_ | refine GX.ln ?_ | refine GX.lb ?_ | refine GX.lh ?_ | (refine GX.ls ?_; intro ao cap _ _) | (refine GX.lA ?_; intro cs) | (refine GX.l0 ?_; intro cs) | refine GX.o1n ?_ | refine GX.o1b ?_ | refine GX.o1h ?_ | (refine GX.o1s ?_; intro ao cap _ _) | refine GX.omn ?_ | refine GX.omb ?_ | refine GX.omh ?_ | (refine GX.oms ?_; intro ao cap _ _) | refine GX.ofn ?_ | refine GX.ofb ?_ | refine GX.ofh ?_ | (refine GX.ofs ?_; intro ao cap _ _) | (refine GX.oA ?_; intro cs)) | (apply GX.k_move; refine GX.m ?_) | (apply GX.k_indexAddr; first | refine GX.io1 ?_ | refine GX.ioh ?_ | refine GX.i1 ?_ | refine GX.ih ?_ | (refine GX.ix ?_; intro bl o)) | (apply GX.k_binOp_lss; refine GX.b_lss ?_) | (apply GX.k_binOp_add; first | refine GX.b_inc ?_ | refine GX.b_add ?_ | refine GX.b_addw ?_) | (apply GX.k_assign; refine GX.a ?_) | (apply GX.k_call; refine GX.c_len ?_) | (apply GX.k_binOp_eql; first | refine GX.b_eql ?_ | refine GX.b_pn ?_ | refine GX.b_nn ?_ | refine GX.b_snn ?_ | refine GX.b_sns ?_ | refine GX.b_eqls ?_ | refine GX.b_eqltf ?_ | refine GX.b_eqlft ?_ | refine GX.b_eqlb ?_)) | refine GX.gt ?_ | refine GX.gf ?_ | refine GX.gbt ?_ | refine GX.gbf ?_ | refine GX.un ?_ | refine GX.un0 ?_) | apply GX.then_normal | apply GX.seq | apply GX.region | (apply GX.s_cond; first | refine GX.ct ?_ | refine GX.cf ?_ | refine GX.cdf ?_ | refine GX.cdt ?_ | refine GX.cbt ?_ | refine GX.cbf ?_) | apply GX.skip | apply GX.block | apply GX.inBlock_normal | apply GX.exit | apply GX.then_exit | apply GX.inBlock_exit | refine GX.ibo ?_ | apply GX.ret | apply GX.then_ret | apply GX.inBlock_ret)
    exact rt1 () (congrArg Value.bool (decide_eq_false hn))
end Go.Proofs.YtomadjefdghliaaGreat

/- The plain mathematics of chapter 26: what the reference's functions say, and that the two agree. No program in sight. -/
namespace Go.RtM
open Go.RiseM Go.ReachM Go.Api

abbrev REntry (t : RTg) (e : Int) : Prop := -2 ≤ e ∧ e < (t.classes.length : Int)
theorem rentry_iff (t : RTg) (e : Int) : REntry t e ↔ IsEntry t e := by unfold REntry IsEntry IsClass; omega
def RInto (a b : Int) : Prop := if a = -2 ∨ b = -2 then a = b else b = a ∨ b = -1
instance (a b : Int) : Decidable (RInto a b) := by unfold RInto; infer_instance
def rof (u : Unt) (n : Int) : Int := (gt u.vars n).getD (-4)
def rnames (op : Int) : Bool × Bool × Bool × Bool × Bool :=
  if op = 1 ∨ op = 11 ∨ op = 19 ∨ op = 20 then (true, false, false, true, false)
  else if op = 3 ∨ op = 10 then (true, true, false, false, false)
  else if op = 4 then (true, true, true, true, false)
  else if op = 5 ∨ op = 12 then (true, true, false, true, false)
  else if op = 6 ∨ op = 7 ∨ op = 8 ∨ op = 9 then (true, true, true, false, false)
  else if op = 13 then (true, false, true, false, true)
  else if op = 17 then (true, false, true, true, false)
  else if op = 16 then (false, false, false, true, false)
  else if op = 21 ∨ op = 22 then (false, false, false, false, true)
  else (true, false, false, false, false)
def Named (i : Ins) : Prop := Only i (rnames i.op).1 (rnames i.op).2.1 (rnames i.op).2.2.1 (rnames i.op).2.2.2.1 (rnames i.op).2.2.2.2
instance (i : Ins) : Decidable (Named i) := by unfold Named; infer_instance
/-- A field of a record's entry, an array's items: the entry; it is none that is known. -/
def record (t : RTg) (e k : Int) : Int × Bool :=
  if e = -1 ∧ 0 ≤ k ∧ k < 8 then (-4, true)
  else match gt t.classes e with
    | some L => if L.arr = true then (-4, false) else (match gt L.refs k with | some x => (x, false) | none => (-4, false))
    | none => (-4, false)
def array (t : RTg) (e : Int) : Int × Bool :=
  if e = -1 then (-4, true)
  else match gt t.classes e with
    | some L => if L.arr = true then (match gt L.refs 0 with | some x => (x, false) | none => (-4, false)) else (-4, false)
    | none => (-4, false)
theorem record_arr {t : RTg} {e k : Int} {L : Layout} (hn : ¬ (e = -1 ∧ 0 ≤ k ∧ k < 8)) (hL : gt t.classes e = some L) (h3 : L.arr = true) : record t e k = (-4, false) := by unfold record; rw [if_neg hn, hL]; simp only [if_pos h3]
theorem record_out {t : RTg} {e k : Int} {L : Layout} (hn : ¬ (e = -1 ∧ 0 ≤ k ∧ k < 8)) (hL : gt t.classes e = some L) (h3 : ¬ L.arr = true) (h4 : gt L.refs k = none) : record t e k = (-4, false) := by unfold record; rw [if_neg hn, hL]; simp only [if_neg h3, h4]
theorem record_some {t : RTg} {e k x : Int} {L : Layout} (hn : ¬ (e = -1 ∧ 0 ≤ k ∧ k < 8)) (hL : gt t.classes e = some L) (h3 : ¬ L.arr = true) (h4 : gt L.refs k = some x) : record t e k = (x, false) := by unfold record; rw [if_neg hn, hL]; simp only [if_neg h3, h4]
theorem array_some {t : RTg} {e x : Int} {L : Layout} (hn : e ≠ -1) (hL : gt t.classes e = some L) (h3 : L.arr = true) (h4 : gt L.refs 0 = some x) : array t e = (x, false) := by unfold array; rw [if_neg hn, hL]; simp only [if_pos h3, h4]
theorem array_rec {t : RTg} {e : Int} {L : Layout} (hn : e ≠ -1) (hL : gt t.classes e = some L) (h3 : ¬ L.arr = true) : array t e = (-4, false) := by unfold array; rw [if_neg hn, hL]; simp only [if_neg h3]
def RClass (t : RTg) (c : Int) (arr : Bool) : Prop := match gt t.classes c with | some L => L.arr = arr | none => False
instance (t : RTg) (c : Int) (arr : Bool) : Decidable (RClass t c arr) := by unfold RClass; split <;> infer_instance
def RCall (t : RTg) (u : Unt) (i : Ins) : Prop := match gt t.units i.c with
  | some g => (0 ≤ g.params ∧ g.params ≤ (g.vars.length : Int) ∧ (i.args.length : Int) = g.params ∧ (∀ p ∈ i.args.zip g.vars, rof u p.1 ≠ -4 ∧ RInto p.2 (rof u p.1))) ∧ (i.a = -1 ∨ rof u i.a ≠ -4 ∧ g.result ≠ -3 ∧ RInto (rof u i.a) g.result)
  | none => False
instance (t : RTg) (u : Unt) (i : Ins) : Decidable (RCall t u i) := by unfold RCall; split <;> infer_instance
/-- May an entry, or what is known of it, be had? -/
def Has (x : Int × Bool) (P : Int → Prop) : Prop := x.2 = true ∨ x.1 ≠ -4 ∧ P x.1
instance (x : Int × Bool) (P : Int → Prop) [∀ e, Decidable (P e)] : Decidable (Has x P) := by unfold Has; infer_instance
def Step (t : RTg) (u : Unt) (i : Ins) : Prop :=
  Named i ∧
  if i.op = 1 ∨ i.op = 14 ∨ i.op = 15 then rof u i.a = -2
  else if i.op = 2 then -1 ≤ rof u i.a
  else if i.op = 3 then rof u i.a ≠ -4 ∧ rof u i.b ≠ -4 ∧ RInto (rof u i.a) (rof u i.b)
  else if i.op = 4 then (rof u i.a = -2 ∧ 14 ≤ i.n ∧ i.n ≤ 24) ∧ (if i.n = 21 ∨ i.n = 22 then rof u i.b ≠ -4 ∧ rof u i.c ≠ -4 ∧ (rof u i.b = -2 ↔ rof u i.c = -2) else rof u i.b = -2 ∧ rof u i.c = -2)
  else if i.op = 5 then rof u i.a = -2 ∧ rof u i.b = -2 ∧ (i.n = 12 ∨ i.n = 13)
  else if i.op = 6 then rof u i.a ≠ -4 ∧ Has (record t (rof u i.b) i.c) (RInto (rof u i.a))
  else if i.op = 7 then rof u i.b ≠ -4 ∧ Has (record t (rof u i.a) i.c) (fun e => RInto e (rof u i.b))
  else if i.op = 8 then rof u i.a ≠ -4 ∧ rof u i.c = -2 ∧ Has (array t (rof u i.b)) (RInto (rof u i.a))
  else if i.op = 9 then rof u i.c ≠ -4 ∧ rof u i.b = -2 ∧ Has (array t (rof u i.a)) (fun e => RInto e (rof u i.c))
  else if i.op = 10 then rof u i.a = -2 ∧ Has (array t (rof u i.b)) (fun _ => True)
  else if i.op = 11 then RClass t i.n false ∧ rof u i.a = i.n
  else if i.op = 12 then RClass t i.n true ∧ rof u i.a = i.n ∧ rof u i.b = -2
  else if i.op = 13 then RCall t u i
  else if i.op = 16 then Place u i.n
  else if i.op = 17 then rof u i.a = -2 ∧ Place u i.n ∧ Place u i.c
  else if i.op = 18 then (if u.result = -3 then i.a = -1 else rof u i.a ≠ -4 ∧ RInto u.result (rof u i.a))
  else if i.op = 19 then rof u i.a ≠ -4 ∧ InG t i.n (fun g => RInto (rof u i.a) g)
  else if i.op = 20 then rof u i.a ≠ -4 ∧ InG t i.n (fun g => RInto g (rof u i.a))
  else if i.op = 21 ∨ i.op = 22 then i.args ≠ [] ∧ Rise i.args ∧ ∀ n ∈ i.args, n ∈ u.owns
  else False

/-! ### The two agree, where all else is right. -/
section
variable {t : RTg} {u : Unt}
/-- What is known of an entry that may be. -/
abbrev Ent (e : Int) : Prop := -2 ≤ e
theorem into_iff {a b : Int} (ha : Ent a) (hb : Ent b) : Into a b ↔ RInto a b := by
  unfold Into RInto Ent at *
  split <;> split <;> omega
theorem into_none {a : Int} : ¬ Into a (-3) := by unfold Into; split <;> omega
theorem none_into {b : Int} : ¬ Into (-3) b := by unfold Into; split <;> omega
theorem named_iff {i : Ins} (h : i.op ∈ ([1, 2, 3, 4, 5, 6, 7, 8, 9, 10, 11, 12, 13, 14, 15, 16, 17, 18, 19, 20, 21, 22] : List Int)) : Bare i ↔ Named i := by
  obtain ⟨op, a, b, c, n, args⟩ := i
  dsimp only at h
  simp only [List.mem_cons, List.not_mem_nil, or_false] at h
  rcases h with rfl | rfl | rfl | rfl | rfl | rfl | rfl | rfl | rfl | rfl | rfl | rfl | rfl | rfl | rfl | rfl | rfl | rfl | rfl | rfl | rfl | rfl <;> exact Iff.rfl
theorem bare_op {i : Ins} (h : Bare i) : i.op ∈ ([1, 2, 3, 4, 5, 6, 7, 8, 9, 10, 11, 12, 13, 14, 15, 16, 17, 18, 19, 20, 21, 22] : List Int) := by
  unfold Bare at h
  split at h
  · rename_i a b c n g hn
    unfold names at hn
    simp only [List.mem_cons, List.not_mem_nil, or_false]
    repeat' split at hn
    all_goals first | omega | simp at hn
  · exact h.elim
theorem step_op {i : Ins} (h : Step t u i) : i.op ∈ ([1, 2, 3, 4, 5, 6, 7, 8, 9, 10, 11, 12, 13, 14, 15, 16, 17, 18, 19, 20, 21, 22] : List Int) := by
  obtain ⟨_, h⟩ := h
  simp only [List.mem_cons, List.not_mem_nil, or_false]
  by_cases h1 : i.op = 1 ∨ i.op = 2 ∨ i.op = 3 ∨ i.op = 4 ∨ i.op = 5 ∨ i.op = 6 ∨ i.op = 7 ∨ i.op = 8 ∨ i.op = 9 ∨ i.op = 10 ∨ i.op = 11 ∨ i.op = 12 ∨ i.op = 13 ∨ i.op = 14 ∨ i.op = 15 ∨ i.op = 16 ∨ i.op = 17 ∨ i.op = 18 ∨ i.op = 19 ∨ i.op = 20 ∨ i.op = 21 ∨ i.op = 22
  · exact h1
  · simp only [not_or] at h1
    obtain ⟨g1, g2, g3, g4, g5, g6, g7, g8, g9, g10, g11, g12, g13, g14, g15, g16, g17, g18, g19, g20, g21, g22⟩ := h1
    simp only [g1, g2, g3, g4, g5, g6, g7, g8, g9, g10, g11, g12, g13, g14, g15, g16, g17, g18, g19, g20, g21, g22, or_false, if_false] at h
end
end Go.RtM
