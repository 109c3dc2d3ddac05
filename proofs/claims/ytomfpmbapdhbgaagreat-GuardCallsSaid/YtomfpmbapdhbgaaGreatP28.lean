import Derived.Test.YtomfpmbapdhbgaaGreatP1
import Derived.Test.YtomfpmbapdhbgaaGreatP11
import Derived.Test.YtomfpmbapdhbgaaGreatP13
import Derived.Test.YtomfpmbapdhbgaaGreatP15
import Derived.Test.YtomfpmbapdhbgaaGreatP20
import Derived.Test.YtomfpmbapdhbgaaGreatP26
import Derived.Test.YtomfpmbapdhbgaaGreatP27
/- 'make([]T, 0, n)'; a slice that is not nil. No program in sight. -/
namespace Go.GX
open Go Go.RowKit Go.RR Go.RX
section
variable {P : Program} {n : Nat} {env : Env} {b : Base} {ps : List Pf} {hp : List Res} {Q : Exit → Act → World → Prop} {K : Act → World → Prop}
theorem nesl {d : Nat} {ty : TypeId} {pos : String} {aft : Array Edge} {gd : Option (Nat × Bool)} {t t' e : TypeId} {x y : Operand} {ao : Option Addr} {len cap : Nat} [h0 : USlice P t e] (h : G n ((d, .bool (!ao.isNone)) :: env) b ps hp K) (hx : ev env x = some (.slice ao len cap) := by exact rfl) (hy : ev env y = some (.slice none 0 0) := by exact rfl) (hd : Nat.blt d n = true := by exact rfl) :
    GO P n env b ps hp ⟨some d, .binOp .neq t x y t', ty, pos, aft, gd⟩ K Q := rd1 (fun a ha o ho w _ => by
  simp only [execOp, ho, ha.ev hx, ha.ev hy]
  simp [eqGuard, run_binNeq (P := P) (t := t) (x := .slice ao len cap) (y := .slice none 0 0) (b := ao.isNone) (by cases ao <;> rfl) (fun d w => by cases ao <;> simp [Op.equalIn, run_underlying h0.u])]) hd h
theorem mks0 {d : Nat} {ty : TypeId} {pos : String} {aft : Array Edge} {gd : Option (Nat × Bool)} {t et : TypeId} {x y : Operand} {α : Type} {e : Ty α} {kx ky : IntKind} {c : Nat} {i j : Int} {zv : Value} {size bytes : Nat} [ht : USlice P t et] [hi : UElem P et zv size bytes] (h : ∀ bl, G n ((d, .slice (some ⟨bl, 0, none⟩) ([] : List α).length c) :: env) b ps (Own et e (some ⟨bl, 0, none⟩) c [] :: hp) K)
    (hx : ev env x = some (.int kx j) := by exact rfl) (hy : ev env y = some (.int ky i) := by exact rfl) (hj0 : j = 0 := by first | rfl | omega) (hi0 : i = (c : Int) := by first | rfl | omega) (hb : bytes * c ≤ 281474976710656 := by omega) (h63 : c ≤ 4611686018427387904 := by omega) (hsz : e.size = size := by exact rfl) (hzs : zv.cells.size = size := by exact rfl) (hd : Nat.blt d n = true := by exact rfl) :
    GO P n env b ps hp ⟨some d, .makeSlice t x y, ty, pos, aft, gd⟩ K Q := by
  subst hsz; subst hj0; subst hi0
  refine Acts.use (hp1 := []) (rest := hp) (ι := Nat) (val := fun bl => .slice (some ⟨bl, 0, none⟩) ([] : List α).length c) (pf := fun bl => []) (hr := fun bl => [Own et e (some ⟨bl, 0, none⟩) c []]) ?_ (List.Perm.refl _) h
  intro F w K Q b s hk
  obtain ⟨ii, i0, i1, i2, i3⟩ := info_parts hi.i
  have hr := run_make (P := P) w t et ii zv ht.u i0 i1 kx ky 0 (c : Int) (by omega) (by omega) (by
    rw [i3]
    have h : ((bytes * c : Nat) : Int) ≤ 281474976710656 := by omega
    rwa [Int.natCast_mul] at h) (by omega)
  simp only [Int.toNat_natCast] at hr
  refine RX.eff (v := .slice (some ⟨w.heap.size, 0, none⟩) ([] : List α).length c) (w' := w.alloc (.cells (madeCells zv.cells (c * ii.size)) et)) (fun a ha => ?_) hd (hk w.heap.size _ (mkOkN s ((Upd.refl _ _).alloc _) ⟨[], ⟨by simp, .inr ⟨w.heap.size, c, _, rfl, Nat.zero_le _, heap_alloc_new w _, Nat.zero_le _, by simp only [maxLen]; omega, by rw [i2]; simp [size_madeCells], by simp⟩⟩, rfl⟩ (fun k hk => ?_)))
  · simp [execOp, ha.ev hx, ha.ev hy, hr]
  · have hk : (some w.heap.size : Option Nat) = some k := hk
    cases hk; exact Nat.le_refl _
end
end Go.GX

/- The walks over guard's Accepts and States. -/
namespace Go.Proofs.YtomfpmbapdhbgaaGreat
open Go Go.RR Go.RX Go.GX Go.Api Go.RiseM Go.ReachM Go.RtM Go.LivM Go.FlowM
attribute [local irreducible] wpList Code.wp wpPlan Exit.then Exit.inBlock bodyPost NoPanic Went GX.Post GX.Again GX.Meet GX.RowR GX.Own GX.Owns GX.Box GX.Sl GX.Pt GX.Ag GX.MapR GX.Kept GX.Pin wpT GoK AtEnd Both
theorem unW {t : RTg} (hT : Tiny t) (hR : RightP t) {u : Unt} (hu : u ∈ t.units) : UnW t u := by
  obtain ⟨⟨u1, u2, u3, u4⟩, ua⟩ := hT.2.2 u hu
  obtain ⟨⟨_, _, _, hne, _, ⟨_, ho⟩, _⟩, hI⟩ := hR.2.2.2.2.2 u hu
  have hc := hT.1.1
  refine ⟨hne, by omega, by omega, by omega, ?_, by omega, fun x hx => ⟨by have := ua x hx; omega, fun h13 => ?_⟩, fun x hx h21 c hc2 => ?_⟩
  · have := fromL_len (flds t) t.globals
    rw [flds_len] at this
    have : (glob t).length ≤ t.classes.length := this
    omega
  · have hf := (hI x hx).2
    unfold Fits at hf
    repeat rw [if_neg (by omega)] at hf
    unfold Goes at hf
    rw [if_pos h13] at hf
    unfold CallOk at hf
    cases hg : gt t.units x.c with
    | none => rw [hg] at hf; exact hf.elim
    | some g =>
      obtain ⟨j, h1, _, h2⟩ := gt_some hg
      exact ⟨j, g, h1, h2⟩
  · have hf := (hI x hx).2
    unfold Fits at hf
    repeat rw [if_neg (by omega)] at hf
    unfold Goes at hf
    repeat rw [if_neg (by omega)] at hf
    exact (ho c (hf.2.2 c hc2)).1
/-- Every unit of a program is accepted. -/
def AccT (t : RTg) : Prop := RightP t ∧ Accs t t.units.length
noncomputable instance decAccT (t : RTg) : Decidable (AccT t) := Classical.propDecidable _
theorem accepts_spec (cs : List Value) (t : RTg) (hT : Tiny t) : Does Tryz.prog 7 [.agg cs.toArray] [Ag tyRTg cs t] [] (fun _ : Unit => .bool (decide (AccT t))) (fun _ => []) (fun _ => []) := by
  refine enter Tryz.func7 rfl Tryz.ntmps7 rfl fun b => ?_
  have hs := hT.small
  refine GX.wa_R ?_; intros
  refine GX.nmA 3 ?_; rintro c3 rfl
  refine GX.o (cl (right_spec c3 t hs) fun _ => ?_)
  by_cases hR : RightP t
  · refine GX.wa_R ?_; intros
    refine GX.nmA 6 ?_; rintro c6 rfl
    have h0 := hR.1.2.2.1
    refine GX.o (cl (look_spec c6 t hs (fun h => h0 (by rw [h]; rfl)) (by have := hT.1.2.2; omega) (fun u hu => unW hT hR hu)) fun s => ?_)
    obtain ⟨v, s, hv⟩ := s
    dsimp only
    rcases hv with ⟨rfl, h1⟩ | ⟨g, rfl, h1, h2, h3⟩
    · refine GX.o (nesl ?_)
      refine GX.wa_R ?_; intros
      exact rt1 () (vN fun h => h1 h.2)
    · refine GX.o (nesl ?_)
      refine GX.wa_R ?_; intros
      exact rt1 () (vY ⟨hR, by have := h2.acc; rw [h3] at this; exact this⟩)
  · refine GX.wa_R ?_; intros
    exact rt1 () (vN fun h => hR h.1)
structure StR (t : RTg) (u : Unt) where
  ao : Option Addr
  cap : Nat
  S : List Api.State
  good : Good t 0 u S
set_option maxHeartbeats 1000000 in
theorem states_spec (cs : List Value) (t : RTg) (u : Unt) (hT : Tiny t) (hR : RightP t) (hu : t.units = [u]) (hA : GuaM.AccU t 0 u) : Does Tryz.prog 16 [.agg cs.toArray, .int .i64 0] [Ag tyRTg cs t] []
    (fun s : StR t u => .tuple #[.slice s.ao s.S.length s.cap, .bool true]) (fun s => [Sl tyState s.ao s.cap s.S]) (fun _ => []) := by
  refine enter Tryz.func16 rfl Tryz.ntmps16 rfl fun b => ?_
  have hs := hT.small
  have hul : t.units.length = 1 := by rw [hu]; rfl
  refine GX.wa_R ?_; intros
  refine GX.nmP 2 ?_; rintro b2 rfl
  refine GX.nmA 10 ?_; rintro c10 rfl
  refine GX.o (cl (right_spec c10 t hs) fun _ => ?_)
  have hR' : ¬ ¬ RightP t := fun h => h hR
  refine GX.wa_R ?_; intros
  refine GX.nmA 24 ?_; rintro c24 rfl
  refine GX.o (cl (look_spec c24 t hs (by rw [hu]; simp) (by omega) (fun u hu => unW hT hR hu)) fun s => ?_)
  obtain ⟨v, s, hv⟩ := s
  dsimp only
  rcases hv with ⟨rfl, h1⟩ | ⟨g, rfl, h1, h2, h3⟩
  · refine absurd (fun k u' hk hu' => ?_) h1
    have : k = 0 := by omega
    subst this
    rw [hu] at hu'
    cases hu'
    exact hA
  · obtain ⟨p, S, u', e1, e2, e3, hG⟩ := h2.one (by omega)
    rw [hu] at e3
    cases e3
    obtain ⟨i, ao, cap, ps, last⟩ := s
    dsimp only at *
    subst e1; subst e2; subst h1
    refine lastO p S (by simp) ?_
    have hp0 : [some p][0]? = some (some p) := rfl
    have hSl := hG.snd.len
    refine GX.wa_R ?_; intros
    refine GX.o (GX.lref (q := p) (y := some p) (get := fun y => y) ?_ rfl)
    have hSn : S.length ≤ 400 := by
      have := (hT.2.2 u (by rw [hu]; simp)).1.2.1
      omega
    refine GX.wa_R ?_; intros
    refine GX.o (GX.mks0 (e := tyState) fun b36 => ?_)
    refine GX.wa_R ?_; intros
    refine GX.o (GX.lref (q := p) (y := some p) (get := fun y => y) ?_ rfl)
    refine GX.wa_R ?_; intros
    refine GX.nmS 43 ?_; rintro a43 c43 rfl rfl
    rw [show ([] : List Api.State).length = (S.take 0).length from rfl, show ([] : List Api.State) = S.take 0 from rfl]
    refine GX.loop (σ := Nat × Option Addr × Nat) (fun s => [(7, .slice s.2.1 (S.take s.1).length s.2.2), (43, .slice a43 S.length c43), (44, .int .i64 (S.length : Int)), (45, .int .i64 (s.1 : Int))]) (fun _ => []) (fun s => [GX.Own 48 tyState s.2.1 s.2.2 (S.take s.1)])
      (fun s => s.1 ≤ S.length) (fun s => S.length - s.1) (0, some ⟨b36, 0, none⟩, S.length) ⟨rfl, rfl, rfl, rfl, trivial⟩ (by simp) (fun s hi => ?_)
    obtain ⟨i, ao, cp⟩ := s
    dsimp only at *
    have htl : (S.take i).length ≤ 400 := by rw [List.length_take]; omega
    by_cases hlt : i < S.length
    · obtain ⟨s, hs2⟩ := get_lt hlt
      have hll : s.live.length ≤ 100000 := by
        have h5 := (unW hT hR (show u ∈ t.units by rw [hu]; simp))
        have := GuaM.snd_live hG.snd h5.cr hs2
        have := h5.cls
        omega
      have hsl : s.stale.length ≤ 100000 := by
        have h5 := (unW hT hR (show u ∈ t.units by rw [hu]; simp))
        have := (GuaM.snd_stale hG.snd hs2).2
        have := h5.vars
        omega
      have e : S.take i ++ [⟨s.met, s.live, s.stale⟩] = S.take (i + 1) := by rw [List.take_add_one, hs2]; rfl
      refine GX.wa_R ?_; intros
      refine GX.nmP 9 ?_; rintro b9 rfl
      refine frzB b9 ?_
      refine GX.drawn0  (fun j => !(List.contains [10, 11] j)) [(0, true), (1, true), (2, true), (3, true), (4, true), (6, true), (7, true), (5, false), (8, false), (9, true), (10, false), (11, false), (12, true)] rfl (by kernel_rfl) (by kernel_rfl) (by first | ((repeat (first | apply Go.GX.SelR.nil | apply Go.GX.SelR.cons | (with_reducible apply Go.GX.TakeR.head) | apply Go.GX.TakeR.tail)); done) | (repeat (first | apply Go.GX.SelR.nil | apply Go.GX.SelR.cons | apply Go.GX.TakeR.head | apply Go.GX.TakeR.tail))) ?_; intro wd F hW hR
      refine GX.wa_T ?_; intros
      refine GX.nmS 53 ?_; rintro a53 c53 rfl rfl
      refine GX.nmS 56 ?_; rintro a56 c56 rfl rfl
      refine GX.gow ?_
      refine (cl (clone_spec a53 c53 s.live (by omega)) fun q => ?_)
      obtain ⟨a54, c54⟩ := q
      dsimp only
      refine frz a54 ?_
      refine GX.wa_T ?_; intros
      refine GX.gow ?_
      refine (cl (clone_spec a56 c56 s.stale (by omega)) fun q => ?_)
      obtain ⟨a57, c57⟩ := q
      dsimp only
      refine frz a57 ?_
      refine GX.wa_T ?_; intros
      refine GX.wa_R ?_; intros
      rw [e]
      refine GX.nmS 60 ?_; rintro a60 c60 rfl rfl
      exact again (i + 1, a60, c60) ⟨rfl, rfl, rfl, rfl, trivial⟩ (by dsimp only; omega) (by dsimp only; omega)
    · rw [List.take_of_length_le (by omega)]
      refine frz ao ?_
      refine GX.wa_R ?_; intros
      exact rt2 ⟨ao, cp, S, hG⟩ rfl
end Go.Proofs.YtomfpmbapdhbgaaGreat

/- The walks over 'known', 'one' and 'ret' of chapter 28's laws. -/
namespace Go.Proofs.YtomfpmbapdhbgaaGreat
open Go Go.RR Go.RX Go.GX Go.Api Go.RiseM Go.ReachM Go.RtM Go.LivM Go.FlowM Go.OneM
attribute [local irreducible] wpList Code.wp wpPlan Exit.then Exit.inBlock bodyPost NoPanic Went GX.Post GX.Again GX.Meet GX.RowR GX.Own GX.Owns GX.Box GX.Sl GX.Pt GX.Ag GX.MapR GX.Kept GX.Pin wpT GoK AtEnd Both
def iC (l : List Int) : Ins := ⟨21, 0, 0, 0, 0, l⟩
def iR (l : List Int) : Ins := ⟨22, 0, 0, 0, 0, l⟩
def iN : Ins := ⟨11, 0, 0, 0, 0, []⟩
def iE : Ins := ⟨18, -1, 0, 0, 0, []⟩
theorem ret28_spec : Does Tryz.prog 10 [] [] [] (fun s : List Value => .agg s.toArray) (fun s => [Ag tyIns s iE]) (fun _ => []) := by
  refine enter Tryz.func10 rfl Tryz.ntmps10 rfl fun b => ?_
  refine GX.wR ?_; intros
  exact rt1B id (fun _ => rfl)
theorem one28_spec (ao : Option Addr) (cap : Nat) (ins : List Ins) : Does Tryz.prog 11 [.slice ao ins.length cap] [Sl tyIns ao cap ins] [] (fun s : List Value => .agg s.toArray) (fun s => [Ag tyRTg s (oneT ins)]) (fun _ => []) := by
  refine enter Tryz.func11 rfl Tryz.ntmps11 rfl fun b => ?_
  refine GX.wR ?_; intros
  exact rt1B id (fun _ => rfl)
theorem one_tiny {ins : List Ins} (h : OneFew ins) : Tiny (oneT ins) := by
  refine ⟨⟨by show 2 ≤ 80; omega, by show 0 ≤ 20; omega, by show 1 ≤ 20; omega⟩, fun L hL => ?_, fun u hu => ?_⟩
  · have hL : L = ⟨false, [-2]⟩ ∨ L = ⟨false, [0]⟩ := by simpa [oneT] using hL
    rcases hL with rfl | rfl
    · show 1 ≤ 20; omega
    · show 1 ≤ 20; omega
  · obtain rfl : u = oneU ins := by simpa [oneT] using hu
    exact ⟨⟨by show 3 ≤ 150; omega, h.1, by show 0 ≤ 80; omega, by show 2 ≤ 80; omega⟩, h.2⟩
theorem one_acc {ins : List Ins} : AccT (oneT ins) ↔ OneOk ins ∧ GuaM.AccU (oneT ins) 0 (oneU ins) := by
  unfold AccT
  rw [one_right]
  constructor
  · rintro ⟨h1, h2⟩
    exact ⟨h1, h2 0 _ (by show 0 < 1; omega) rfl⟩
  · rintro ⟨h1, h2⟩
    refine ⟨h1, fun k u hk hu => ?_⟩
    have : k = 0 := by have : k < 1 := hk; omega
    subst this
    cases hu
    exact h2
def k1 : List Ins := [iC [0], iN, iR [0], iE]
def k2 : List Ins := [iC [0], iR [0], iE]
def k3 : List Ins := [iC [0], iE]
def s1 : List Api.State := [⟨true, [], []⟩, ⟨true, [0], []⟩, ⟨true, [0], []⟩, ⟨true, [], [0]⟩]
set_option maxRecDepth 10000 in
theorem k1_few : OneFew k1 ∧ OneOk k1 ∧ (∀ x ∈ k1, x.op ≠ 13) ∧ oneSim k1 = some (true, s1) := by decide +kernel
set_option maxRecDepth 10000 in
theorem k2_few : OneFew k2 ∧ OneOk k2 ∧ (∀ x ∈ k2, x.op ≠ 13) ∧ (oneSim k2).map (·.1) = some true := by decide +kernel
set_option maxRecDepth 10000 in
theorem k3_few : OneFew k3 ∧ OneOk k3 ∧ (∀ x ∈ k3, x.op ≠ 13) ∧ (oneSim k3).map (·.1) = some false := by decide +kernel
theorem sim_yes {ins : List Ins} (h : OneFew ins ∧ OneOk ins ∧ (∀ x ∈ ins, x.op ≠ 13) ∧ (oneSim ins).map (·.1) = some true) : AccT (oneT ins) := by
  obtain ⟨_, h1, h2, h3⟩ := h
  cases e : oneSim ins with
  | none => rw [e] at h3; cases h3
  | some q =>
    obtain ⟨r, S⟩ := q
    rw [e] at h3
    simp only [Option.map_some, Option.some.injEq] at h3
    exact one_acc.2 ⟨h1, ((one_sim h2 e).1 h3).1⟩
theorem sim_no {ins : List Ins} (h : OneFew ins ∧ OneOk ins ∧ (∀ x ∈ ins, x.op ≠ 13) ∧ (oneSim ins).map (·.1) = some false) : ¬ AccT (oneT ins) := by
  obtain ⟨_, h1, h2, h3⟩ := h
  cases e : oneSim ins with
  | none => rw [e] at h3; cases h3
  | some q =>
    obtain ⟨r, S⟩ := q
    rw [e] at h3
    simp only [Option.map_some, Option.some.injEq] at h3
    exact fun h => (one_sim h2 e).2 h3 (one_acc.1 h).2
set_option maxHeartbeats 2000000 in
theorem known28_spec : Does Tryz.prog 9 [] [] [] (fun _ : Unit => .bool true) (fun _ => []) (fun _ => []) := by
  refine enter Tryz.func9 rfl Tryz.ntmps9 rfl fun b => ?_
  refine GX.wR ?_; intros
  refine GX.nmP 1 ?_; rintro b1 rfl
  refine GX.nmP 2 ?_; rintro b2 rfl
  refine frzB b1 ?_
  refine frzB b2 ?_
  obtain ⟨hf1, ho1, h13, hs1⟩ := k1_few
  have hG := (one_sim h13 hs1).1 rfl
  have hy2 := sim_yes k2_few
  have hy3 := sim_no k3_few
  have hy3' : ¬ ¬ ¬ AccT (oneT k3) := fun h => h hy3
  refine GX.drawn0  (fun j => !(List.contains [4, 5, 6] j)) [(0, true), (1, true), (2, true), (3, false), (4, false), (5, false), (6, false), (7, true), (8, true), (9, true), (10, true), (11, true)] rfl (by kernel_rfl) (by kernel_rfl) (by first | ((repeat (first | apply Go.GX.SelR.nil | apply Go.GX.SelR.cons | (with_reducible apply Go.GX.TakeR.head) | apply Go.GX.TakeR.tail)); done) | (repeat (first | apply Go.GX.SelR.nil | apply Go.GX.SelR.cons | apply Go.GX.TakeR.head | apply Go.GX.TakeR.tail))) ?_; intro wd F hW hR
  refine GX.wT ?_; intros
  refine GX.gow ?_
  refine (cl ret28_spec fun c13 => ?_)
  refine GX.wT ?_; intros
  refine GX.nmB 14 ?_; rintro b14 rfl
  refine GX.gow ?_
  refine (cl (one28_spec (some ⟨b14, 0, none⟩) 4 k1) fun c15 => ?_)
  refine GX.wT ?_; intros
  refine GX.gow ?_
  refine (cl (states_spec c15 (oneT k1) (oneU k1) (one_tiny hf1) (one_right.2 ho1) rfl hG.1) fun s => ?_)
  obtain ⟨aS, cS, S, hgood⟩ := s
  obtain rfl : S = s1 := GuaM.good_eq hgood.snd hgood.cov hgood.done hG.2.1 hG.2.2.1 hG.2.2.2
  dsimp only
  refine GX.wT ?_; intros
  refine GX.wR ?_; intros
  have e1 : s1[1]? = some ⟨true, [0], []⟩ := rfl
  have e3 : s1[3]? = some ⟨true, [], [0]⟩ := rfl
  have el : s1.length = 4 := rfl
  refine GX.drawn0  (fun j => !(List.contains [18, 26, 40, 41, 42, 47, 48, 49] j)) [(0, true), (1, true), (2, true), (3, true), (4, true), (5, true), (6, true), (7, true), (8, true), (9, true), (10, true), (11, true), (12, true), (13, true), (14, true), (15, true), (16, true), (17, false), (18, false), (19, true), (20, true), (21, true), (22, true), (23, true), (24, true), (25, false), (26, false), (27, true), (28, true), (29, true), (30, true), (31, true), (32, true), (33, true), (34, true), (35, true), (36, true), (37, true), (38, true), (39, false), (40, false), (41, false), (42, false), (43, true), (44, true), (45, true), (46, false), (47, false), (48, false), (49, false), (50, true), (51, true), (52, true)] rfl (by kernel_rfl) (by kernel_rfl) (by first | ((repeat (first | apply Go.GX.SelR.nil | apply Go.GX.SelR.cons | (with_reducible apply Go.GX.TakeR.head) | apply Go.GX.TakeR.tail)); done) | (repeat (first | apply Go.GX.SelR.nil | apply Go.GX.SelR.cons | apply Go.GX.TakeR.head | apply Go.GX.TakeR.tail))) ?_; intro wd F hW hR
  refine GX.wT ?_; intros
  dsimp only
  refine GX.nmS 35 ?_; rintro a35 c35 rfl rfl
  refine GX.nmB 36 ?_; rintro b36 rfl
  have q0 : ([0] : List Int) = [0] := rfl
  refine GX.gow ?_
  refine (cl (ints_same a35 (some ⟨b36, 0, none⟩) c35 1 [0] [0]) fun _ => ?_)
  refine GX.wT ?_; intros
  dsimp only
  refine GX.nmS 43 ?_; rintro a43 c43 rfl rfl
  refine GX.nmB 44 ?_; rintro b44 rfl
  refine GX.gow ?_
  refine (cl (ints_same a43 (some ⟨b44, 0, none⟩) c43 1 [0] [0]) fun _ => ?_)
  refine GX.wT ?_; intros
  dsimp only
  have q1 : ((([] : List Int).length : Nat) : Int) = 0 := rfl
  refine GX.wT ?_; intros
  refine GX.gow ?_
  refine (cl ret28_spec fun c58 => ?_)
  refine GX.wT ?_; intros
  refine GX.nmB 59 ?_; rintro b59 rfl
  refine GX.gow ?_
  refine (cl (one28_spec (some ⟨b59, 0, none⟩) 3 k2) fun c60 => ?_)
  refine GX.wT ?_; intros
  refine GX.gow ?_
  refine (cl (accepts_spec c60 (oneT k2) (one_tiny k2_few.1)) fun _ => ?_)
  refine GX.wT ?_; intros
  refine GX.gow ?_
  refine (cl ret28_spec fun c65 => ?_)
  refine GX.wT ?_; intros
  refine GX.nmB 66 ?_; rintro b66 rfl
  refine GX.gow ?_
  refine (cl (one28_spec (some ⟨b66, 0, none⟩) 2 k3) fun c67 => ?_)
  refine GX.wT ?_; intros
  refine GX.gow ?_
  refine (cl (accepts_spec c67 (oneT k3) (one_tiny k3_few.1)) fun _ => ?_)
  refine GX.wT ?_; intros
  refine GX.wR ?_; intros
  exact rt1 () (vY hy3).symm
end Go.Proofs.YtomfpmbapdhbgaaGreat

/- The walk over put of the reference of chapter 15. -/
namespace Go.Proofs.YtomfpmbapdhbgaaGreat
open Go Go.RR Go.RX Go.GX Go.Api Go.RiseM
attribute [local irreducible] wpList Code.wp wpPlan Exit.then Exit.inBlock bodyPost NoPanic Went GX.Post GX.Again GX.Meet GX.RowR GX.Own GX.Owns GX.Box GX.Sl GX.Pt GX.Ag GX.MapR GX.Kept GX.Pin

theorem put_spec (ao : Option Addr) (cap : Nat) (l : List Int) (v : Int) (hl : Rise l) (hm : l.length ≤ 100000) : Does Tryz.prog 100 [.slice ao l.length cap, .int .i64 v] [Sl Ty.int ao cap l] []
    (fun s : Option Addr × Nat => .slice s.1 (put l v).length s.2) (fun s => [Sl Ty.int s.1 s.2 (put l v)]) (fun _ => []) := by
  refine enter Tryz.func100 rfl Tryz.ntmps100 rfl fun b => ?_
  repeat (first | (apply GX.s_list; first | apply GX.nil | (refine GX.o ?_; first | (apply GX.k_load; first | refine GX.lr ?_ | refine GX.lrA ?_ | refine GX.ln ?_ | refine GX.lb ?_ | refine GX.lh ?_ | (refine GX.ls ?_; intro ao cap _ _) | (refine GX.lA ?_; intro cs) | (refine GX.l0 ?_; intro cs) | refine GX.o1n ?_ | refine GX.o1b ?_ | refine GX.o1h ?_ | (refine GX.o1s ?_; intro ao cap _ _) | refine GX.omn ?_ | refine GX.omb ?_ | refine GX.omh ?_ | (refine GX.oms ?_; intro ao cap _ _) | refine GX.ofn ?_ | refine GX.ofb ?_ | refine GX.ofh ?_ | (refine GX.ofs ?_; intro ao cap _ _) | (refine GX.oA ?_; intro cs)) | (apply GX.k_move; refine GX.m ?_) | (apply GX.k_indexAddr; first | refine GX.io1 ?_ | refine GX.ioh ?_ | refine GX.i1 ?_ | refine GX.ih ?_ | (refine GX.ix ?_; intro bl o)) | (apply GX.k_binOp_lss; refine GX.b_lss ?_) | (apply GX.k_binOp_add; first | refine GX.b_inc ?_ | refine GX.b_add ?_ | refine GX.b_addw ?_) | (apply GX.k_assign; refine GX.a ?_) | (apply GX.k_call; first | refine GX.c_len ?_ | (refine GX.ap ?_; intro _ _) | (refine GX.ap0 ?_; intro _ _)) | (apply GX.k_pick; first | refine GX.pt ?_ | refine GX.pf ?_ | refine GX.pk ?_) | (apply GX.k_slice; first | (refine GX.ch ?_; intro q) | (refine GX.cl_ ?_; intro q) | (refine GX.cb_ ?_; intro q)) | (apply GX.k_buildSlice; (refine GX.sl ?_; intro _)) | (apply GX.k_binOp_eql; first | refine GX.b_eql ?_ | refine GX.b_pn ?_ | refine GX.b_nn ?_ | refine GX.b_snn ?_ | refine GX.b_sns ?_ | refine GX.b_eqls ?_ | refine GX.b_eqltf ?_ | refine GX.b_eqlft ?_ | refine GX.b_eqlb ?_)) | refine GX.gt ?_ | refine GX.gf ?_ | refine GX.gbt ?_ | refine GX.gbf ?_ | refine GX.un ?_ | refine GX.un0 ?_) | apply GX.then_normal | apply GX.seq | apply GX.region | (apply GX.s_cond; first | refine GX.ct ?_ | refine GX.cf ?_ | refine GX.cdf ?_ | refine GX.cdt ?_ | refine GX.cbt ?_ | refine GX.cbf ?_) | apply GX.skip | apply GX.block | apply GX.inBlock_normal | apply GX.exit | apply GX.then_exit | apply GX.inBlock_exit | refine GX.ibo ?_ | apply GX.ret | apply GX.then_ret | apply GX.inBlock_ret)
  refine GX.loop (σ := Nat) (fun i => [(0, .slice ao l.length cap), (1, .int .i64 v), (5, .int .i64 (i : Int))]) (fun _ => []) (fun _ => [])
    (fun i => i ≤ l.length ∧ ∀ x ∈ l.take i, x < v) (fun i => l.length - i) 0 ⟨rfl, rfl, rfl, trivial⟩ ⟨by omega, by simp⟩ (fun i hi => ?_)
  obtain ⟨hi, hn⟩ := hi
  have fin : (∀ x ∈ l.drop i, v < x) → (l.take (i : Int).toNat ++ [v]) ++ l.drop (i : Int).toNat = put l v := fun h => by
    rw [put_at hl hn h, Int.toNat_natCast]; simp
  have ht : (l.take (i : Int).toNat).length ≤ 100000 := by rw [List.length_take]; omega
  have hd : (l.drop (i : Int).toNat).length ≤ 100000 := by rw [List.length_drop]; omega
  by_cases hlt : i < l.length
  · obtain ⟨x, hx⟩ := get_lt hlt
    by_cases h1 : x < v
    · repeat (first | (apply GX.s_list; first | apply GX.nil | (refine GX.o ?_; first | (apply GX.k_load; first | refine GX.lr ?_ | refine GX.lrA ?_ | refine GX.ln ?_ | refine GX.lb ?_ | refine GX.lh ?_ | (refine GX.ls ?_; intro ao cap _ _) | (refine GX.lA ?_; intro cs) | (refine GX.l0 ?_; intro cs) | refine GX.o1n ?_ | refine GX.o1b ?_ | refine GX.o1h ?_ | (refine GX.o1s ?_; intro ao cap _ _) | refine GX.omn ?_ | refine GX.omb ?_ | refine GX.omh ?_ | (refine GX.oms ?_; intro ao cap _ _) | refine GX.ofn ?_ | refine GX.ofb ?_ | refine GX.ofh ?_ | (refine GX.ofs ?_; intro ao cap _ _) | (refine GX.oA ?_; intro cs)) | (apply GX.k_move; refine GX.m ?_) | (apply GX.k_indexAddr; first | refine GX.io1 ?_ | refine GX.ioh ?_ | refine GX.i1 ?_ | refine GX.ih ?_ | (refine GX.ix ?_; intro bl o)) | (apply GX.k_binOp_lss; refine GX.b_lss ?_) | (apply GX.k_binOp_add; first | refine GX.b_inc ?_ | refine GX.b_add ?_ | refine GX.b_addw ?_) | (apply GX.k_assign; refine GX.a ?_) | (apply GX.k_call; first | refine GX.c_len ?_ | (refine GX.ap ?_; intro _ _) | (refine GX.ap0 ?_; intro _ _)) | (apply GX.k_pick; first | refine GX.pt ?_ | refine GX.pf ?_ | refine GX.pk ?_) | (apply GX.k_slice; first | (refine GX.ch ?_; intro q) | (refine GX.cl_ ?_; intro q) | (refine GX.cb_ ?_; intro q)) | (apply GX.k_buildSlice; (refine GX.sl ?_; intro _)) | (apply GX.k_binOp_eql; first | refine GX.b_eql ?_ | refine GX.b_pn ?_ | refine GX.b_nn ?_ | refine GX.b_snn ?_ | refine GX.b_sns ?_ | refine GX.b_eqls ?_ | refine GX.b_eqltf ?_ | refine GX.b_eqlft ?_ | refine GX.b_eqlb ?_)) | refine GX.gt ?_ | refine GX.gf ?_ | refine GX.gbt ?_ | refine GX.gbf ?_ | refine GX.un ?_ | refine GX.un0 ?_) | apply GX.then_normal | apply GX.seq | apply GX.region | (apply GX.s_cond; first | refine GX.ct ?_ | refine GX.cf ?_ | refine GX.cdf ?_ | refine GX.cdt ?_ | refine GX.cbt ?_ | refine GX.cbf ?_) | apply GX.skip | apply GX.block | apply GX.inBlock_normal | apply GX.exit | apply GX.then_exit | apply GX.inBlock_exit | refine GX.ibo ?_ | apply GX.ret | apply GX.then_ret | apply GX.inBlock_ret)
      refine again (i + 1) ⟨rfl, rfl, rfl, trivial⟩ ⟨by omega, fun y hy => ?_⟩ (by omega)
      rw [List.take_add_one, hx, List.mem_append] at hy
      rcases hy with hy | hy
      · exact hn y hy
      · simp at hy; subst hy; exact h1
    · by_cases h2 : x = v
      · have e : put l v = l := by unfold put; rw [if_pos (h2 ▸ List.mem_of_getElem? hx)]
        rw [e]
        repeat (first | (apply GX.s_list; first | apply GX.nil | (refine GX.o ?_; first | (apply GX.k_load; first | refine GX.lr ?_ | refine GX.lrA ?_ | refine GX.ln ?_ | refine GX.lb ?_ | refine GX.lh ?_ | (refine GX.ls ?_; intro ao cap _ _) | (refine GX.lA ?_; intro cs) | (refine GX.l0 ?_; intro cs) | refine GX.o1n ?_ | refine GX.o1b ?_ | refine GX.o1h ?_ | (refine GX.o1s ?_; intro ao cap _ _) | refine GX.omn ?_ | refine GX.omb ?_ | refine GX.omh ?_ | (refine GX.oms ?_; intro ao cap _ _) | refine GX.ofn ?_ | refine GX.ofb ?_ | refine GX.ofh ?_ | (refine GX.ofs ?_; intro ao cap _ _) | (refine GX.oA ?_; intro cs)) | (apply GX.k_move; refine GX.m ?_) | (apply GX.k_indexAddr; first | refine GX.io1 ?_ | refine GX.ioh ?_ | refine GX.i1 ?_ | refine GX.ih ?_ | (refine GX.ix ?_; intro bl o)) | (apply GX.k_binOp_lss; refine GX.b_lss ?_) | (apply GX.k_binOp_add; first | refine GX.b_inc ?_ | refine GX.b_add ?_ | refine GX.b_addw ?_) | (apply GX.k_assign; refine GX.a ?_) | (apply GX.k_call; first | refine GX.c_len ?_ | (refine GX.ap ?_; intro _ _) | (refine GX.ap0 ?_; intro _ _)) | (apply GX.k_pick; first | refine GX.pt ?_ | refine GX.pf ?_ | refine GX.pk ?_) | (apply GX.k_slice; first | (refine GX.ch ?_; intro q) | (refine GX.cl_ ?_; intro q) | (refine GX.cb_ ?_; intro q)) | (apply GX.k_buildSlice; (refine GX.sl ?_; intro _)) | (apply GX.k_binOp_eql; first | refine GX.b_eql ?_ | refine GX.b_pn ?_ | refine GX.b_nn ?_ | refine GX.b_snn ?_ | refine GX.b_sns ?_ | refine GX.b_eqls ?_ | refine GX.b_eqltf ?_ | refine GX.b_eqlft ?_ | refine GX.b_eqlb ?_)) | refine GX.gt ?_ | refine GX.gf ?_ | refine GX.gbt ?_ | refine GX.gbf ?_ | refine GX.un ?_ | refine GX.un0 ?_) | apply GX.then_normal | apply GX.seq | apply GX.region | (apply GX.s_cond; first | refine GX.ct ?_ | refine GX.cf ?_ | refine GX.cdf ?_ | refine GX.cdt ?_ | refine GX.cbt ?_ | refine GX.cbf ?_) | apply GX.skip | apply GX.block | apply GX.inBlock_normal | apply GX.exit | apply GX.then_exit | apply GX.inBlock_exit | refine GX.ibo ?_ | apply GX.ret | apply GX.then_ret | apply GX.inBlock_ret)
        exact rt1 (ao, cap) rfl
      · have e := fin fun y hy => by
          obtain ⟨j, hj, rfl⟩ := List.mem_iff_getElem.1 hy
          rw [List.getElem_drop]
          obtain ⟨hx1, hx2⟩ := List.getElem?_eq_some_iff.1 hx
          by_cases e : j = 0
          · subst e; simp only [Nat.add_zero]; omega
          · have := List.pairwise_iff_getElem.1 hl i (i + j) hlt (by rw [List.length_drop] at hj; omega) (by omega)
            omega
        rw [← e]
        repeat (first | (apply GX.s_list; first | apply GX.nil | (refine GX.o ?_; first | (apply GX.k_load; first | refine GX.lr ?_ | refine GX.lrA ?_ | refine GX.ln ?_ | refine GX.lb ?_ | refine GX.lh ?_ | (refine GX.ls ?_; intro ao cap _ _) | (refine GX.lA ?_; intro cs) | (refine GX.l0 ?_; intro cs) | refine GX.o1n ?_ | refine GX.o1b ?_ | refine GX.o1h ?_ | (refine GX.o1s ?_; intro ao cap _ _) | refine GX.omn ?_ | refine GX.omb ?_ | refine GX.omh ?_ | (refine GX.oms ?_; intro ao cap _ _) | refine GX.ofn ?_ | refine GX.ofb ?_ | refine GX.ofh ?_ | (refine GX.ofs ?_; intro ao cap _ _) | (refine GX.oA ?_; intro cs)) | (apply GX.k_move; refine GX.m ?_) | (apply GX.k_indexAddr; first | refine GX.io1 ?_ | refine GX.ioh ?_ | refine GX.i1 ?_ | refine GX.ih ?_ | (refine GX.ix ?_; intro bl o)) | (apply GX.k_binOp_lss; refine GX.b_lss ?_) | (apply GX.k_binOp_add; first | refine GX.b_inc ?_ | refine GX.b_add ?_ | refine GX.b_addw ?_) | (apply GX.k_assign; refine GX.a ?_) | (apply GX.k_call; first | refine GX.c_len ?_ | (refine GX.ap ?_; intro _ _) | (refine GX.ap0 ?_; intro _ _)) | (apply GX.k_pick; first | refine GX.pt ?_ | refine GX.pf ?_ | refine GX.pk ?_) | (apply GX.k_slice; first | (refine GX.ch ?_; intro q) | (refine GX.cl_ ?_; intro q) | (refine GX.cb_ ?_; intro q)) | (apply GX.k_buildSlice; (refine GX.sl ?_; intro _)) | (apply GX.k_binOp_eql; first | refine GX.b_eql ?_ | refine GX.b_pn ?_ | refine GX.b_nn ?_ | refine GX.b_snn ?_ | refine GX.b_sns ?_ | refine GX.b_eqls ?_ | refine GX.b_eqltf ?_ | refine GX.b_eqlft ?_ | refine GX.b_eqlb ?_)) | refine GX.gt ?_ | refine GX.gf ?_ | refine GX.gbt ?_ | refine GX.gbf ?_ | refine GX.un ?_ | refine GX.un0 ?_) | apply GX.then_normal | apply GX.seq | apply GX.region | (apply GX.s_cond; first | refine GX.ct ?_ | refine GX.cf ?_ | refine GX.cdf ?_ | refine GX.cdt ?_ | refine GX.cbt ?_ | refine GX.cbf ?_) | apply GX.skip | apply GX.block | apply GX.inBlock_normal | apply GX.exit | apply GX.then_exit | apply GX.inBlock_exit | refine GX.ibo ?_ | apply GX.ret | apply GX.then_ret | apply GX.inBlock_ret)
        refine GX.drawnF (fun j => !(List.contains [] j)) [(0, true), (1, true), (2, true), (4, true), (7, true), (8, true), (9, true)] [(3, false), (5, false), (6, false), (10, false), (11, true)] [(5, false), (3, false), (6, false), (10, false), (11, true)] rfl (by kernel_rfl) (by kernel_rfl) ?_; intro wd F hW hR
        repeat (first | (apply GX.s_take; first | (refine GX.tkp ?_; first | (apply GX.t_move; refine GX.tm ?_)) | ((first | refine GX.tkr ?_ | refine GX.tkrE ?_); first | (apply GX.r_assign; refine GX.ra ?_) | (apply GX.r_slice; first | (refine GX.rch ?_; intro q _) | (refine GX.rcl_ ?_; intro q _) | (refine GX.rcb_ ?_; intro q _))) | (refine GX.tkx ?_; first | fail) | refine GX.pgt ?_ | refine GX.pgf ?_ | refine GX.pgbt ?_ | refine GX.pgbf ?_ | refine GX.tkn ?_ | refine GX.tknE ?_) | (apply GX.s_go; first | (refine GX.gow ?_; first | (apply GX.k_move; refine GX.m ?_) | (apply GX.k_assign; refine GX.a ?_) | (apply GX.k_call; first | (refine GX.ap ?_; intro _ _) | (refine GX.ap0 ?_; intro _ _)) | (apply GX.k_slice; first | (refine GX.ch ?_; intro q) | (refine GX.cl_ ?_; intro q) | (refine GX.cb_ ?_; intro q)) | (apply GX.k_buildSlice; (refine GX.sl ?_; intro _))) | refine GX.pgt ?_ | refine GX.pgf ?_ | refine GX.pgbt ?_ | refine GX.pgbf ?_ | refine GX.gon ?_) | (apply GX.s_went; first | refine GX.wentF ?_ | refine GX.went ?_ | refine GX.wentE ?_) | apply GX.done)
        refine GX.fork ?_ ?_
        · repeat (first | (apply GX.s_take; first | (refine GX.tkp ?_; first | (apply GX.t_move; refine GX.tm ?_)) | ((first | refine GX.tkr ?_ | refine GX.tkrE ?_); first | (apply GX.r_assign; refine GX.ra ?_) | (apply GX.r_slice; first | (refine GX.rch ?_; intro q _) | (refine GX.rcl_ ?_; intro q _) | (refine GX.rcb_ ?_; intro q _))) | (refine GX.tkx ?_; first | fail) | refine GX.pgt ?_ | refine GX.pgf ?_ | refine GX.pgbt ?_ | refine GX.pgbf ?_ | refine GX.tkn ?_ | refine GX.tknE ?_) | (apply GX.s_go; first | (refine GX.gow ?_; first | (apply GX.k_move; refine GX.m ?_) | (apply GX.k_assign; refine GX.a ?_) | (apply GX.k_call; first | (refine GX.ap ?_; intro _ _) | (refine GX.ap0 ?_; intro _ _)) | (apply GX.k_slice; first | (refine GX.ch ?_; intro q) | (refine GX.cl_ ?_; intro q) | (refine GX.cb_ ?_; intro q)) | (apply GX.k_buildSlice; (refine GX.sl ?_; intro _))) | refine GX.pgt ?_ | refine GX.pgf ?_ | refine GX.pgbt ?_ | refine GX.pgbf ?_ | refine GX.gon ?_) | (apply GX.s_went; first | refine GX.wentF ?_ | refine GX.went ?_ | refine GX.wentE ?_) | apply GX.done)
          repeat (first | (apply GX.s_list; first | apply GX.nil | (refine GX.o ?_; first | (apply GX.k_load; first | refine GX.lr ?_ | refine GX.lrA ?_ | refine GX.ln ?_ | refine GX.lb ?_ | refine GX.lh ?_ | (refine GX.ls ?_; intro ao cap _ _) | (refine GX.lA ?_; intro cs) | (refine GX.l0 ?_; intro cs) | refine GX.o1n ?_ | refine GX.o1b ?_ | refine GX.o1h ?_ | (refine GX.o1s ?_; intro ao cap _ _) | refine GX.omn ?_ | refine GX.omb ?_ | refine GX.omh ?_ | (refine GX.oms ?_; intro ao cap _ _) | refine GX.ofn ?_ | refine GX.ofb ?_ | refine GX.ofh ?_ | (refine GX.ofs ?_; intro ao cap _ _) | (refine GX.oA ?_; intro cs)) | (apply GX.k_move; refine GX.m ?_) | (apply GX.k_indexAddr; first | refine GX.io1 ?_ | refine GX.ioh ?_ | refine GX.i1 ?_ | refine GX.ih ?_ | (refine GX.ix ?_; intro bl o)) | (apply GX.k_binOp_lss; refine GX.b_lss ?_) | (apply GX.k_binOp_add; first | refine GX.b_inc ?_ | refine GX.b_add ?_ | refine GX.b_addw ?_) | (apply GX.k_assign; refine GX.a ?_) | (apply GX.k_call; first | refine GX.c_len ?_ | (refine GX.ap ?_; intro _ _) | (refine GX.ap0 ?_; intro _ _)) | (apply GX.k_pick; first | refine GX.pt ?_ | refine GX.pf ?_ | refine GX.pk ?_) | (apply GX.k_slice; first | (refine GX.ch ?_; intro q) | (refine GX.cl_ ?_; intro q) | (refine GX.cb_ ?_; intro q)) | (apply GX.k_buildSlice; (refine GX.sl ?_; intro _)) | (apply GX.k_binOp_eql; first | refine GX.b_eql ?_ | refine GX.b_pn ?_ | refine GX.b_nn ?_ | refine GX.b_snn ?_ | refine GX.b_sns ?_ | refine GX.b_eqls ?_ | refine GX.b_eqltf ?_ | refine GX.b_eqlft ?_ | refine GX.b_eqlb ?_)) | refine GX.gt ?_ | refine GX.gf ?_ | refine GX.gbt ?_ | refine GX.gbf ?_ | refine GX.un ?_ | refine GX.un0 ?_) | apply GX.then_normal | apply GX.seq | apply GX.region | (apply GX.s_cond; first | refine GX.ct ?_ | refine GX.cf ?_ | refine GX.cdf ?_ | refine GX.cdt ?_ | refine GX.cbt ?_ | refine GX.cbf ?_) | apply GX.skip | apply GX.block | apply GX.inBlock_normal | apply GX.exit | apply GX.then_exit | apply GX.inBlock_exit | refine GX.ibo ?_ | apply GX.ret | apply GX.then_ret | apply GX.inBlock_ret)
          refine GX.nmS 4 ?_; rintro a4 c4 rfl rfl
          refine frz a4 ?_
          exact rt1 (a4, c4) rfl
        · repeat (first | (apply GX.s_take; first | (refine GX.tkp ?_; first | (apply GX.t_move; refine GX.tm ?_)) | ((first | refine GX.tkr ?_ | refine GX.tkrE ?_); first | (apply GX.r_assign; refine GX.ra ?_) | (apply GX.r_slice; first | (refine GX.rch ?_; intro q _) | (refine GX.rcl_ ?_; intro q _) | (refine GX.rcb_ ?_; intro q _))) | (refine GX.tkx ?_; first | fail) | refine GX.pgt ?_ | refine GX.pgf ?_ | refine GX.pgbt ?_ | refine GX.pgbf ?_ | refine GX.tkn ?_ | refine GX.tknE ?_) | (apply GX.s_go; first | (refine GX.gow ?_; first | (apply GX.k_move; refine GX.m ?_) | (apply GX.k_assign; refine GX.a ?_) | (apply GX.k_call; first | (refine GX.ap ?_; intro _ _) | (refine GX.ap0 ?_; intro _ _)) | (apply GX.k_slice; first | (refine GX.ch ?_; intro q) | (refine GX.cl_ ?_; intro q) | (refine GX.cb_ ?_; intro q)) | (apply GX.k_buildSlice; (refine GX.sl ?_; intro _))) | refine GX.pgt ?_ | refine GX.pgf ?_ | refine GX.pgbt ?_ | refine GX.pgbf ?_ | refine GX.gon ?_) | (apply GX.s_went; first | refine GX.wentF ?_ | refine GX.went ?_ | refine GX.wentE ?_) | apply GX.done)
          repeat (first | (apply GX.s_list; first | apply GX.nil | (refine GX.o ?_; first | (apply GX.k_load; first | refine GX.lr ?_ | refine GX.lrA ?_ | refine GX.ln ?_ | refine GX.lb ?_ | refine GX.lh ?_ | (refine GX.ls ?_; intro ao cap _ _) | (refine GX.lA ?_; intro cs) | (refine GX.l0 ?_; intro cs) | refine GX.o1n ?_ | refine GX.o1b ?_ | refine GX.o1h ?_ | (refine GX.o1s ?_; intro ao cap _ _) | refine GX.omn ?_ | refine GX.omb ?_ | refine GX.omh ?_ | (refine GX.oms ?_; intro ao cap _ _) | refine GX.ofn ?_ | refine GX.ofb ?_ | refine GX.ofh ?_ | (refine GX.ofs ?_; intro ao cap _ _) | (refine GX.oA ?_; intro cs)) | (apply GX.k_move; refine GX.m ?_) | (apply GX.k_indexAddr; first | refine GX.io1 ?_ | refine GX.ioh ?_ | refine GX.i1 ?_ | refine GX.ih ?_ | (refine GX.ix ?_; intro bl o)) | (apply GX.k_binOp_lss; refine GX.b_lss ?_) | (apply GX.k_binOp_add; first | refine GX.b_inc ?_ | refine GX.b_add ?_ | refine GX.b_addw ?_) | (apply GX.k_assign; refine GX.a ?_) | (apply GX.k_call; first | refine GX.c_len ?_ | (refine GX.ap ?_; intro _ _) | (refine GX.ap0 ?_; intro _ _)) | (apply GX.k_pick; first | refine GX.pt ?_ | refine GX.pf ?_ | refine GX.pk ?_) | (apply GX.k_slice; first | (refine GX.ch ?_; intro q) | (refine GX.cl_ ?_; intro q) | (refine GX.cb_ ?_; intro q)) | (apply GX.k_buildSlice; (refine GX.sl ?_; intro _)) | (apply GX.k_binOp_eql; first | refine GX.b_eql ?_ | refine GX.b_pn ?_ | refine GX.b_nn ?_ | refine GX.b_snn ?_ | refine GX.b_sns ?_ | refine GX.b_eqls ?_ | refine GX.b_eqltf ?_ | refine GX.b_eqlft ?_ | refine GX.b_eqlb ?_)) | refine GX.gt ?_ | refine GX.gf ?_ | refine GX.gbt ?_ | refine GX.gbf ?_ | refine GX.un ?_ | refine GX.un0 ?_) | apply GX.then_normal | apply GX.seq | apply GX.region | (apply GX.s_cond; first | refine GX.ct ?_ | refine GX.cf ?_ | refine GX.cdf ?_ | refine GX.cdt ?_ | refine GX.cbt ?_ | refine GX.cbf ?_) | apply GX.skip | apply GX.block | apply GX.inBlock_normal | apply GX.exit | apply GX.then_exit | apply GX.inBlock_exit | refine GX.ibo ?_ | apply GX.ret | apply GX.then_ret | apply GX.inBlock_ret)
          refine GX.nmS 4 ?_; rintro a4 c4 rfl rfl
          refine frz a4 ?_
          exact rt1 (a4, c4) rfl
  · have hil : i = l.length := by omega
    have e := fin fun y hy => by
      rw [List.drop_of_length_le (by omega)] at hy; simp at hy
    rw [← e]
    repeat (first | (apply GX.s_list; first | apply GX.nil | (refine GX.o ?_; first | (apply GX.k_load; first | refine GX.lr ?_ | refine GX.lrA ?_ | refine GX.ln ?_ | refine GX.lb ?_ | refine GX.lh ?_ | (refine GX.ls ?_; intro ao cap _ _) | (refine GX.lA ?_; intro cs) | (refine GX.l0 ?_; intro cs) | refine GX.o1n ?_ | refine GX.o1b ?_ | refine GX.o1h ?_ | (refine GX.o1s ?_; intro ao cap _ _) | refine GX.omn ?_ | refine GX.omb ?_ | refine GX.omh ?_ | (refine GX.oms ?_; intro ao cap _ _) | refine GX.ofn ?_ | refine GX.ofb ?_ | refine GX.ofh ?_ | (refine GX.ofs ?_; intro ao cap _ _) | (refine GX.oA ?_; intro cs)) | (apply GX.k_move; refine GX.m ?_) | (apply GX.k_indexAddr; first | refine GX.io1 ?_ | refine GX.ioh ?_ | refine GX.i1 ?_ | refine GX.ih ?_ | (refine GX.ix ?_; intro bl o)) | (apply GX.k_binOp_lss; refine GX.b_lss ?_) | (apply GX.k_binOp_add; first | refine GX.b_inc ?_ | refine GX.b_add ?_ | refine GX.b_addw ?_) | (apply GX.k_assign; refine GX.a ?_) | (apply GX.k_call; first | refine GX.c_len ?_ | (refine GX.ap ?_; intro _ _) | (refine GX.ap0 ?_; intro _ _)) | (apply GX.k_pick; first | refine GX.pt ?_ | refine GX.pf ?_ | refine GX.pk ?_) | (apply GX.k_slice; first | (refine GX.ch ?_; intro q) | (refine GX.cl_ ?_; intro q) | (refine GX.cb_ ?_; intro q)) | (apply GX.k_buildSlice; (refine GX.sl ?_; intro _)) | (apply GX.k_binOp_eql; first | refine GX.b_eql ?_ | refine GX.b_pn ?_ | refine GX.b_nn ?_ | refine GX.b_snn ?_ | refine GX.b_sns ?_ | refine GX.b_eqls ?_ | refine GX.b_eqltf ?_ | refine GX.b_eqlft ?_ | refine GX.b_eqlb ?_)) | refine GX.gt ?_ | refine GX.gf ?_ | refine GX.gbt ?_ | refine GX.gbf ?_ | refine GX.un ?_ | refine GX.un0 ?_) | apply GX.then_normal | apply GX.seq | apply GX.region | (apply GX.s_cond; first | refine GX.ct ?_ | refine GX.cf ?_ | refine GX.cdf ?_ | refine GX.cdt ?_ | refine GX.cbt ?_ | refine GX.cbf ?_) | apply GX.skip | apply GX.block | apply GX.inBlock_normal | apply GX.exit | apply GX.then_exit | apply GX.inBlock_exit | refine GX.ibo ?_ | apply GX.ret | apply GX.then_ret | apply GX.inBlock_ret)
    refine GX.drawnF (fun j => !(List.contains [] j)) [(0, true), (1, true), (2, true), (4, true), (7, true), (8, true), (9, true)] [(3, false), (5, false), (6, false), (10, false), (11, true)] [(5, false), (3, false), (6, false), (10, false), (11, true)] rfl (by kernel_rfl) (by kernel_rfl) ?_; intro wd F hW hR
    repeat (first | (apply GX.s_take; first | (refine GX.tkp ?_; first | (apply GX.t_move; refine GX.tm ?_)) | ((first | refine GX.tkr ?_ | refine GX.tkrE ?_); first | (apply GX.r_assign; refine GX.ra ?_) | (apply GX.r_slice; first | (refine GX.rch ?_; intro q _) | (refine GX.rcl_ ?_; intro q _) | (refine GX.rcb_ ?_; intro q _))) | (refine GX.tkx ?_; first | fail) | refine GX.pgt ?_ | refine GX.pgf ?_ | refine GX.pgbt ?_ | refine GX.pgbf ?_ | refine GX.tkn ?_ | refine GX.tknE ?_) | (apply GX.s_go; first | (refine GX.gow ?_; first | (apply GX.k_move; refine GX.m ?_) | (apply GX.k_assign; refine GX.a ?_) | (apply GX.k_call; first | (refine GX.ap ?_; intro _ _) | (refine GX.ap0 ?_; intro _ _)) | (apply GX.k_slice; first | (refine GX.ch ?_; intro q) | (refine GX.cl_ ?_; intro q) | (refine GX.cb_ ?_; intro q)) | (apply GX.k_buildSlice; (refine GX.sl ?_; intro _))) | refine GX.pgt ?_ | refine GX.pgf ?_ | refine GX.pgbt ?_ | refine GX.pgbf ?_ | refine GX.gon ?_) | (apply GX.s_went; first | refine GX.wentF ?_ | refine GX.went ?_ | refine GX.wentE ?_) | apply GX.done)
    refine GX.fork ?_ ?_
    · repeat (first | (apply GX.s_take; first | (refine GX.tkp ?_; first | (apply GX.t_move; refine GX.tm ?_)) | ((first | refine GX.tkr ?_ | refine GX.tkrE ?_); first | (apply GX.r_assign; refine GX.ra ?_) | (apply GX.r_slice; first | (refine GX.rch ?_; intro q _) | (refine GX.rcl_ ?_; intro q _) | (refine GX.rcb_ ?_; intro q _))) | (refine GX.tkx ?_; first | fail) | refine GX.pgt ?_ | refine GX.pgf ?_ | refine GX.pgbt ?_ | refine GX.pgbf ?_ | refine GX.tkn ?_ | refine GX.tknE ?_) | (apply GX.s_go; first | (refine GX.gow ?_; first | (apply GX.k_move; refine GX.m ?_) | (apply GX.k_assign; refine GX.a ?_) | (apply GX.k_call; first | (refine GX.ap ?_; intro _ _) | (refine GX.ap0 ?_; intro _ _)) | (apply GX.k_slice; first | (refine GX.ch ?_; intro q) | (refine GX.cl_ ?_; intro q) | (refine GX.cb_ ?_; intro q)) | (apply GX.k_buildSlice; (refine GX.sl ?_; intro _))) | refine GX.pgt ?_ | refine GX.pgf ?_ | refine GX.pgbt ?_ | refine GX.pgbf ?_ | refine GX.gon ?_) | (apply GX.s_went; first | refine GX.wentF ?_ | refine GX.went ?_ | refine GX.wentE ?_) | apply GX.done)
      repeat (first | (apply GX.s_list; first | apply GX.nil | (refine GX.o ?_; first | (apply GX.k_load; first | refine GX.lr ?_ | refine GX.lrA ?_ | refine GX.ln ?_ | refine GX.lb ?_ | refine GX.lh ?_ | (refine GX.ls ?_; intro ao cap _ _) | (refine GX.lA ?_; intro cs) | (refine GX.l0 ?_; intro cs) | refine GX.o1n ?_ | refine GX.o1b ?_ | refine GX.o1h ?_ | (refine GX.o1s ?_; intro ao cap _ _) | refine GX.omn ?_ | refine GX.omb ?_ | refine GX.omh ?_ | (refine GX.oms ?_; intro ao cap _ _) | refine GX.ofn ?_ | refine GX.ofb ?_ | refine GX.ofh ?_ | (refine GX.ofs ?_; intro ao cap _ _) | (refine GX.oA ?_; intro cs)) | (apply GX.k_move; refine GX.m ?_) | (apply GX.k_indexAddr; first | refine GX.io1 ?_ | refine GX.ioh ?_ | refine GX.i1 ?_ | refine GX.ih ?_ | (refine GX.ix ?_; intro bl o)) | (apply GX.k_binOp_lss; refine GX.b_lss ?_) | (apply GX.k_binOp_add; first | refine GX.b_inc ?_ | refine GX.b_add ?_ | refine GX.b_addw ?_) | (apply GX.k_assign; refine GX.a ?_) | (apply GX.k_call; first | refine GX.c_len ?_ | (refine GX.ap ?_; intro _ _) | (refine GX.ap0 ?_; intro _ _)) | (apply GX.k_pick; first | refine GX.pt ?_ | refine GX.pf ?_ | refine GX.pk ?_) | (apply GX.k_slice; first | (refine GX.ch ?_; intro q) | (refine GX.cl_ ?_; intro q) | (refine GX.cb_ ?_; intro q)) | (apply GX.k_buildSlice; (refine GX.sl ?_; intro _)) | (apply GX.k_binOp_eql; first | refine GX.b_eql ?_ | refine GX.b_pn ?_ | refine GX.b_nn ?_ | refine GX.b_snn ?_ | refine GX.b_sns ?_ | refine GX.b_eqls ?_ | refine GX.b_eqltf ?_ | refine GX.b_eqlft ?_ | refine GX.b_eqlb ?_)) | refine GX.gt ?_ | refine GX.gf ?_ | refine GX.gbt ?_ | refine GX.gbf ?_ | refine GX.un ?_ | refine GX.un0 ?_) | apply GX.then_normal | apply GX.seq | apply GX.region | (apply GX.s_cond; first | refine GX.ct ?_ | refine GX.cf ?_ | refine GX.cdf ?_ | refine GX.cdt ?_ | refine GX.cbt ?_ | refine GX.cbf ?_) | apply GX.skip | apply GX.block | apply GX.inBlock_normal | apply GX.exit | apply GX.then_exit | apply GX.inBlock_exit | refine GX.ibo ?_ | apply GX.ret | apply GX.then_ret | apply GX.inBlock_ret)
      refine GX.nmS 4 ?_; rintro a4 c4 rfl rfl
      refine frz a4 ?_
      exact rt1 (a4, c4) rfl
    · repeat (first | (apply GX.s_take; first | (refine GX.tkp ?_; first | (apply GX.t_move; refine GX.tm ?_)) | ((first | refine GX.tkr ?_ | refine GX.tkrE ?_); first | (apply GX.r_assign; refine GX.ra ?_) | (apply GX.r_slice; first | (refine GX.rch ?_; intro q _) | (refine GX.rcl_ ?_; intro q _) | (refine GX.rcb_ ?_; intro q _))) | (refine GX.tkx ?_; first | fail) | refine GX.pgt ?_ | refine GX.pgf ?_ | refine GX.pgbt ?_ | refine GX.pgbf ?_ | refine GX.tkn ?_ | refine GX.tknE ?_) | (apply GX.s_go; first | (refine GX.gow ?_; first | (apply GX.k_move; refine GX.m ?_) | (apply GX.k_assign; refine GX.a ?_) | (apply GX.k_call; first | (refine GX.ap ?_; intro _ _) | (refine GX.ap0 ?_; intro _ _)) | (apply GX.k_slice; first | (refine GX.ch ?_; intro q) | (refine GX.cl_ ?_; intro q) | (refine GX.cb_ ?_; intro q)) | (apply GX.k_buildSlice; (refine GX.sl ?_; intro _))) | refine GX.pgt ?_ | refine GX.pgf ?_ | refine GX.pgbt ?_ | refine GX.pgbf ?_ | refine GX.gon ?_) | (apply GX.s_went; first | refine GX.wentF ?_ | refine GX.went ?_ | refine GX.wentE ?_) | apply GX.done)
      repeat (first | (apply GX.s_list; first | apply GX.nil | (refine GX.o ?_; first | (apply GX.k_load; first | refine GX.lr ?_ | refine GX.lrA ?_ | refine GX.ln ?_ | refine GX.lb ?_ | refine GX.lh ?_ | (refine GX.ls ?_; intro ao cap _ _) | (refine GX.lA ?_; intro cs) | (refine GX.l0 ?_; intro cs) | refine GX.o1n ?_ | refine GX.o1b ?_ | refine GX.o1h ?_ | (refine GX.o1s ?_; intro ao cap _ _) | refine GX.omn ?_ | refine GX.omb ?_ | refine GX.omh ?_ | (refine GX.oms ?_; intro ao cap _ _) | refine GX.ofn ?_ | refine GX.ofb ?_ | refine GX.ofh ?_ | (refine GX.ofs ?_; intro ao cap _ _) | (refine GX.oA ?_; intro cs)) | (apply GX.k_move; refine GX.m ?_) | (apply GX.k_indexAddr; first | refine GX.io1 ?_ | refine GX.ioh ?_ | refine GX.i1 ?_ | refine GX.ih ?_ | (refine GX.ix ?_; intro bl o)) | (apply GX.k_binOp_lss; refine GX.b_lss ?_) | (apply GX.k_binOp_add; first | refine GX.b_inc ?_ | refine GX.b_add ?_ | refine GX.b_addw ?_) | (apply GX.k_assign; refine GX.a ?_) | (apply GX.k_call; first | refine GX.c_len ?_ | (refine GX.ap ?_; intro _ _) | (refine GX.ap0 ?_; intro _ _)) | (apply GX.k_pick; first | refine GX.pt ?_ | refine GX.pf ?_ | refine GX.pk ?_) | (apply GX.k_slice; first | (refine GX.ch ?_; intro q) | (refine GX.cl_ ?_; intro q) | (refine GX.cb_ ?_; intro q)) | (apply GX.k_buildSlice; (refine GX.sl ?_; intro _)) | (apply GX.k_binOp_eql; first | refine GX.b_eql ?_ | refine GX.b_pn ?_ | refine GX.b_nn ?_ | refine GX.b_snn ?_ | refine GX.b_sns ?_ | refine GX.b_eqls ?_ | refine GX.b_eqltf ?_ | refine GX.b_eqlft ?_ | refine GX.b_eqlb ?_)) | refine GX.gt ?_ | refine GX.gf ?_ | refine GX.gbt ?_ | refine GX.gbf ?_ | refine GX.un ?_ | refine GX.un0 ?_) | apply GX.then_normal | apply GX.seq | apply GX.region | (apply GX.s_cond; first | refine GX.ct ?_ | refine GX.cf ?_ | refine GX.cdf ?_ | refine GX.cdt ?_ | refine GX.cbt ?_ | refine GX.cbf ?_) | apply GX.skip | apply GX.block | apply GX.inBlock_normal | apply GX.exit | apply GX.then_exit | apply GX.inBlock_exit | refine GX.ibo ?_ | apply GX.ret | apply GX.then_ret | apply GX.inBlock_ret)
      refine GX.nmS 4 ?_; rintro a4 c4 rfl rfl
      refine frz a4 ?_
      exact rt1 (a4, c4) rfl

end Go.Proofs.YtomfpmbapdhbgaaGreat
