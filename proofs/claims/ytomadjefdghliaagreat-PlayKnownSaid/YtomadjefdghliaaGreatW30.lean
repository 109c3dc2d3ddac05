import Derived.Test.YtomadjefdghliaaGreatW10
import Derived.Test.YtomadjefdghliaaGreatW12
import Derived.Test.YtomadjefdghliaaGreatW13
import Derived.Test.YtomadjefdghliaaGreatW18
import Derived.Test.YtomadjefdghliaaGreatW26
import Derived.Test.YtomadjefdghliaaGreatW29
/- The walk over play's Run. -/
namespace Go.Proofs.YtomadjefdghliaaGreat
open Go Go.RR Go.RX Go.GX Go.Api Go.RtM
attribute [local irreducible] wpList Code.wp wpPlan Exit.then Exit.inBlock bodyPost NoPanic Went GX.Post GX.Again GX.Meet GX.RowR GX.Own GX.Owns GX.Box GX.Sl GX.Pt GX.Ag GX.MapR GX.Star GX.Kept GX.Pin wpT GoK AtEnd Both
def ran0 : Api.Ran := ⟨⟨0, 0, [], 0⟩, 0, 0, 0, 0, 0, 0⟩
/-- What a run is. -/
noncomputable def playP (t : RTg) (inp : List Int) (fuel : Int) : Api.Ran := if RightP t then ranP t (glob t) inp fuel else ran0
structure RnS where
  p : Nat
  k : MK
theorem run_spec (cs : List Value) (t : RTg) (hs : Small t) (hT : Tame30 t) (ai : Option Addr) (ci : Nat) (inp : List Int) (fuel : Int) (hf : fuel ≤ 100000) :
    Does Tryz.prog 9 [.agg cs.toArray, .slice ai inp.length ci, .int .i64 fuel] [Ag tyRTg cs t, Sl Ty.int ai ci inp] [] (fun s : List Value => .agg s.toArray) (fun s => [Ag tyRan s (playP t inp fuel)]) (fun _ => []) := by
  refine enter Tryz.func9 rfl Tryz.ntmps9 rfl fun _ => ?_
  refine GX.wp_R ?_; intros
  refine GX.nmP 3 ?_; rintro b3 rfl
  refine GX.nmP 6 ?_; rintro b6 rfl
  refine GX.nmA 8 ?_; rintro c8 rfl
  refine GX.o (cl (right_spec c8 t hs) fun _ => ?_)
  by_cases hRt : RightP t
  · rw [show playP t inp fuel = ranP t (glob t) inp fuel from if_pos hRt]
    have hRn := Classical.not_not.2 hRt
    refine GX.wp_RN ?_; intros
    have hgl := hRt.1.2.1
    refine GX.cut (σ := RnS) (fun s => [(2, .int .i64 fuel), (3, .pointer (some ⟨b3, 0, none⟩)), (6, .pointer (some ⟨b6, 0, none⟩)), (7, .pointer (some ⟨s.p, 0, none⟩))]) (fun s => [Sl Ty.int s.k.aL s.k.cL (glob t), Sl tyLayout s.k.aC s.k.cC t.classes, Sl tyUnt s.k.aU s.k.cU t.units])
      (fun s => [RowR s.p 57 [.slice s.k.aC t.classes.length s.k.cC, .slice s.k.aG t.globals.length s.k.cG, .slice s.k.aU t.units.length s.k.cU, .int .i64 t.main, .slice s.k.aL (glob t).length s.k.cL, .pointer (some ⟨s.k.tp, 0, none⟩), .int .i64 0, .slice (⟨ai, inp.length, ci, none, 0, 0, 1, 0, 0, none, 0, 0, 0, 0⟩ : MV).ai (⟨ai, inp.length, ci, none, 0, 0, 1, 0, 0, none, 0, 0, 0, 0⟩ : MV).ni (⟨ai, inp.length, ci, none, 0, 0, 1, 0, 0, none, 0, 0, 0, 0⟩ : MV).ci, .slice (some ⟨s.k.gb, 0, none⟩) t.globals.length t.globals.length, .slice (⟨ai, inp.length, ci, none, 0, 0, 1, 0, 0, none, 0, 0, 0, 0⟩ : MV).af (⟨ai, inp.length, ci, none, 0, 0, 1, 0, 0, none, 0, 0, 0, 0⟩ : MV).nf (⟨ai, inp.length, ci, none, 0, 0, 1, 0, 0, none, 0, 0, 0, 0⟩ : MV).cf, .int .i64 (⟨ai, inp.length, ci, none, 0, 0, 1, 0, 0, none, 0, 0, 0, 0⟩ : MV).bound, .map (some s.k.om), .int .i64 (⟨ai, inp.length, ci, none, 0, 0, 1, 0, 0, none, 0, 0, 0, 0⟩ : MV).en, .int .i64 (⟨ai, inp.length, ci, none, 0, 0, 1, 0, 0, none, 0, 0, 0, 0⟩ : MV).code, .slice (⟨ai, inp.length, ci, none, 0, 0, 1, 0, 0, none, 0, 0, 0, 0⟩ : MV).ao (⟨ai, inp.length, ci, none, 0, 0, 1, 0, 0, none, 0, 0, 0, 0⟩ : MV).no (⟨ai, inp.length, ci, none, 0, 0, 1, 0, 0, none, 0, 0, 0, 0⟩ : MV).co, .int .i64 (⟨ai, inp.length, ci, none, 0, 0, 1, 0, 0, none, 0, 0, 0, 0⟩ : MV).steps, .int .i64 ran0.made, .int .i64 ran0.gone, .int .i64 ran0.live, .int .i64 ran0.peak, .int .i64 (⟨ai, inp.length, ci, none, 0, 0, 1, 0, 0, none, 0, 0, 0, 0⟩ : MV).slack, .int .i64 ran0.most], RowR s.k.tp 86 [.slice (TabC.mk none 0 [] none 0 [] 0 0 0 0).aR (TabC.mk none 0 [] none 0 [] 0 0 0 0).R.length (TabC.mk none 0 [] none 0 [] 0 0 0 0).cR, .slice (TabC.mk none 0 [] none 0 [] 0 0 0 0).aL (TabC.mk none 0 [] none 0 [] 0 0 0 0).L.length (TabC.mk none 0 [] none 0 [] 0 0 0 0).cL, .int .i64 (TabC.mk none 0 [] none 0 [] 0 0 0 0).gone, .int .i64 (TabC.mk none 0 [] none 0 [] 0 0 0 0).peak, .int .i64 (TabC.mk none 0 [] none 0 [] 0 0 0 0).many, .int .i64 (TabC.mk none 0 [] none 0 [] 0 0 0 0).most], GX.Own 90 tyRegion (TabC.mk none 0 [] none 0 [] 0 0 0 0).aR (TabC.mk none 0 [] none 0 [] 0 0 0 0).cR (TabC.mk none 0 [] none 0 [] 0 0 0 0).R, GX.Own 148 tyThing (TabC.mk none 0 [] none 0 [] 0 0 0 0).aL (TabC.mk none 0 [] none 0 [] 0 0 0 0).cL ((TabC.mk none 0 [] none 0 [] 0 0 0 0).L.map thg), Owns 3 Ty.int ((TabC.mk none 0 [] none 0 [] 0 0 0 0).L.map (fun x : Th => x.2)), GX.Own 3 Ty.int (some ⟨s.k.gb, 0, none⟩) t.globals.length (List.replicate t.globals.length 0), GX.MapR s.k.om opsF, Box 32 tyRan b6 ran0]) (fun _ => True) ?_ (fun s _ => ?_)
    · refine GX.drawnT (fun j => !(List.contains [] j)) (.br [(0, true), (1, true), (4, true), (5, true), (6, true), (7, true)] (.alt 2 (.br [] (.alt 3 (.br [] (.alt 8 (.lin [(9, false), (10, true), (11, false), (12, true)]) (.alt 9 (.lin [(8, false), (10, true), (11, false), (12, true)]) .nil))) (.alt 8 (.lin [(3, false), (9, false), (10, true), (11, false), (12, true)]) .nil))) (.alt 8 (.lin [(2, false), (3, false), (9, false), (10, true), (11, false), (12, true)]) .nil))) (by kernel_rfl) (by kernel_rfl) ?_; intro wd F hW hR
      refine GX.wp_TA ?_; intros
      refine GX.nmA 12 ?_; rintro c12 rfl
      refine GX.nmA 13 ?_; rintro c13 rfl
      refine opRTg c12 fun aC cC aG cG aU cU e12 => ?_
      subst e12
      repeat' first
        | (refine GX.treeA ?_ ?_ <;> (refine GX.wp_TA ?_; intros))
        | (refine GX.gok ?_; refine (cl (global_spec c13 t hs) fun s => ?_); obtain ⟨aL, cL⟩ := s; dsimp only; refine GX.wp_TA ?_; intros)
        | (refine GX.gok ?_; refine (cl tnew_spec fun tp => ?_); refine GX.wp_TA ?_; intros)
        | (refine GX.gok ?_; refine (cl steps_spec fun om => ?_); refine GX.wp_TA ?_; intros)
        | (refine GX.gow ?_; refine (cl (global_spec c13 t hs) fun s => ?_); obtain ⟨aL, cL⟩ := s; dsimp only; refine GX.wp_TA ?_; intros)
        | (refine GX.gow ?_; refine (cl tnew_spec fun tp => ?_); refine GX.wp_TA ?_; intros)
        | (refine GX.gow ?_; refine (cl steps_spec fun om => ?_); refine GX.wp_TA ?_; intros)
      all_goals (
        refine GX.wp_R ?_; intros
        refine GX.nmP 7 ?_; rintro p rfl
        refine GX.nmB 20 ?_; rintro gb rfl
        exact GX.meet ⟨p, ⟨aC, cC, aG, cG, aU, cU, aL, cL, tp, gb, om⟩⟩ ⟨rfl, rfl, rfl, rfl, trivial⟩ trivial)
    obtain ⟨p, k⟩ := s
    dsimp only
    have hm := hRt.2.1
    unfold MainOk at hm
    cases hg : gt t.units t.main with
    | none => rw [hg] at hm; exact hm.elim
    | some u =>
    obtain ⟨j, hj, hjl, hju⟩ := gt_some hg
    have hum : u ∈ t.units := gt_mem hg
    have huv : u.vars.length ≤ 4000 := (right_unit hRt hum).1.1.2.2.2
    have huo := hT.owns u hum
    obtain ⟨v0, hv0⟩ : ∃ v0 : MV, v0 = ⟨ai, inp.length, ci, none, 0, 0, 1, 0, 0, none, 0, 0, 0, 0⟩ := ⟨_, rfl⟩
    refine GX.wp_R ?_; intros
    refine GX.o (cl (tMake_spec k.tp TInv.zero (by show 0 ≤ 1000000000; omega)) fun s => ?_)
    obtain ⟨c1, hT1⟩ := s
    dsimp only
    refine GX.wp_R ?_; intros
    refine GX.o (cl (enter_spec t p k ⟨ai, inp.length, ci, none, 0, 0, 1, 0, 0, none, 0, 0, 0, 0⟩ j t.main hj u (-1) hju (by omega)) fun s => ?_)
    obtain ⟨bl, vb, mb⟩ := s
    dsimp only [newC, newF]
    refine GX.wp_R ?_; intros
    refine ownNil 60 Ty.ptr ?_
    refine GX.o (cl (push_spec t p k ⟨ai, inp.length, ci, none, 0, 0, 1, 0, 0, none, 0, 0, 0, 0⟩ [] ⟨bl, vb, u.vars.length, mb, fun _ => none⟩ ⟨t.main, 0, List.replicate u.vars.length 0, -1, fun _ => 0⟩ j u hju hj rfl (by simp) (by dsimp only; omega) (by omega)) fun s => ?_)
    obtain ⟨af, cf⟩ := s
    dsimp only
    refine GX.wp_R ?_; intros
    refine GX.o (cl (slack_spec t p k ⟨ai, inp.length, ci, af, 1, cf, 1 + u.owns.length, 0, 0, none, 0, 0, 0, 0⟩ c1 Tb.zero.make hT1 (by dsimp only; omega) (by show 1 ≤ 1000000000; omega)) fun _ => ?_)
    dsimp only
    refine GX.wp_R ?_; intros
    refine GX.starN ?_
    refine GX.starI (l := [RowR (FrC.mk bl vb u.vars.length mb (fun _ => none)).bl 93 [.int .i64 (Fr.mk t.main 0 (List.replicate u.vars.length 0) (-1) (fun _ => 0)).u, .int .i64 (Fr.mk t.main 0 (List.replicate u.vars.length 0) (-1) (fun _ => 0)).pc, .slice (some ⟨(FrC.mk bl vb u.vars.length mb (fun _ => none)).vb, 0, none⟩) (FrC.mk bl vb u.vars.length mb (fun _ => none)).n (FrC.mk bl vb u.vars.length mb (fun _ => none)).n, .int .i64 (Fr.mk t.main 0 (List.replicate u.vars.length 0) (-1) (fun _ => 0)).into, .map (some (FrC.mk bl vb u.vars.length mb (fun _ => none)).mb)], GX.Own 3 Ty.int (some ⟨(FrC.mk bl vb u.vars.length mb (fun _ => none)).vb, 0, none⟩) (FrC.mk bl vb u.vars.length mb (fun _ => none)).n (Fr.mk t.main 0 (List.replicate u.vars.length 0) (-1) (fun _ => 0)).vars, GX.MapR mb (fun _ => none)]) (m := []) ?_
    refine ownNil 3 Ty.int ?_
    have hbe : begin_ t inp = ⟨Tb.zero.make, inp, List.replicate t.globals.length 0, [⟨t.main, 0, List.replicate u.vars.length 0, -1, fun _ => 0⟩], 0, 0, [], 0, 1 + u.owns.length - (liveN Tb.zero.make.B : Int)⟩ := by
      unfold begin_ start Ms.room bound ownsN
      dsimp only
      rw [hg]
      simp [hg]
    obtain ⟨hok, hbn⟩ := begin_ok (inp := inp) hRt
    unfold ranP
    rw [hbe] at hok hbn ⊢
    have hI : MInv t ⟨⟨ai, inp.length, ci, af, 1, cf, 1 + u.owns.length, 0, 0, none, 0, 0, 0, 1 + u.owns.length - (liveN Tb.zero.make.B : Int)⟩, [⟨bl, vb, u.vars.length, mb, fun _ => none⟩], c1⟩ ⟨Tb.zero.make, inp, List.replicate t.globals.length 0, [⟨t.main, 0, List.replicate u.vars.length 0, -1, fun _ => 0⟩], 0, 0, [], 0, 1 + u.owns.length - (liveN Tb.zero.make.B : Int)⟩ := by
      refine ⟨hT1, rfl, ⟨⟨List.length_replicate, fun _ => rfl⟩, trivial⟩, rfl, rfl, rfl, rfl, rfl, rfl, ?_⟩
      show (1 : Int) + u.owns.length = bound t [_]
      rw [bound_cons]
      unfold ownsN bound
      dsimp only
      rw [hg]
      simp
    refine GX.o (cl (goOn_spec t p k hRt hT (max fuel 0) (by omega) _ _ hI hok hbn (max fuel 0).toNat (by show 0 + (((max fuel 0).toNat : Nat) : Int) = max fuel 0; omega)) fun s => ?_)
    obtain ⟨⟨v', xs', c'⟩, hI', hok', hbn', hst'⟩ := s
    dsimp only
    generalize runM t (glob t) (max fuel 0).toNat _ = Mf at hI' hok' hbn' hst' ⊢
    have hB1 : Mf.tb.B.length ≤ 1000000000 := by have := hbn'.B; omega
    have hL1 : Mf.tb.L.length ≤ 1000000000 := by have := hbn'.L; omega
    refine GX.wp_R ?_; intros
    refine GX.o (cl (clears_spec t p k v' c' Mf.tb hI'.tab hB1 hL1) fun s => ?_)
    obtain ⟨c2, hT2⟩ := s
    dsimp only
    have hcl : Mf.clear.ran = ⟨⟨v'.en, v'.code, Mf.out, v'.steps⟩, (clearT Mf.tb v'.en).B.length, ((clearT Mf.tb v'.en).B.length : Int) - (liveN (clearT Mf.tb v'.en).B : Int), ((clearT Mf.tb v'.en).B.length : Int) - (((clearT Mf.tb v'.en).B.length : Int) - (liveN (clearT Mf.tb v'.en).B : Int)), (clearT Mf.tb v'.en).peak, v'.slack, (clearT Mf.tb v'.en).most⟩ := by
      rw [show v'.en = Mf.en from hI'.en, show v'.code = Mf.code from hI'.code, show v'.steps = Mf.steps from hI'.steps, show v'.slack = Mf.slack from hI'.slack, show ∀ a b : Int, a - (a - b) = b by intro a b; omega]
      unfold Ms.clear Ms.ran clearT
      split
      · rfl
      · split <;> rfl
    have hBl : (clearT Mf.tb v'.en).B.length = Mf.tb.B.length := by
      unfold clearT
      split
      · exact (rem_len _ _).1
      · split
        · exact (remAll_len _ _).1
        · rfl
    rw [hcl]
    generalize clearT Mf.tb v'.en = Tf at hT2 hBl ⊢
    have hlv : liveN Tf.B ≤ Tf.B.length := List.countP_le_length
    refine GX.wp_R ?_; intros
    refine GX.o (cl (tCount_spec k.tp hT2) fun _ => ?_)
    refine GX.wp_R ?_; intros
    refine GX.drawn1 (RowR p 57 _) (fun j => !(List.contains [15] j)) [(0, true), (1, true), (2, true), (3, true), (4, true), (5, true), (6, true), (7, true), (8, true), (9, true), (10, true), (11, true), (12, true), (13, true), (14, true), (15, false)] rfl (by kernel_rfl) (by kernel_rfl) (by first | ((repeat (first | apply Go.GX.SelR.nil | apply Go.GX.SelR.cons | (with_reducible apply Go.GX.TakeR.head) | apply Go.GX.TakeR.tail)); done) | (repeat (first | apply Go.GX.SelR.nil | apply Go.GX.SelR.cons | apply Go.GX.TakeR.head | apply Go.GX.TakeR.tail))) ?_; intro wd F hW hR
    refine GX.wp_T ?_; intros
    refine GX.unpin (RowR p 57 _) ?_
    refine GX.wp_T ?_; intros
    refine GX.wp_R ?_; intros
    refine GX.o (cl (tThings_spec k.tp hT2) fun _ => ?_)
    refine GX.wp_R ?_; intros
    rw [show v'.no = Mf.out.length from hI'.no]
    refine GX.o (lrO [.int .i64 v'.en, .int .i64 v'.code, .slice v'.ao Mf.out.length v'.co, .int .i64 v'.steps, .int .i64 (Tf.B.length : Int), .int .i64 ((Tf.B.length : Int) - (liveN Tf.B : Int)), .int .i64 ((Tf.B.length : Int) - ((Tf.B.length : Int) - (liveN Tf.B : Int))), .int .i64 Tf.peak, .int .i64 v'.slack, .int .i64 Tf.most] ?_)
    refine frz v'.ao ?_
    refine GX.wp_R ?_; intros
    exact rt1B (fun cs => cs) (fun _ => rfl)
  · rw [show playP t inp fuel = ran0 from if_neg hRt]
    refine GX.wp_R ?_; intros
    exact rt1B (fun cs => cs) (fun _ => rfl)
end Go.Proofs.YtomadjefdghliaaGreat

/- Programs such as the laws speak of, plainly. No program in sight. -/
namespace Go.Proofs.YtomadjefdghliaaGreat
open Go.Api Go.RiseM Go.ReachM Go.RtM
/-- A unit such as the laws speak of. -/
def TinyU (u : Unt) : Prop := (u.vars.length ≤ 150 ∧ u.ins.length ≤ 400 ∧ u.takes.length ≤ 80 ∧ u.owns.length ≤ 80) ∧ ∀ i ∈ u.ins, i.args.length ≤ 80
instance (u : Unt) : Decidable (TinyU u) := by unfold TinyU; infer_instance
def Tiny (t : RTg) : Prop := (t.classes.length ≤ 80 ∧ t.globals.length ≤ 20 ∧ t.units.length ≤ 20) ∧ (∀ L ∈ t.classes, L.refs.length ≤ 20) ∧ ∀ u ∈ t.units, TinyU u
instance (t : RTg) : Decidable (Tiny t) := by unfold Tiny; infer_instance
theorem sum_le {l : List Nat} {k : Nat} (h : ∀ x ∈ l, x ≤ k) : l.sum ≤ l.length * k := by
  induction l with
  | nil => simp
  | cons x l ih =>
    have h1 := h x (by simp)
    have h2 := ih fun y hy => h y (by simp [hy])
    rw [List.sum_cons, List.length_cons, Nat.add_mul]; omega
theorem Tiny.small {t : RTg} (h : Tiny t) : Small t := by
  refine ⟨by have := h.1.1; omega, ?_, by have := h.1.2.1; omega, by have := h.1.2.2; omega, fun u hu => ?_⟩
  · have h1 : ∀ x ∈ (flds t).map List.length, x ≤ 20 := fun x hx => by
      obtain ⟨l, hl, rfl⟩ := List.mem_map.1 hx
      obtain ⟨L, hL, rfl⟩ := List.mem_map.1 hl
      exact h.2.1 L hL
    have h2 := sum_le h1
    rw [List.length_map, flds_len] at h2
    have := h.1.1
    omega
  · have := (h.2.2 u hu).1; omega
theorem all_one {α : Type} {P : α → Prop} {l : List α} {i : Nat} {x : α} (hx : l[i]? = some x) (h : ∀ y ∈ l.take i, P y) (hp : P x) : ∀ y ∈ l.take (i + 1), P y := by
  intro y hy
  rw [List.take_add_one, hx, List.mem_append] at hy
  rcases hy with hy | hy
  · exact h y hy
  · simp at hy; subst hy; exact hp
end Go.Proofs.YtomadjefdghliaaGreat

/- The walks over 'known' and 'one' of chapter 30's laws, and over what compares runs. -/
namespace Go.Proofs.YtomadjefdghliaaGreat
open Go Go.RR Go.RX Go.GX Go.Api Go.RiseM Go.ReachM Go.RtM Go.OneM
attribute [local irreducible] wpList Code.wp wpPlan Exit.then Exit.inBlock bodyPost NoPanic Went GX.Post GX.Again GX.Meet GX.RowR GX.Own GX.Owns GX.Box GX.Sl GX.Pt GX.Ag GX.MapR GX.Kept GX.Pin wpT GoK AtEnd Both
theorem one30_spec (ao : Option Addr) (cap : Nat) (ins : List Ins) : Does Tryz.prog 14 [.slice ao ins.length cap] [Sl tyIns ao cap ins] [] (fun s : List Value => .agg s.toArray) (fun s => [Ag tyRTg s (oneT ins)]) (fun _ => []) := by
  refine enter Tryz.func14 rfl Tryz.ntmps14 rfl fun b => ?_
  refine GX.wR ?_; intros
  exact rt1B id (fun _ => rfl)
theorem one30_tiny {ins : List Ins} (h : OneFew ins) : Tiny (oneT ins) := by
  refine ⟨⟨by show 2 ≤ 80; omega, by show 0 ≤ 20; omega, by show 1 ≤ 20; omega⟩, fun L hL => ?_, fun u hu => ?_⟩
  · have hL : L = ⟨false, [-2]⟩ ∨ L = ⟨false, [0]⟩ := by simpa [oneT] using hL
    rcases hL with rfl | rfl
    · show 1 ≤ 20; omega
    · show 1 ≤ 20; omega
  · obtain rfl : u = oneU ins := by simpa [oneT] using hu
    exact ⟨⟨by show 3 ≤ 150; omega, h.1, by show 0 ≤ 80; omega, by show 2 ≤ 80; omega⟩, h.2⟩
theorem Tiny.tame {t : RTg} (h : Tiny t) : Tame30 t := ⟨fun u hu => by have := (h.2.2 u hu).1.2.2.2; omega, fun u hu => (h.2.2 u hu).2⟩
def kk : List Ins := [⟨21, 0, 0, 0, 0, [0]⟩, ⟨11, 0, 0, 0, 0, []⟩, ⟨22, 0, 0, 0, 0, [0]⟩, ⟨18, -1, 0, 0, 0, []⟩]
set_option maxRecDepth 10000 in
theorem kk_few : OneFew kk ∧ OneOk kk := by decide +kernel
set_option maxRecDepth 10000 in
theorem kk_run : ranP (oneT kk) [] [] 9 = ⟨⟨1, 0, [], 4⟩, 2, 2, 0, 2, 1, 1⟩ := by decide +kernel
theorem playOne {ins : List Ins} (h : OneOk ins) (inp : List Int) (fuel : Int) : playP (oneT ins) inp fuel = ranP (oneT ins) [] inp fuel := by
  unfold playP
  rw [if_pos (one_right.2 h), one_glob]
theorem known30_spec : Does Tryz.prog 11 [] [] [] (fun _ : Unit => .bool true) (fun _ => []) (fun _ => []) := by
  refine enter Tryz.func11 rfl Tryz.ntmps11 rfl fun b => ?_
  have hT := one30_tiny kk_few.1
  have hp : playP (oneT kk) [] 9 = ⟨⟨1, 0, [], 4⟩, 2, 2, 0, 2, 1, 1⟩ := (playOne kk_few.2 [] 9).trans kk_run
  refine GX.wR ?_; intros
  refine GX.nmB 8 ?_; rintro b8 rfl
  refine GX.o (cl (one30_spec (some ⟨b8, 0, none⟩) 4 kk) fun s => ?_)
  refine GX.wR ?_; intros
  refine slNil Ty.int ?_
  refine GX.o (cl (run_spec s (oneT kk) hT.small hT.tame none 0 [] 9 (by omega)) fun s2 => ?_)
  obtain ⟨y, hy⟩ : ∃ y, y = playP (oneT kk) [] 9 := ⟨_, rfl⟩
  rw [← hy]
  rw [hp] at hy
  have h1 : y.beh.end_ = 1 := by rw [hy]
  have h2 : y.beh.steps = 4 := by rw [hy]
  have h3 : y.made = 2 := by rw [hy]
  have h4 : y.gone = 2 := by rw [hy]
  have h5 : y.live = 0 := by rw [hy]
  have h6 : y.peak = 2 := by rw [hy]
  have h7 : y.most = 1 := by rw [hy]
  have h8 : y.slack = 1 := by rw [hy]
  refine GX.wR ?_; intros
  exact rt1 () (vY h8).symm
end Go.Proofs.YtomadjefdghliaaGreat

/- The walk over 'great' of chapter 30's laws. -/
namespace Go.Proofs.YtomadjefdghliaaGreat
open Go Go.RR Go.RX Go.GX Go.Api Go.RiseM Go.ReachM Go.RtM
attribute [local irreducible] wpList Code.wp wpPlan Exit.then Exit.inBlock bodyPost NoPanic Went GX.Post GX.Again GX.Meet GX.RowR GX.Own GX.Owns GX.Box GX.Sl GX.Pt GX.Ag GX.MapR GX.Kept GX.Pin wpT GoK AtEnd Both
theorem great30_spec (cs : List Value) (t : RTg) : Does Tryz.prog 7 [.agg cs.toArray] [Ag tyRTg cs t] [] (fun _ : Unit => .bool (decide (¬ Tiny t))) (fun _ => []) (fun _ => []) := by
  refine enter Tryz.func7 rfl Tryz.ntmps7 rfl fun b => ?_
  by_cases h1 : 80 < (t.classes.length : Int)
  · refine GX.wR ?_; intros
    exact rt1 () (vY fun h => by have := h.1.1; omega)
  by_cases h2 : 20 < (t.globals.length : Int)
  · refine GX.wR ?_; intros
    exact rt1 () (vY fun h => by have := h.1.2.1; omega)
  by_cases h3 : 20 < (t.units.length : Int)
  · refine GX.wR ?_; intros
    exact rt1 () (vY fun h => by have := h.1.2.2; omega)
  refine GX.wR ?_; intros
  refine GX.nmP 1 ?_; rintro b1 rfl
  refine GX.loop (σ := Nat) (fun i => [(1, .pointer (some ⟨b1, 0, none⟩)), (3, .int .i64 (i : Int))]) (fun _ => []) (fun _ => [])
    (fun i => i ≤ t.classes.length ∧ ∀ L ∈ t.classes.take i, L.refs.length ≤ 20) (fun i => t.classes.length - i) 0 ⟨rfl, rfl, trivial⟩ ⟨by omega, by simp⟩ (fun i hi => ?_)
  obtain ⟨hi, hA⟩ := hi
  by_cases hlt : i < t.classes.length
  · obtain ⟨L, hL⟩ := get_lt hlt
    by_cases g1 : 20 < (L.refs.length : Int)
    · refine GX.wR ?_; intros
      exact rt1 () (vY fun h => by have := h.2.1 L (List.mem_of_getElem? hL); omega)
    · refine GX.wR ?_; intros
      exact again (i + 1) ⟨rfl, rfl, trivial⟩ ⟨by omega, all_one hL hA (by omega)⟩ (by omega)
  rw [List.take_of_length_le (by omega)] at hA
  clear hi
  refine GX.wR ?_; intros
  refine GX.loop (σ := Nat) (fun i => [(1, .pointer (some ⟨b1, 0, none⟩)), (4, .int .i64 (i : Int))]) (fun _ => []) (fun _ => [])
    (fun i => i ≤ t.units.length ∧ ∀ u ∈ t.units.take i, TinyU u) (fun i => t.units.length - i) 0 ⟨rfl, rfl, trivial⟩ ⟨by omega, by simp⟩ (fun k hk => ?_)
  obtain ⟨hk, hU⟩ := hk
  by_cases hkl : k < t.units.length
  · obtain ⟨u, hu⟩ := get_lt hkl
    have hm := List.mem_of_getElem? hu
    have no : ¬ TinyU u → ¬ Tiny t := fun h h2 => h (h2.2.2 u hm)
    by_cases g1 : 150 < (u.vars.length : Int)
    · refine GX.wR ?_; intros
      exact rt1 () (vY (no fun h => by have := h.1.1; omega))
    by_cases g2 : 400 < (u.ins.length : Int)
    · refine GX.wR ?_; intros
      exact rt1 () (vY (no fun h => by have := h.1.2.1; omega))
    by_cases g3 : 80 < (u.takes.length : Int)
    · refine GX.wR ?_; intros
      exact rt1 () (vY (no fun h => by have := h.1.2.2.1; omega))
    by_cases g4 : 80 < (u.owns.length : Int)
    · refine GX.wR ?_; intros
      exact rt1 () (vY (no fun h => by have := h.1.2.2.2; omega))
    refine GX.wR ?_; intros
    refine GX.nmP 5 ?_; rintro b5 rfl
    refine frzB b5 ?_
    refine GX.loop (σ := Nat) (fun i => [(1, .pointer (some ⟨b1, 0, none⟩)), (4, .int .i64 (k : Int)), (5, .pointer (some ⟨b5, 0, none⟩)), (6, .int .i64 (i : Int))]) (fun _ => []) (fun _ => [])
      (fun j => j ≤ u.ins.length ∧ ∀ i ∈ u.ins.take j, i.args.length ≤ 80) (fun j => u.ins.length - j) 0 ⟨rfl, rfl, rfl, rfl, trivial⟩ ⟨by omega, by simp⟩ (fun j hj => ?_)
    obtain ⟨hj, hI⟩ := hj
    by_cases hjl : j < u.ins.length
    · obtain ⟨x, hx⟩ := get_lt hjl
      by_cases g5 : 80 < (x.args.length : Int)
      · refine GX.wR ?_; intros
        exact rt1 () (vY (no fun h => by have := h.2 x (List.mem_of_getElem? hx); omega))
      · refine GX.wR ?_; intros
        exact again (j + 1) ⟨rfl, rfl, rfl, rfl, trivial⟩ ⟨by omega, all_one hx hI (by omega)⟩ (by omega)
    · rw [List.take_of_length_le (by omega)] at hI
      refine GX.wR ?_; intros
      exact again (k + 1) ⟨rfl, rfl, trivial⟩ ⟨by omega, all_one hu hU ⟨by omega, hI⟩⟩ (by omega)
  rw [List.take_of_length_le (by omega)] at hU
  refine GX.wR ?_; intros
  exact rt1 () (vN (Classical.not_not.2 ⟨by omega, hA, hU⟩))

end Go.Proofs.YtomadjefdghliaaGreat

/- The walk over Ints of the reference of chapter 10. -/
namespace Go.Proofs.YtomadjefdghliaaGreat
open Go Go.RR Go.RX Go.GX
attribute [local irreducible] wpList Code.wp wpPlan Exit.then Exit.inBlock bodyPost NoPanic Went GX.Post GX.Again GX.Meet GX.RowR GX.Own GX.Owns GX.Box GX.Sl GX.Pt GX.Ag GX.MapR GX.Kept GX.Pin wpT GoK AtEnd Both

theorem take_eq_succ10 {α : Type} {xs ys : List α} {i : Nat} {x : α} (h : xs.take i = ys.take i) (hx : xs[i]? = some x) (hy : ys[i]? = some x) : xs.take (i + 1) = ys.take (i + 1) := by
  rw [List.take_add_one, List.take_add_one, h, hx, hy]

theorem ints10_same (ao1 ao2 : Option Addr) (cap1 cap2 : Nat) (xs ys : List Int) : Does Tryz.prog 15 [.slice ao1 xs.length cap1, .slice ao2 ys.length cap2] [Sl Ty.int ao1 cap1 xs, Sl Ty.int ao2 cap2 ys] []
    (fun _ : Unit => .bool (decide (xs = ys))) (fun _ => []) (fun _ => []) := by
  refine enter Tryz.func15 rfl Tryz.ntmps15 rfl fun b => ?_
  refine sln ao1 fun h1 h2 _ => ?_
  by_cases hl : xs.length = ys.length
  · refine GX.wR ?_; intros
    refine GX.loop (σ := Nat) (fun i => [(0, .slice ao1 xs.length cap1), (1, .slice ao2 ys.length cap2), (5, .int .i64 (i : Int))]) (fun _ => []) (fun _ => [])
      (fun i => i ≤ xs.length ∧ xs.take i = ys.take i) (fun i => xs.length - i) 0 ⟨rfl, rfl, rfl, trivial⟩ ⟨by omega, by simp⟩ (fun i hi => ?_)
    obtain ⟨hi, ht⟩ := hi
    by_cases hlt : i < xs.length
    · obtain ⟨x, hx⟩ := get_lt hlt
      obtain ⟨y, hy⟩ := get_lt (show i < ys.length by omega)
      by_cases hxy : x = y
      · refine GX.wR ?_; intros
        refine GX.drawn0  (fun j => !(List.contains [] j)) [(0, true), (1, true), (2, true), (3, true), (4, true), (5, true), (6, true), (7, true), (8, true)] rfl (by kernel_rfl) (by kernel_rfl) (by first | ((repeat (first | apply Go.GX.SelR.nil | apply Go.GX.SelR.cons | (with_reducible apply Go.GX.TakeR.head) | apply Go.GX.TakeR.tail)); done) | (repeat (first | apply Go.GX.SelR.nil | apply Go.GX.SelR.cons | apply Go.GX.TakeR.head | apply Go.GX.TakeR.tail))) ?_; intro wd F hW hR
        refine GX.wT ?_; intros
        refine GX.wR ?_; intros
        subst hxy
        exact again (i + 1) ⟨rfl, rfl, rfl, trivial⟩ ⟨by omega, take_eq_succ10 ht hx hy⟩ (by omega)
      · refine GX.wR ?_; intros
        refine GX.drawn0  (fun j => !(List.contains [] j)) [(0, true), (1, true), (2, true), (3, true), (4, true), (5, true), (6, true), (7, true), (8, true)] rfl (by kernel_rfl) (by kernel_rfl) (by first | ((repeat (first | apply Go.GX.SelR.nil | apply Go.GX.SelR.cons | (with_reducible apply Go.GX.TakeR.head) | apply Go.GX.TakeR.tail)); done) | (repeat (first | apply Go.GX.SelR.nil | apply Go.GX.SelR.cons | apply Go.GX.TakeR.head | apply Go.GX.TakeR.tail))) ?_; intro wd F hW hR
        refine GX.wT ?_; intros
        refine GX.wR ?_; intros
        have he : decide (xs = ys) = false := decide_eq_false fun e => hxy (by subst e; rw [hx] at hy; exact Option.some.inj hy)
        exact rt1 () (congrArg Value.bool he)
    · have hil : i = xs.length := by omega
      subst hil
      refine GX.wR ?_; intros
      have he : decide (xs = ys) = true := by
        rw [List.take_length, hl, List.take_length] at ht
        exact decide_eq_true ht
      exact rt1 () (congrArg Value.bool he)
  · refine GX.wR ?_; intros
    have he : decide (xs = ys) = false := decide_eq_false fun e => hl (by rw [e])
    exact rt1 () (congrArg Value.bool he)

end Go.Proofs.YtomadjefdghliaaGreat

/- The walks over what compares runs. -/
namespace Go.Proofs.YtomadjefdghliaaGreat
open Go Go.RR Go.RX Go.GX Go.Api Go.RiseM Go.ReachM Go.RtM
attribute [local irreducible] wpList Code.wp wpPlan Exit.then Exit.inBlock bodyPost NoPanic Went GX.Post GX.Again GX.Meet GX.RowR GX.Own GX.Owns GX.Box GX.Sl GX.Pt GX.Ag GX.MapR GX.Kept GX.Pin wpT GoK AtEnd Both
theorem same10_spec (c1 c2 : List Value) (x y : Api.Beh) : Does Tryz.prog 16 [.agg c1.toArray, .agg c2.toArray] [Ag tyBeh c1 x, Ag tyBeh c2 y] [] (fun _ : Unit => .bool (decide (x = y))) (fun _ => []) (fun _ => []) := by
  refine enter Tryz.func16 rfl Tryz.ntmps16 rfl fun b => ?_
  obtain ⟨e1, d1, o1, s1⟩ := x
  obtain ⟨e2, d2, o2, s2⟩ := y
  by_cases h1 : e1 = e2
  · by_cases h2 : d1 = d2
    · by_cases h3 : s1 = s2
      · refine GX.wR ?_; intros
        refine GX.nmS 26 ?_; rintro a26 c26 rfl rfl
        refine GX.nmS 28 ?_; rintro a28 c28 rfl rfl
        refine GX.o (cl (ints10_same a26 a28 c26 c28 o1 o2) fun _ => ?_)
        refine GX.wR ?_; intros
        refine rt1 () ?_
        congr 1
        rw [decide_eq_decide]
        subst h1 h2 h3
        simp
      · refine GX.wR ?_; intros
        exact rt1 () (vN fun h => h3 (by injection h))
    · refine GX.wR ?_; intros
      exact rt1 () (vN fun h => h2 (by injection h))
  · refine GX.wR ?_; intros
    exact rt1 () (vN fun h => h1 (by injection h))
theorem same29_spec30 (c1 c2 : List Value) (x y : Api.Ran) : Does Tryz.prog 8 [.agg c1.toArray, .agg c2.toArray] [Ag tyRan c1 x, Ag tyRan c2 y] [] (fun _ : Unit => .bool (decide (x = y))) (fun _ => []) (fun _ => []) := by
  refine enter Tryz.func8 rfl Tryz.ntmps8 rfl fun b => ?_
  obtain ⟨b1, m1, g1, l1, p1, s1, t1⟩ := x
  obtain ⟨b2, m2, g2, l2, p2, s2, t2⟩ := y
  refine GX.wR ?_; intros
  refine GX.nmA 6 ?_; rintro c6 rfl
  refine GX.nmA 8 ?_; rintro c8 rfl
  refine GX.o (cl (same10_spec c6 c8 b1 b2) fun _ => ?_)
  by_cases h0 : b1 = b2
  · by_cases h1 : m1 = m2
    · by_cases h2 : g1 = g2
      · by_cases h3 : l1 = l2
        · by_cases h4 : p1 = p2
          · by_cases h5 : s1 = s2
            · refine GX.wR ?_; intros
              refine rt1 () ?_
              congr 1
              rw [decide_eq_decide]
              subst h0 h1 h2 h3 h4 h5
              simp
            · refine GX.wR ?_; intros
              exact rt1 () (vN fun h => h5 (by injection h))
          · refine GX.wR ?_; intros
            exact rt1 () (vN fun h => h4 (by injection h))
        · refine GX.wR ?_; intros
          exact rt1 () (vN fun h => h3 (by injection h))
      · refine GX.wR ?_; intros
        exact rt1 () (vN fun h => h2 (by injection h))
    · refine GX.wR ?_; intros
      exact rt1 () (vN fun h => h1 (by injection h))
  · refine GX.wR ?_; intros
    exact rt1 () (vN fun h => h0 (by injection h))
theorem begins_spec (ao1 ao2 : Option Addr) (cap1 cap2 : Nat) (xs ys : List Int) : Does Tryz.prog 12 [.slice ao1 xs.length cap1, .slice ao2 ys.length cap2] [Sl Ty.int ao1 cap1 xs, Sl Ty.int ao2 cap2 ys] []
    (fun _ : Unit => .bool (decide (xs <+: ys))) (fun _ => []) (fun _ => []) := by
  refine enter Tryz.func12 rfl Tryz.ntmps12 rfl fun b => ?_
  refine sln ao2 fun _ _ _ => ?_
  by_cases hl : xs.length ≤ ys.length
  · have e : ((xs.length : Int)).toNat = xs.length := Int.toNat_natCast _
    refine GX.wR ?_; intros
    rw [e]
    refine GX.nmS 15 ?_; rintro a15 c15 rfl rfl
    refine GX.o (cl (ints10_same ao1 a15 cap1 c15 xs (ys.take xs.length)) fun _ => ?_)
    refine GX.wR ?_; intros
    refine rt1 () ?_
    congr 1
    rw [decide_eq_decide, List.prefix_iff_eq_take]
  · refine GX.wR ?_; intros
    exact rt1 () (vN fun h => hl h.length_le)
end Go.Proofs.YtomadjefdghliaaGreat
