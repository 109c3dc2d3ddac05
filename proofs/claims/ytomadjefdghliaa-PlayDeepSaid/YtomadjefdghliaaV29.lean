import Derived.Test.YtomadjefdghliaaV10
import Derived.Test.YtomadjefdghliaaV25
import Derived.Test.YtomadjefdghliaaV26
import Derived.Test.YtomadjefdghliaaV28
/- Target programs and units as structs: their cells, brought up. No program in sight. -/
namespace Go.GX
open Go Go.RowKit Go.RR Go.RX Go.Api
section
variable {n : Nat} {env : Env} {b : Base} {ps : List Pf} {hp : List Res} {K : Act → World → Prop}
theorem slice_rd {α : Type} {e : Ty α} {F : Nat → Prop} {w : World} {cs : List Value} {xs : List α} (h : (Ty.slice e).rd F w cs xs) : ∃ ao cap, cs = [.slice ao xs.length cap] ∧ (Sl e ao cap xs).says F w := by
  obtain ⟨ao, cap, h1, h2⟩ := h
  exact ⟨ao, cap, h1, h2⟩
theorem opRTg (cs : List Value) {t : RTg} [hf : FAg cs ps tyRTg t] (h : ∀ aC cC aG cG aU cU, cs = [.slice aC t.classes.length cC, .slice aG t.globals.length cG, .slice aU t.units.length cU, .int .i64 t.main] → G n env b (Sl tyLayout aC cC t.classes :: Sl Ty.int aG cG t.globals :: Sl tyUnt aU cU t.units :: ps) hp K) : G n env b ps hp K := by
  constructor
  rintro w ⟨F, s⟩
  obtain ⟨c1, r1, e1, h1, c2, r2, e2, h2, c3, r3, e3, h3, c4, r4, e4, h4, h5⟩ : tyRTg.rd F w cs t := s.fs _ hf.mem
  obtain ⟨aC, cC, rfl, k1⟩ := slice_rd h1
  obtain ⟨aG, cG, rfl, k2⟩ := slice_rd h2
  obtain ⟨aU, cU, rfl, k3⟩ := slice_rd h3
  have h4 : c4 = [.int .i64 t.main] := h4
  have h5 : r4 = [] := h5
  refine (h aC cC aG cG aU cU (by rw [e1, e2, e3, e4, h4, h5]; rfl)).run w ⟨F, s.upd, s.lt, s.old, fun p hp => ?_, s.rs, s.apF, s.apart, s.on⟩
  rcases List.mem_cons.1 hp with rfl | hp
  · exact k1
  rcases List.mem_cons.1 hp with rfl | hp
  · exact k2
  rcases List.mem_cons.1 hp with rfl | hp
  · exact k3
  · exact s.fs p hp
end
end Go.GX

/- The walk over play's Run. -/
namespace Go.Proofs.Ytomadjefdghliaa
open Go Go.RR Go.RX Go.GX Go.Api Go.RtM
attribute [local irreducible] wpList Code.wp wpPlan Exit.then Exit.inBlock bodyPost NoPanic Went GX.Post GX.Again GX.Meet GX.RowR GX.Own GX.Owns GX.Box GX.Sl GX.Pt GX.Ag GX.MapR GX.Star GX.Kept GX.Pin wpT GoK AtEnd Both
def ran0 : Api.Ran := ⟨⟨0, 0, [], 0⟩, 0, 0, 0, 0, 0, 0⟩
/-- What a run is. -/
noncomputable def playP (t : RTg) (inp : List Int) (fuel : Int) : Api.Ran := if RightP t then ranP t (glob t) inp fuel else ran0
structure RnS where
  p : Nat
  k : MK
theorem run_spec (cs : List Value) (t : RTg) (hs : Small t) (hT : Tame30 t) (ai : Option Addr) (ci : Nat) (inp : List Int) (fuel : Int) (hf : fuel ≤ 100000) :
    Does Try.prog 5 [.agg cs.toArray, .slice ai inp.length ci, .int .i64 fuel] [Ag tyRTg cs t, Sl Ty.int ai ci inp] [] (fun s : List Value => .agg s.toArray) (fun s => [Ag tyRan s (playP t inp fuel)]) (fun _ => []) := by
  refine enter Try.func5 rfl Try.ntmps5 rfl fun _ => ?_
  refine GX.wp_R ?_; intros
  refine GX.nmP 3 ?_; rintro b3 rfl
  refine GX.nmP 6 ?_; rintro b6 rfl
  refine GX.nmA 8 ?_; rintro c8 rfl
  refine GX.o (cl (right_spec c8 t hs) fun _ => ?_)
  by_cases hRt : RightP t
  · rw [show playP t inp fuel = ranP t (glob t) inp fuel from if_pos hRt]
    have hRn := Classical.not_not.2 hRt
    refine GX.wp_RN ?_; intros
    have hgl := hRt.1.2.1
    refine GX.cut (σ := RnS) (fun s => [(2, .int .i64 fuel), (3, .pointer (some ⟨b3, 0, none⟩)), (6, .pointer (some ⟨b6, 0, none⟩)), (7, .pointer (some ⟨s.p, 0, none⟩))]) (fun s => [Sl Ty.int s.k.aL s.k.cL (glob t), Sl tyLayout s.k.aC s.k.cC t.classes, Sl tyUnt s.k.aU s.k.cU t.units])
      (fun s => [RowR s.p 51 [.slice s.k.aC t.classes.length s.k.cC, .slice s.k.aG t.globals.length s.k.cG, .slice s.k.aU t.units.length s.k.cU, .int .i64 t.main, .slice s.k.aL (glob t).length s.k.cL, .pointer (some ⟨s.k.tp, 0, none⟩), .int .i64 0, .slice (⟨ai, inp.length, ci, none, 0, 0, 1, 0, 0, none, 0, 0, 0, 0⟩ : MV).ai (⟨ai, inp.length, ci, none, 0, 0, 1, 0, 0, none, 0, 0, 0, 0⟩ : MV).ni (⟨ai, inp.length, ci, none, 0, 0, 1, 0, 0, none, 0, 0, 0, 0⟩ : MV).ci, .slice (some ⟨s.k.gb, 0, none⟩) t.globals.length t.globals.length, .slice (⟨ai, inp.length, ci, none, 0, 0, 1, 0, 0, none, 0, 0, 0, 0⟩ : MV).af (⟨ai, inp.length, ci, none, 0, 0, 1, 0, 0, none, 0, 0, 0, 0⟩ : MV).nf (⟨ai, inp.length, ci, none, 0, 0, 1, 0, 0, none, 0, 0, 0, 0⟩ : MV).cf, .int .i64 (⟨ai, inp.length, ci, none, 0, 0, 1, 0, 0, none, 0, 0, 0, 0⟩ : MV).bound, .map (some s.k.om), .int .i64 (⟨ai, inp.length, ci, none, 0, 0, 1, 0, 0, none, 0, 0, 0, 0⟩ : MV).en, .int .i64 (⟨ai, inp.length, ci, none, 0, 0, 1, 0, 0, none, 0, 0, 0, 0⟩ : MV).code, .slice (⟨ai, inp.length, ci, none, 0, 0, 1, 0, 0, none, 0, 0, 0, 0⟩ : MV).ao (⟨ai, inp.length, ci, none, 0, 0, 1, 0, 0, none, 0, 0, 0, 0⟩ : MV).no (⟨ai, inp.length, ci, none, 0, 0, 1, 0, 0, none, 0, 0, 0, 0⟩ : MV).co, .int .i64 (⟨ai, inp.length, ci, none, 0, 0, 1, 0, 0, none, 0, 0, 0, 0⟩ : MV).steps, .int .i64 ran0.made, .int .i64 ran0.gone, .int .i64 ran0.live, .int .i64 ran0.peak, .int .i64 (⟨ai, inp.length, ci, none, 0, 0, 1, 0, 0, none, 0, 0, 0, 0⟩ : MV).slack, .int .i64 ran0.most], RowR s.k.tp 69 [.slice (TabC.mk none 0 [] none 0 [] 0 0 0 0).aR (TabC.mk none 0 [] none 0 [] 0 0 0 0).R.length (TabC.mk none 0 [] none 0 [] 0 0 0 0).cR, .slice (TabC.mk none 0 [] none 0 [] 0 0 0 0).aL (TabC.mk none 0 [] none 0 [] 0 0 0 0).L.length (TabC.mk none 0 [] none 0 [] 0 0 0 0).cL, .int .i64 (TabC.mk none 0 [] none 0 [] 0 0 0 0).gone, .int .i64 (TabC.mk none 0 [] none 0 [] 0 0 0 0).peak, .int .i64 (TabC.mk none 0 [] none 0 [] 0 0 0 0).many, .int .i64 (TabC.mk none 0 [] none 0 [] 0 0 0 0).most], GX.Own 73 tyRegion (TabC.mk none 0 [] none 0 [] 0 0 0 0).aR (TabC.mk none 0 [] none 0 [] 0 0 0 0).cR (TabC.mk none 0 [] none 0 [] 0 0 0 0).R, GX.Own 116 tyThing (TabC.mk none 0 [] none 0 [] 0 0 0 0).aL (TabC.mk none 0 [] none 0 [] 0 0 0 0).cL ((TabC.mk none 0 [] none 0 [] 0 0 0 0).L.map thg), Owns 3 Ty.int ((TabC.mk none 0 [] none 0 [] 0 0 0 0).L.map (fun x : Th => x.2)), GX.Own 3 Ty.int (some ⟨s.k.gb, 0, none⟩) t.globals.length (List.replicate t.globals.length 0), GX.MapR s.k.om opsF, Box 37 tyRan b6 ran0]) (fun _ => True) ?_ (fun s _ => ?_)
    · refine GX.drawnT (fun j => !(List.contains [] j)) (.br [(0, true), (1, true), (4, true), (5, true), (6, true), (7, true)] (.alt 2 (.br [] (.alt 3 (.br [] (.alt 8 (.lin [(9, false), (10, true), (11, false), (12, true)]) (.alt 9 (.lin [(8, false), (10, true), (11, false), (12, true)]) .nil))) (.alt 8 (.lin [(3, false), (9, false), (10, true), (11, false), (12, true)]) .nil))) (.alt 8 (.lin [(2, false), (3, false), (9, false), (10, true), (11, false), (12, true)]) .nil))) (by kernel_rfl) (by kernel_rfl) ?_; intro wd F hW hR
      refine GX.wp_TA ?_; intros
      refine GX.nmA 12 ?_; rintro c12 rfl
      refine GX.nmA 13 ?_; rintro c13 rfl
      refine opRTg c12 fun aC cC aG cG aU cU e12 => ?_
      subst e12
      repeat' first
        | (refine GX.treeA ?_ ?_ <;> (refine GX.wp_TA ?_; intros))
        | (refine GX.gok ?_; refine (cl (global_spec c13 t hs) fun s => ?_); obtain ⟨aL, cL⟩ := s; dsimp only; refine GX.wp_TA ?_; intros)
        | (refine GX.gok ?_; refine (cl tnew_spec fun tp => ?_); refine GX.wp_TA ?_; intros)
        | (refine GX.gok ?_; refine (cl steps_spec fun om => ?_); refine GX.wp_TA ?_; intros)
        | (refine GX.gow ?_; refine (cl (global_spec c13 t hs) fun s => ?_); obtain ⟨aL, cL⟩ := s; dsimp only; refine GX.wp_TA ?_; intros)
        | (refine GX.gow ?_; refine (cl tnew_spec fun tp => ?_); refine GX.wp_TA ?_; intros)
        | (refine GX.gow ?_; refine (cl steps_spec fun om => ?_); refine GX.wp_TA ?_; intros)
      all_goals (
        refine GX.wp_R ?_; intros
        refine GX.nmP 7 ?_; rintro p rfl
        refine GX.nmB 20 ?_; rintro gb rfl
        exact GX.meet ⟨p, ⟨aC, cC, aG, cG, aU, cU, aL, cL, tp, gb, om⟩⟩ ⟨rfl, rfl, rfl, rfl, trivial⟩ trivial)
    obtain ⟨p, k⟩ := s
    dsimp only
    have hm := hRt.2.1
    unfold MainOk at hm
    cases hg : gt t.units t.main with
    | none => rw [hg] at hm; exact hm.elim
    | some u =>
    obtain ⟨j, hj, hjl, hju⟩ := gt_some hg
    have hum : u ∈ t.units := gt_mem hg
    have huv : u.vars.length ≤ 4000 := (right_unit hRt hum).1.1.2.2.2
    have huo := hT.owns u hum
    obtain ⟨v0, hv0⟩ : ∃ v0 : MV, v0 = ⟨ai, inp.length, ci, none, 0, 0, 1, 0, 0, none, 0, 0, 0, 0⟩ := ⟨_, rfl⟩
    refine GX.wp_R ?_; intros
    refine GX.o (cl (tMake_spec k.tp TInv.zero (by show 0 ≤ 1000000000; omega)) fun s => ?_)
    obtain ⟨c1, hT1⟩ := s
    dsimp only
    refine GX.wp_R ?_; intros
    refine GX.o (cl (enter_spec t p k ⟨ai, inp.length, ci, none, 0, 0, 1, 0, 0, none, 0, 0, 0, 0⟩ j t.main hj u (-1) hju (by omega)) fun s => ?_)
    obtain ⟨bl, vb, mb⟩ := s
    dsimp only [newC, newF]
    refine GX.wp_R ?_; intros
    refine ownNil 54 Ty.ptr ?_
    refine GX.o (cl (push_spec t p k ⟨ai, inp.length, ci, none, 0, 0, 1, 0, 0, none, 0, 0, 0, 0⟩ [] ⟨bl, vb, u.vars.length, mb, fun _ => none⟩ ⟨t.main, 0, List.replicate u.vars.length 0, -1, fun _ => 0⟩ j u hju hj rfl (by simp) (by dsimp only; omega) (by omega)) fun s => ?_)
    obtain ⟨af, cf⟩ := s
    dsimp only
    refine GX.wp_R ?_; intros
    refine GX.o (cl (slack_spec t p k ⟨ai, inp.length, ci, af, 1, cf, 1 + u.owns.length, 0, 0, none, 0, 0, 0, 0⟩ c1 Tb.zero.make hT1 (by dsimp only; omega) (by show 1 ≤ 1000000000; omega)) fun _ => ?_)
    dsimp only
    refine GX.wp_R ?_; intros
    refine GX.starN ?_
    refine GX.starI (l := [RowR (FrC.mk bl vb u.vars.length mb (fun _ => none)).bl 76 [.int .i64 (Fr.mk t.main 0 (List.replicate u.vars.length 0) (-1) (fun _ => 0)).u, .int .i64 (Fr.mk t.main 0 (List.replicate u.vars.length 0) (-1) (fun _ => 0)).pc, .slice (some ⟨(FrC.mk bl vb u.vars.length mb (fun _ => none)).vb, 0, none⟩) (FrC.mk bl vb u.vars.length mb (fun _ => none)).n (FrC.mk bl vb u.vars.length mb (fun _ => none)).n, .int .i64 (Fr.mk t.main 0 (List.replicate u.vars.length 0) (-1) (fun _ => 0)).into, .map (some (FrC.mk bl vb u.vars.length mb (fun _ => none)).mb)], GX.Own 3 Ty.int (some ⟨(FrC.mk bl vb u.vars.length mb (fun _ => none)).vb, 0, none⟩) (FrC.mk bl vb u.vars.length mb (fun _ => none)).n (Fr.mk t.main 0 (List.replicate u.vars.length 0) (-1) (fun _ => 0)).vars, GX.MapR mb (fun _ => none)]) (m := []) ?_
    refine ownNil 3 Ty.int ?_
    have hbe : begin_ t inp = ⟨Tb.zero.make, inp, List.replicate t.globals.length 0, [⟨t.main, 0, List.replicate u.vars.length 0, -1, fun _ => 0⟩], 0, 0, [], 0, 1 + u.owns.length - (liveN Tb.zero.make.B : Int)⟩ := by
      unfold begin_ start Ms.room bound ownsN
      dsimp only
      rw [hg]
      simp [hg]
    obtain ⟨hok, hbn⟩ := begin_ok (inp := inp) hRt
    unfold ranP
    rw [hbe] at hok hbn ⊢
    have hI : MInv t ⟨⟨ai, inp.length, ci, af, 1, cf, 1 + u.owns.length, 0, 0, none, 0, 0, 0, 1 + u.owns.length - (liveN Tb.zero.make.B : Int)⟩, [⟨bl, vb, u.vars.length, mb, fun _ => none⟩], c1⟩ ⟨Tb.zero.make, inp, List.replicate t.globals.length 0, [⟨t.main, 0, List.replicate u.vars.length 0, -1, fun _ => 0⟩], 0, 0, [], 0, 1 + u.owns.length - (liveN Tb.zero.make.B : Int)⟩ := by
      refine ⟨hT1, rfl, ⟨⟨List.length_replicate, fun _ => rfl⟩, trivial⟩, rfl, rfl, rfl, rfl, rfl, rfl, ?_⟩
      show (1 : Int) + u.owns.length = bound t [_]
      rw [bound_cons]
      unfold ownsN bound
      dsimp only
      rw [hg]
      simp
    refine GX.o (cl (goOn_spec t p k hRt hT (max fuel 0) (by omega) _ _ hI hok hbn (max fuel 0).toNat (by show 0 + (((max fuel 0).toNat : Nat) : Int) = max fuel 0; omega)) fun s => ?_)
    obtain ⟨⟨v', xs', c'⟩, hI', hok', hbn', hst'⟩ := s
    dsimp only
    generalize runM t (glob t) (max fuel 0).toNat _ = Mf at hI' hok' hbn' hst' ⊢
    have hB1 : Mf.tb.B.length ≤ 1000000000 := by have := hbn'.B; omega
    have hL1 : Mf.tb.L.length ≤ 1000000000 := by have := hbn'.L; omega
    refine GX.wp_R ?_; intros
    refine GX.o (cl (clears_spec t p k v' c' Mf.tb hI'.tab hB1 hL1) fun s => ?_)
    obtain ⟨c2, hT2⟩ := s
    dsimp only
    have hcl : Mf.clear.ran = ⟨⟨v'.en, v'.code, Mf.out, v'.steps⟩, (clearT Mf.tb v'.en).B.length, ((clearT Mf.tb v'.en).B.length : Int) - (liveN (clearT Mf.tb v'.en).B : Int), ((clearT Mf.tb v'.en).B.length : Int) - (((clearT Mf.tb v'.en).B.length : Int) - (liveN (clearT Mf.tb v'.en).B : Int)), (clearT Mf.tb v'.en).peak, v'.slack, (clearT Mf.tb v'.en).most⟩ := by
      rw [show v'.en = Mf.en from hI'.en, show v'.code = Mf.code from hI'.code, show v'.steps = Mf.steps from hI'.steps, show v'.slack = Mf.slack from hI'.slack, show ∀ a b : Int, a - (a - b) = b by intro a b; omega]
      unfold Ms.clear Ms.ran clearT
      split
      · rfl
      · split <;> rfl
    have hBl : (clearT Mf.tb v'.en).B.length = Mf.tb.B.length := by
      unfold clearT
      split
      · exact (rem_len _ _).1
      · split
        · exact (remAll_len _ _).1
        · rfl
    rw [hcl]
    generalize clearT Mf.tb v'.en = Tf at hT2 hBl ⊢
    have hlv : liveN Tf.B ≤ Tf.B.length := List.countP_le_length
    refine GX.wp_R ?_; intros
    refine GX.o (cl (tCount_spec k.tp hT2) fun _ => ?_)
    refine GX.wp_R ?_; intros
    refine GX.drawn1 (RowR p 51 _) (fun j => !(List.contains [15] j)) [(0, true), (1, true), (2, true), (3, true), (4, true), (5, true), (6, true), (7, true), (8, true), (9, true), (10, true), (11, true), (12, true), (13, true), (14, true), (15, false)] rfl (by kernel_rfl) (by kernel_rfl) (by first | ((repeat (first | apply Go.GX.SelR.nil | apply Go.GX.SelR.cons | (with_reducible apply Go.GX.TakeR.head) | apply Go.GX.TakeR.tail)); done) | (repeat (first | apply Go.GX.SelR.nil | apply Go.GX.SelR.cons | apply Go.GX.TakeR.head | apply Go.GX.TakeR.tail))) ?_; intro wd F hW hR
    refine GX.wp_T ?_; intros
    refine GX.unpin (RowR p 51 _) ?_
    refine GX.wp_T ?_; intros
    refine GX.wp_R ?_; intros
    refine GX.o (cl (tThings_spec k.tp hT2) fun _ => ?_)
    refine GX.wp_R ?_; intros
    rw [show v'.no = Mf.out.length from hI'.no]
    refine GX.o (lrO [.int .i64 v'.en, .int .i64 v'.code, .slice v'.ao Mf.out.length v'.co, .int .i64 v'.steps, .int .i64 (Tf.B.length : Int), .int .i64 ((Tf.B.length : Int) - (liveN Tf.B : Int)), .int .i64 ((Tf.B.length : Int) - ((Tf.B.length : Int) - (liveN Tf.B : Int))), .int .i64 Tf.peak, .int .i64 v'.slack, .int .i64 Tf.most] ?_)
    refine frz v'.ao ?_
    refine GX.wp_R ?_; intros
    exact rt1B (fun cs => cs) (fun _ => rfl)
  · rw [show playP t inp fuel = ran0 from if_neg hRt]
    refine GX.wp_R ?_; intros
    exact rt1B (fun cs => cs) (fun _ => rfl)
end Go.Proofs.Ytomadjefdghliaa

/- Programs such as the laws speak of, plainly. No program in sight. -/
namespace Go.Proofs.Ytomadjefdghliaa
open Go.Api Go.RiseM Go.ReachM Go.RtM
/-- A unit such as the laws speak of. -/
def TinyU (u : Unt) : Prop := (u.vars.length ≤ 150 ∧ u.ins.length ≤ 400 ∧ u.takes.length ≤ 80 ∧ u.owns.length ≤ 80) ∧ ∀ i ∈ u.ins, i.args.length ≤ 80
instance (u : Unt) : Decidable (TinyU u) := by unfold TinyU; infer_instance
def Tiny (t : RTg) : Prop := (t.classes.length ≤ 80 ∧ t.globals.length ≤ 20 ∧ t.units.length ≤ 20) ∧ (∀ L ∈ t.classes, L.refs.length ≤ 20) ∧ ∀ u ∈ t.units, TinyU u
instance (t : RTg) : Decidable (Tiny t) := by unfold Tiny; infer_instance
theorem sum_le {l : List Nat} {k : Nat} (h : ∀ x ∈ l, x ≤ k) : l.sum ≤ l.length * k := by
  induction l with
  | nil => simp
  | cons x l ih =>
    have h1 := h x (by simp)
    have h2 := ih fun y hy => h y (by simp [hy])
    rw [List.sum_cons, List.length_cons, Nat.add_mul]; omega
theorem Tiny.small {t : RTg} (h : Tiny t) : Small t := by
  refine ⟨by have := h.1.1; omega, ?_, by have := h.1.2.1; omega, by have := h.1.2.2; omega, fun u hu => ?_⟩
  · have h1 : ∀ x ∈ (flds t).map List.length, x ≤ 20 := fun x hx => by
      obtain ⟨l, hl, rfl⟩ := List.mem_map.1 hx
      obtain ⟨L, hL, rfl⟩ := List.mem_map.1 hl
      exact h.2.1 L hL
    have h2 := sum_le h1
    rw [List.length_map, flds_len] at h2
    have := h.1.1
    omega
  · have := (h.2.2 u hu).1; omega
end Go.Proofs.Ytomadjefdghliaa

/- The walks over 'known' and 'one' of chapter 30's laws, and over what compares runs. -/
namespace Go.Proofs.Ytomadjefdghliaa
open Go Go.RR Go.RX Go.GX Go.Api Go.RiseM Go.ReachM Go.RtM Go.OneM
attribute [local irreducible] wpList Code.wp wpPlan Exit.then Exit.inBlock bodyPost NoPanic Went GX.Post GX.Again GX.Meet GX.RowR GX.Own GX.Owns GX.Box GX.Sl GX.Pt GX.Ag GX.MapR GX.Kept GX.Pin wpT GoK AtEnd Both
theorem one30_spec (ao : Option Addr) (cap : Nat) (ins : List Ins) : Does Try.prog 19 [.slice ao ins.length cap] [Sl tyIns ao cap ins] [] (fun s : List Value => .agg s.toArray) (fun s => [Ag tyRTg s (oneT ins)]) (fun _ => []) := by
  refine enter Try.func19 rfl Try.ntmps19 rfl fun b => ?_
  refine GX.wR ?_; intros
  exact rt1B id (fun _ => rfl)
theorem one30_tiny {ins : List Ins} (h : OneFew ins) : Tiny (oneT ins) := by
  refine ⟨⟨by show 2 ≤ 80; omega, by show 0 ≤ 20; omega, by show 1 ≤ 20; omega⟩, fun L hL => ?_, fun u hu => ?_⟩
  · have hL : L = ⟨false, [-2]⟩ ∨ L = ⟨false, [0]⟩ := by simpa [oneT] using hL
    rcases hL with rfl | rfl
    · show 1 ≤ 20; omega
    · show 1 ≤ 20; omega
  · obtain rfl : u = oneU ins := by simpa [oneT] using hu
    exact ⟨⟨by show 3 ≤ 150; omega, h.1, by show 0 ≤ 80; omega, by show 2 ≤ 80; omega⟩, h.2⟩
theorem Tiny.tame {t : RTg} (h : Tiny t) : Tame30 t := ⟨fun u hu => by have := (h.2.2 u hu).1.2.2.2; omega, fun u hu => (h.2.2 u hu).2⟩
def kk : List Ins := [⟨21, 0, 0, 0, 0, [0]⟩, ⟨11, 0, 0, 0, 0, []⟩, ⟨22, 0, 0, 0, 0, [0]⟩, ⟨18, -1, 0, 0, 0, []⟩]
set_option maxRecDepth 10000 in
theorem kk_few : OneFew kk ∧ OneOk kk := by decide +kernel
set_option maxRecDepth 10000 in
theorem kk_run : ranP (oneT kk) [] [] 9 = ⟨⟨1, 0, [], 4⟩, 2, 2, 0, 2, 1, 1⟩ := by decide +kernel
theorem playOne {ins : List Ins} (h : OneOk ins) (inp : List Int) (fuel : Int) : playP (oneT ins) inp fuel = ranP (oneT ins) [] inp fuel := by
  unfold playP
  rw [if_pos (one_right.2 h), one_glob]
theorem known30_spec : Does Try.prog 6 [] [] [] (fun _ : Unit => .bool true) (fun _ => []) (fun _ => []) := by
  refine enter Try.func6 rfl Try.ntmps6 rfl fun b => ?_
  have hT := one30_tiny kk_few.1
  have hp : playP (oneT kk) [] 9 = ⟨⟨1, 0, [], 4⟩, 2, 2, 0, 2, 1, 1⟩ := (playOne kk_few.2 [] 9).trans kk_run
  refine GX.wR ?_; intros
  refine GX.nmB 8 ?_; rintro b8 rfl
  refine GX.o (cl (one30_spec (some ⟨b8, 0, none⟩) 4 kk) fun s => ?_)
  refine GX.wR ?_; intros
  refine slNil Ty.int ?_
  refine GX.o (cl (run_spec s (oneT kk) hT.small hT.tame none 0 [] 9 (by omega)) fun s2 => ?_)
  obtain ⟨y, hy⟩ : ∃ y, y = playP (oneT kk) [] 9 := ⟨_, rfl⟩
  rw [← hy]
  rw [hp] at hy
  have h1 : y.beh.end_ = 1 := by rw [hy]
  have h2 : y.beh.steps = 4 := by rw [hy]
  have h3 : y.made = 2 := by rw [hy]
  have h4 : y.gone = 2 := by rw [hy]
  have h5 : y.live = 0 := by rw [hy]
  have h6 : y.peak = 2 := by rw [hy]
  have h7 : y.most = 1 := by rw [hy]
  have h8 : y.slack = 1 := by rw [hy]
  refine GX.wR ?_; intros
  exact rt1 () (vY h8).symm
end Go.Proofs.Ytomadjefdghliaa

/- What a run does to its regions, counted, plainly. No program in sight. -/
namespace Go.Proofs.Ytomadjefdghliaa
open Go.Api Go.RtM Go.RiseM
/-- What becomes of a table in a run. -/
inductive TR (T : Tb) : Tb → Prop where
  | refl : TR T T
  | make {T' : Tb} : TR T T' → TR T T'.make
  | rem {T' : Tb} (r : Int) : r ≠ 1 → TR T T' → TR T (T'.rem r)
  | add {T' : Tb} (r n : Int) : TR T T' → TR T (T'.add r n)
  | put {T' : Tb} (a b c : Int) : TR T T' → TR T (T'.put a b c)
theorem TR.trans {T T1 T2 : Tb} (h1 : TR T T1) (h2 : TR T1 T2) : TR T T2 := by
  induction h2 with
  | refl => exact h1
  | make _ ih => exact ih.make
  | rem r hr _ ih => exact ih.rem r hr
  | add r n _ ih => exact ih.add r n
  | put a b c _ ih => exact ih.put a b c
/-- How many are gone. -/
def goneN (B : List Bool) : Nat := B.length - liveN B
theorem liveN_le (B : List Bool) : liveN B ≤ B.length := List.countP_le_length
/-- More and more. -/
structure TMono (T T' : Tb) : Prop where
  len : T.B.length ≤ T'.B.length
  gone : goneN T.B ≤ goneN T'.B
  peak : T.peak ≤ T'.peak
  most : T.most ≤ T'.most
theorem TMono.refl (T : Tb) : TMono T T := ⟨Nat.le_refl _, Nat.le_refl _, Int.le_refl _, Int.le_refl _⟩
theorem TMono.trans {a b c : Tb} (h1 : TMono a b) (h2 : TMono b c) : TMono a c := ⟨Nat.le_trans h1.len h2.len, Nat.le_trans h1.gone h2.gone, Int.le_trans h1.peak h2.peak, Int.le_trans h1.most h2.most⟩
theorem hasB_at {B : List Bool} {r : Int} (h : hasB B r = true) : ∃ k : Nat, r = (k : Int) + 1 ∧ B[k]? = some true := by
  unfold hasB at h
  simp only [Bool.and_eq_true, decide_eq_true_eq] at h
  obtain ⟨h1, h2⟩ := h
  refine ⟨(r - 1).toNat, by omega, ?_⟩
  cases hx : B[(r - 1).toNat]? with
  | none => rw [hx] at h2; simp at h2
  | some b => rw [hx] at h2; simp at h2; rw [h2]
theorem rem_mono (T : Tb) (r : Int) : TMono T (T.rem r) := by
  unfold Tb.rem
  split
  · rename_i h
    obtain ⟨k, rfl, hk⟩ := hasB_at h
    have h1 := liveN_set hk
    rw [show ((k : Int) + 1 - 1).toNat = k by omega]
    refine ⟨by rw [List.length_set]; exact Nat.le_refl _, ?_, Int.le_refl _, Int.le_refl _⟩
    unfold goneN
    dsimp only
    rw [List.length_set]
    omega
  · exact .refl T
theorem make_mono (T : Tb) : TMono T T.make := by
  refine ⟨?_, ?_, ?_, Int.le_refl _⟩
  · show _ ≤ (T.B ++ [true]).length; rw [List.length_append]; omega
  · show goneN T.B ≤ goneN (T.B ++ [true])
    unfold goneN
    rw [liveN_app, List.length_append]
    show _ ≤ T.B.length + 1 - (liveN T.B + 1)
    omega
  · show T.peak ≤ max _ _; omega
theorem add_mono (T : Tb) (r n : Int) : TMono T (T.add r n) := by
  unfold Tb.add
  split
  · exact ⟨Nat.le_refl _, Nat.le_refl _, Int.le_refl _, by show T.most ≤ max _ _; omega⟩
  · exact .refl T
theorem put_mono (T : Tb) (a b c : Int) : TMono T (T.put a b c) := ⟨Nat.le_refl _, Nat.le_refl _, Int.le_refl _, Int.le_refl _⟩
theorem TR.mono {T T' : Tb} (h : TR T T') : TMono T T' := by
  induction h with
  | refl => exact .refl _
  | make _ ih => exact ih.trans (make_mono _)
  | rem r _ _ ih => exact ih.trans (rem_mono _ r)
  | add r n _ ih => exact ih.trans (add_mono _ r n)
  | put a b c _ ih => exact ih.trans (put_mono _ a b c)
/-- The global region is there; peak and most are what they say. -/
structure TOk (T : Tb) : Prop where
  one : T.B[0]? = some true
  lo : 1 ≤ T.peak
  live : (liveN T.B : Int) ≤ T.peak
  hi : T.peak ≤ (T.B.length : Int)
  most : T.most ≤ (T.L.length : Int)
theorem TR.ok {T T' : Tb} (h : TR T T') (h0 : TOk T) : TOk T' := by
  induction h with
  | refl => exact h0
  | make _ ih =>
    rename_i T' _
    obtain ⟨a, b, c, d, e⟩ := ih
    have hl := liveN_le T'.B
    have hp : T'.make.peak = max T'.peak (liveN (T'.B ++ [true]) : Int) := rfl
    have hB : T'.make.B = T'.B ++ [true] := rfl
    rw [liveN_app] at hp
    refine ⟨?_, by omega, ?_, ?_, e⟩
    · rw [hB, List.getElem?_append_left (by have := (List.getElem?_eq_some_iff.1 a).1; omega)]; exact a
    · rw [hB, liveN_app]; omega
    · rw [hB, List.length_append]; simp only [List.length_singleton]; omega
  | rem r hr _ ih =>
    rename_i T' _
    obtain ⟨a, b, c, d, e⟩ := ih
    unfold Tb.rem
    split
    · rename_i h
      obtain ⟨k, rfl, hk⟩ := hasB_at h
      have h1 := liveN_set hk
      rw [show ((k : Int) + 1 - 1).toNat = k by omega]
      refine ⟨?_, b, by dsimp only; omega, by dsimp only; rw [List.length_set]; exact d, e⟩
      dsimp only
      rw [List.getElem?_set_ne (by omega)]; exact a
    · exact ⟨a, b, c, d, e⟩
  | add r n _ ih =>
    rename_i T' _
    obtain ⟨a, b, c, d, e⟩ := ih
    unfold Tb.add
    split
    · refine ⟨a, b, c, d, ?_⟩
      dsimp only
      have : nowN T'.B (T'.L ++ [(r, List.replicate (cells n) 0)]) ≤ (T'.L ++ [(r, List.replicate (cells n) 0)]).length := List.countP_le_length
      rw [List.length_append] at this ⊢
      simp only [List.length_singleton] at this ⊢
      omega
    · exact ⟨a, b, c, d, e⟩
  | put x y z _ ih =>
    rename_i T' _
    obtain ⟨a, b, c, d, e⟩ := ih
    exact ⟨a, b, c, d, by rw [(tput_len T' x y z).2]; exact e⟩
/-- How a run may end so far. -/
def EnC (e c : Int) : Prop := (e = 0 ∧ c = 0) ∨ (e = 1 ∧ c = 0) ∨ (e = 2 ∧ 1 ≤ c ∧ c ≤ 6) ∨ (e = 4 ∧ c = 0)
def RgOk (m : Int → Int) : Prop := ∀ c, m c ≠ 1
theorem RgOk.upd {m : Int → Int} (h : RgOk m) (c : Int) {r : Int} (hr : r ≠ 1) : RgOk (updI m c r) := fun d => by
  unfold updI
  split
  · exact hr
  · exact h d
theorem crT_tr {T0 : Tb} : ∀ (l : List Int) (T : Tb) (m : Int → Int), TR T0 T → RgOk m → 1 ≤ T.B.length → TR T0 (crT l T m).1 ∧ RgOk (crT l T m).2.1
  | [], T, m, h, hm, _ => ⟨h, hm⟩
  | c :: l, T, m, h, hm, hB => by
    unfold crT
    split
    · exact ⟨h, hm⟩
    · exact crT_tr l T.make _ h.make (hm.upd c (by omega)) (by show 1 ≤ (T.B ++ [true]).length; rw [List.length_append]; omega)
theorem rmT_tr {T0 : Tb} : ∀ (l : List Int) (T : Tb) (m : Int → Int), TR T0 T → RgOk m → TR T0 (rmT l T m).1 ∧ RgOk (rmT l T m).2.1
  | [], T, m, h, hm => ⟨h, hm⟩
  | c :: l, T, m, h, hm => by
    unfold rmT
    split
    · exact ⟨h, hm⟩
    · exact rmT_tr l _ _ (h.rem (m c) (hm c)) (hm.upd c (by omega))
theorem takeR_rg {G : List Int} {B : List Bool} {f : Fr} (hf : RgOk f.regs) : ∀ (l : List Int) (m m' : Int → Int), (∀ c ∈ l, c ∉ G) → RgOk m → takeR G B f l m = some m' → RgOk m'
  | [], m, m', _, hm, h => by cases h; exact hm
  | c :: l, m, m', hl, hm, h => by
    unfold takeR at h
    split at h
    · refine takeR_rg hf l _ m' (fun d hd => hl d (List.mem_cons_of_mem _ hd)) (hm.upd c ?_) h
      rw [show reg G f c = f.regs c from if_neg (hl c List.mem_cons_self)]
      exact hf c
    · cases h
/-- What an operation does. -/
structure GoR (M M' : Ms) : Prop where
  tb : TR M.tb M'.tb
  out : M.out <+: M'.out
  en : EnC M'.en M'.code
  rg : ∀ f ∈ M'.fs, RgOk f.regs
  sl : M'.slack = M.slack
section
variable {M : Ms} {f : Fr} {r : List Fr}
structure GoI (M : Ms) (f : Fr) (r : List Fr) : Prop where
  fs : M.fs = f :: r
  en : M.en = 0
  code : M.code = 0
  rg : ∀ g ∈ M.fs, RgOk g.regs
  B : 1 ≤ M.tb.B.length
theorem GoI.e0 (h : GoI M f r) : EnC M.en M.code := .inl ⟨h.en, h.code⟩
theorem GoI.keep (h : GoI M f r) (f' : Fr) (hf : RgOk f'.regs) {M' : Ms} (h1 : M'.fs = f' :: M.fs.tail) (h2 : TR M.tb M'.tb) (h3 : M.out <+: M'.out) (h4 : EnC M'.en M'.code) (h5 : M'.slack = M.slack) : GoR M M' := by
  refine ⟨h2, h3, h4, fun g hg => ?_, h5⟩
  rw [h1, h.fs] at hg
  rcases List.mem_cons.1 hg with rfl | hg
  · exact hf
  · exact h.rg g (by rw [h.fs]; exact List.mem_cons_of_mem _ hg)
theorem GoI.rgf (h : GoI M f r) : RgOk f.regs := h.rg f (by rw [h.fs]; simp)
theorem GoI.tl (h : GoI M f r) : M.fs = f :: M.fs.tail := by rw [h.fs]; rfl
theorem GoI.var (h : GoI M f r) (n y : Int) : GoR M (M.var f n y) := h.keep { f with vars := setv f.vars n y } h.rgf rfl .refl (List.prefix_refl _) h.e0 rfl
theorem GoI.ends (h : GoI M f r) {e c : Int} (hc : EnC e c) : GoR M (M.ends e c) := h.keep f h.rgf h.tl .refl (List.prefix_refl _) hc rfl
theorem GoI.trapT (h : GoI M f r) {T : Tb} (hT : TR M.tb T) {c : Int} (hc : c = 0 ∨ c = -1 ∨ (1 ≤ c ∧ c ≤ 6)) : GoR M (({ M with tb := T } : Ms).trap c) := by
  unfold Ms.trap
  split
  · exact h.keep f h.rgf h.tl hT (List.prefix_refl _) h.e0 rfl
  · split
    · exact h.keep f h.rgf h.tl hT (List.prefix_refl _) (.inr (.inr (.inr ⟨rfl, rfl⟩))) rfl
    · exact h.keep f h.rgf h.tl hT (List.prefix_refl _) (.inr (.inr (.inl ⟨rfl, by show 1 ≤ c; omega, by show c ≤ 6; omega⟩))) rfl
theorem GoI.trap (h : GoI M f r) {c : Int} (hc : c = 0 ∨ c = -1 ∨ (1 ≤ c ∧ c ≤ 6)) : GoR M (M.trap c) := h.trapT .refl hc
theorem GoI.got (h : GoI M f r) (a : Int) {q : Int × Int} (hc : q.2 = 0 ∨ q.2 = -1 ∨ (1 ≤ q.2 ∧ q.2 ≤ 6)) : GoR M (M.got f a q) := by
  unfold Ms.got
  split
  · exact h.var a _
  · exact h.trap hc
theorem GoI.lies (h : GoI M f r) (G : List Int) (a c n : Int) : GoR M (M.lies G f a c n) := by
  unfold Ms.lies
  split
  · exact h.keep { f with vars := setv f.vars a ((M.tb.L.length + 1 : Nat) : Int) } h.rgf rfl (TR.refl.add _ _) (List.prefix_refl _) h.e0 rfl
  · exact h.ends (.inr (.inr (.inr ⟨rfl, rfl⟩)))
theorem GoI.regs (h : GoI M f r) {q : Tb × (Int → Int) × Bool} (h1 : TR M.tb q.1) (h2 : RgOk q.2.1) : GoR M (M.regs f q) := by
  unfold Ms.regs
  split
  · exact h.keep { f with regs := q.2.1 } h2 rfl h1 (List.prefix_refl _) h.e0 rfl
  · exact h.keep { f with regs := q.2.1 } h2 rfl h1 (List.prefix_refl _) (.inr (.inr (.inr ⟨rfl, rfl⟩))) rfl
theorem bin_code (op a b : Int) : (bin op a b).2 = 0 ∨ (bin op a b).2 = 3 := by
  unfold bin
  repeat' split
  all_goals first | exact .inl rfl | exact .inr rfl
theorem len_code (B : List Bool) (l : List Cell) (ref : Int) : (lenP B l ref).2 = 0 ∨ (lenP B l ref).2 = -1 ∨ (1 ≤ (lenP B l ref).2 ∧ (lenP B l ref).2 ≤ 6) := by
  unfold lenP
  repeat' split
  all_goals first | exact .inl rfl | exact .inr (.inl rfl) | exact .inr (.inr ⟨by dsimp only; omega, by dsimp only; omega⟩)
theorem load_code (B : List Bool) (l : List Cell) (ref i : Int) : (loadP B l ref i).2 = 0 ∨ (loadP B l ref i).2 = -1 ∨ (1 ≤ (loadP B l ref i).2 ∧ (loadP B l ref i).2 ≤ 6) := by
  unfold loadP
  repeat' split
  all_goals first | exact .inl rfl | exact .inr (.inl rfl) | exact .inr (.inr ⟨by dsimp only; omega, by dsimp only; omega⟩)
theorem GoI.go (h : GoI M f r) {t : RTg} {G : List Int} {i : Ins} (hG : ∀ g ∈ t.units, ∀ c ∈ g.takes, c ∉ G) (h1 : 1 ≤ i.op) (h2 : i.op ≤ 22) : GoR M (M.go t G f i) := by
  obtain ho | ho | ho | ho | ho | ho | ho | ho | ho | ho | ho | ho | ho | ho | ho | ho | ho | ho | ho | ho | ho | ho : i.op = 1 ∨ i.op = 2 ∨ i.op = 3 ∨ i.op = 4 ∨ i.op = 5 ∨ i.op = 6 ∨ i.op = 7 ∨ i.op = 8 ∨ i.op = 9 ∨ i.op = 10 ∨ i.op = 11 ∨ i.op = 12 ∨ i.op = 13 ∨ i.op = 14 ∨ i.op = 15 ∨ i.op = 16 ∨ i.op = 17 ∨ i.op = 18 ∨ i.op = 19 ∨ i.op = 20 ∨ i.op = 21 ∨ i.op = 22 := by omega
  · rw [go1 ho]; exact h.var _ _
  · rw [go2 ho]; exact h.var _ _
  · rw [go3 ho]; exact h.var _ _
  · rw [go4 ho]; exact h.got _ (by rcases bin_code i.n (lkv f.vars i.b) (lkv f.vars i.c) with e | e <;> omega)
  · rw [go5 ho]; exact h.var _ _
  · rw [go6 ho]; exact h.got _ (load_code _ _ _ _)
  · rw [go7 ho]; exact h.trapT (TR.refl.put _ _ _) (load_code _ _ _ _)
  · rw [go8 ho]; exact h.got _ (load_code _ _ _ _)
  · rw [go9 ho]; exact h.trapT (TR.refl.put _ _ _) (load_code _ _ _ _)
  · rw [go10 ho]; exact h.got _ (len_code _ _ _)
  · rw [go11 ho]; exact h.lies G _ _ _
  · rw [go12 ho]
    split
    · exact h.trap (by omega)
    · exact h.lies G _ _ _
  · rw [go13 ho]
    unfold Ms.call
    split
    · exact h.trap (by omega)
    · split
      · exact h.keep f h.rgf h.tl .refl (List.prefix_refl _) h.e0 rfl
      · rename_i g hg
        split
        · exact h.ends (.inr (.inr (.inr ⟨rfl, rfl⟩)))
        · rename_i m hm
          refine ⟨.refl, List.prefix_refl _, h.e0, fun q hq => ?_, rfl⟩
          rcases List.mem_cons.1 hq with rfl | hq
          · exact takeR_rg h.rgf _ _ _ (hG g (gt_mem hg)) (fun _ => by show (0 : Int) ≠ 1; omega) hm
          · exact h.rg q hq
  · rw [go14 ho]
    split
    · exact h.trap (by omega)
    · exact h.keep { f with vars := setv f.vars i.a _ } h.rgf rfl .refl (List.prefix_refl _) h.e0 rfl
  · rw [go15 ho]; exact h.keep f h.rgf h.tl .refl (List.prefix_append _ _) h.e0 rfl
  · rw [go16 ho]; exact h.keep { f with pc := i.n } h.rgf rfl .refl (List.prefix_refl _) h.e0 rfl
  · rw [go17 ho]; exact h.keep { f with pc := if lkv f.vars i.a ≠ 0 then i.n else i.c } h.rgf rfl .refl (List.prefix_refl _) h.e0 rfl
  · rw [go18 ho]
    unfold Ms.ret
    rw [h.fs]
    cases r with
    | nil => exact ⟨.refl, List.prefix_refl _, .inr (.inl ⟨rfl, rfl⟩), fun g hg => (by cases hg), rfl⟩
    | cons hh r =>
      have hhr : RgOk hh.regs := h.rg hh (by rw [h.fs]; simp)
      refine ⟨.refl, List.prefix_refl _, h.e0, fun g hg => ?_, rfl⟩
      rcases List.mem_cons.1 hg with rfl | hg
      · split
        · exact hhr
        · exact hhr
      · exact h.rg g (by rw [h.fs]; simp [hg])
  · rw [go19 ho]; exact h.var _ _
  · rw [go20 ho]; exact h.keep f h.rgf h.tl .refl (List.prefix_refl _) h.e0 rfl
  · rw [go21 ho]
    have := crT_tr i.args M.tb f.regs .refl h.rgf h.B
    exact h.regs this.1 this.2
  · rw [go22 ho]
    have := rmT_tr i.args M.tb f.regs .refl h.rgf
    exact h.regs this.1 this.2
end
/-- What holds all along a run. -/
structure Lives (M : Ms) : Prop where
  tb : TOk M.tb
  en : EnC M.en M.code
  rg : ∀ f ∈ M.fs, RgOk f.regs
/-- One run goes on as another. -/
structure Fore (M M' : Ms) : Prop where
  tb : TMono M.tb M'.tb
  out : M.out <+: M'.out
  sl : M'.slack ≤ M.slack
  st : M.steps ≤ M'.steps
theorem Fore.refl (M : Ms) : Fore M M := ⟨.refl _, List.prefix_refl _, Int.le_refl _, Int.le_refl _⟩
theorem Fore.trans {a b c : Ms} (h1 : Fore a b) (h2 : Fore b c) : Fore a c := ⟨h1.tb.trans h2.tb, h1.out.trans h2.out, Int.le_trans h2.sl h1.sl, Int.le_trans h1.st h2.st⟩
/-- So far a run gets, of itself. -/
def iter (t : RTg) (G : List Int) : Nat → Ms → Ms
  | 0, M => M
  | n + 1, M => if M.en = 0 then iter t G n (M.step t G) else M
theorem runM_iter (t : RTg) (G : List Int) : ∀ (n : Nat) (M : Ms), runM t G n M = if (iter t G n M).en = 0 then (iter t G n M).ends 3 0 else iter t G n M
  | 0, M => rfl
  | n + 1, M => by
    by_cases h : M.en = 0
    · rw [show runM t G (n + 1) M = runM t G n (M.step t G) from if_pos h, show iter t G (n + 1) M = iter t G n (M.step t G) from if_pos h]
      exact runM_iter t G n _
    · rw [show runM t G (n + 1) M = M from if_neg h, show iter t G (n + 1) M = M from if_neg h, if_neg h]
theorem iter_ended {t : RTg} {G : List Int} {M : Ms} (h : M.en ≠ 0) : ∀ n, iter t G n M = M
  | 0 => rfl
  | n + 1 => if_neg h
theorem iter_add (t : RTg) (G : List Int) (m : Nat) : ∀ (n : Nat) (M : Ms), iter t G (n + m) M = iter t G m (iter t G n M)
  | 0, M => by rw [Nat.zero_add]; rfl
  | n + 1, M => by
    rw [Nat.succ_add]
    by_cases h : M.en = 0
    · rw [show iter t G (n + m).succ M = iter t G (n + m) (M.step t G) from if_pos h, show iter t G (n + 1) M = iter t G n (M.step t G) from if_pos h]
      exact iter_add t G m n _
    · rw [iter_ended h, iter_ended h, iter_ended h]
theorem liveN_zero {B : List Bool} (h : ∀ j : Nat, B[j]? ≠ some true) : liveN B = 0 := by
  unfold liveN
  rw [List.countP_eq_zero]
  intro x hx
  obtain ⟨j, hj, rfl⟩ := List.getElem_of_mem hx
  have := h j
  rw [List.getElem?_eq_getElem hj] at this
  simpa using this
end Go.Proofs.Ytomadjefdghliaa
