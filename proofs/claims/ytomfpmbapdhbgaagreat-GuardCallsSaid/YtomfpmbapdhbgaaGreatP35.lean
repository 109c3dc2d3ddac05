import Derived.Test.YtomfpmbapdhbgaaGreatP11
import Derived.Test.YtomfpmbapdhbgaaGreatP25
import Derived.Test.YtomfpmbapdhbgaaGreatP28
import Derived.Test.YtomfpmbapdhbgaaGreatP33
import Derived.Test.YtomfpmbapdhbgaaGreatP34
/- The walks over the reference's walk of a unit and Accepts of chapter 28. -/
namespace Go.Proofs.YtomfpmbapdhbgaaGreat
open Go Go.RR Go.RX Go.GX Go.Api Go.RiseM Go.ReachM Go.RtM Go.LivM Go.FlowM
attribute [local irreducible] wpList Code.wp wpPlan Exit.then Exit.inBlock bodyPost NoPanic Went GX.Post GX.Again GX.Meet GX.RowR GX.Own GX.Owns GX.Box GX.Sl GX.Pt GX.Ag GX.MapR GX.Kept GX.Pin wpT GoK AtEnd Both
theorem outs_len' (t : RTg) : (outs t).length = t.units.length := by simp [outs]
theorem rwalkF_spec (cs : List Value) (t : RTg) (u : Unt) (k : Nat) (h : UnB t k u) (hn2 : t.units.length ≤ 1000) :
    Does Tryz.prog 15 [.agg cs.toArray, .int .i64 (k : Int)] [Ag tyRTg cs t] []
      (fun s : Nat => .tuple #[.slice (some ⟨s, 0, none⟩) u.ins.length u.ins.length, .bool (decide (GuaM.AccU t k u))]) (fun _ => []) (fun _ => []) := by
  refine enter Tryz.func15 rfl Tryz.ntmps15 rfl fun b => ?_
  have hol := outs_len' t
  refine GX.wR ?_; intros
  refine GX.nmP 2 ?_; rintro b2 rfl
  refine GX.drawn0  (fun j => !(List.contains [8] j)) [(0, true), (1, true), (2, true), (4, true), (5, true), (3, false), (6, false), (7, true), (8, false), (9, true)] rfl (by kernel_rfl) (by kernel_rfl) (by first | ((repeat (first | apply Go.GX.SelR.nil | apply Go.GX.SelR.cons | (with_reducible apply Go.GX.TakeR.head) | apply Go.GX.TakeR.tail)); done) | (repeat (first | apply Go.GX.SelR.nil | apply Go.GX.SelR.cons | apply Go.GX.TakeR.head | apply Go.GX.TakeR.tail))) ?_; intro wd F hW hR
  refine GX.wT ?_; intros
  refine GX.nmA 9 ?_; rintro c9 rfl
  refine GX.nmA 11 ?_; rintro c11 rfl
  refine GX.nmA 13 ?_; rintro c13 rfl
  refine opRTg c9 fun aC cC aG cG aU cU e9 => ?_
  subst e9
  refine GX.gow ?_
  refine (cl (rglobal_spec c11 t h.small) fun s => ?_)
  obtain ⟨aL, cL⟩ := s
  dsimp only
  refine GX.wT ?_; intros
  refine GX.gow ?_
  refine (cl (rout_spec c13 t h.small (k : Int)) fun s => ?_)
  obtain ⟨aO, cO⟩ := s
  dsimp only
  refine GX.wTA ?_; intros
  refine GX.wRA ?_; intros
  refine GX.nmP 6 ?_; rintro b6 rfl
  rw [show (Value.agg #[.slice aC t.classes.length cC, .slice aG t.globals.length cG, .slice aU t.units.length cU, .int .i64 t.main, .int .i64 (k : Int), .slice aL (glob t).length cL, .slice aO (out t k).length cO, .slice none 0 0, .slice none 0 0]).cells.toList = [.slice aC t.classes.length cC, .slice aG t.globals.length cG, .slice aU t.units.length cU, .int .i64 t.main, .int .i64 (k : Int), .slice aL (glob t).length cL, .slice aO (out t k).length cO, .slice none 0 0, .slice none 0 0] from rfl]
  refine GX.ownNil 23 (Ty.slice Ty.int) ?_
  refine GX.loop (σ := Nat × Option Addr × Nat) (fun s => [(2, .pointer (some ⟨b2, 0, none⟩)), (6, .pointer (some ⟨b6, 0, none⟩)), (7, .int .i64 (s.1 : Int))]) (fun _ => [])
    (fun s => [RowR b6 69 [.slice aC t.classes.length cC, .slice aG t.globals.length cG, .slice aU t.units.length cU, .int .i64 t.main, .int .i64 (k : Int), .slice aL (glob t).length cL, .slice aO (out t k).length cO, .slice s.2.1 ((outs t).take s.1).length s.2.2, .slice none 0 0], GX.Own 23 (Ty.slice Ty.int) s.2.1 s.2.2 ((outs t).take s.1)])
    (fun s => s.1 ≤ t.units.length) (fun s => t.units.length - s.1) (0, none, 0) ⟨rfl, rfl, rfl, trivial⟩ (by simp) (fun s hs2 => ?_)
  obtain ⟨i, aF, cF⟩ := s
  dsimp only at *
  have htl : ((outs t).take i).length = i := by rw [List.length_take]; omega
  by_cases hlt : i < t.units.length
  · have e : (outs t).take i ++ [out t (i : Int)] = (outs t).take (i + 1) := by rw [List.take_add_one, outs_get hlt]; rfl
    refine GX.wR ?_; intros
    refine GX.drawn1 (RowR b6 69 [.slice aC t.classes.length cC, .slice aG t.globals.length cG, .slice aU t.units.length cU, .int .i64 t.main, .int .i64 (k : Int), .slice aL (glob t).length cL, .slice aO (out t k).length cO, .slice aF ((outs t).take i).length cF, .slice none 0 0]) (fun j => !(List.contains [9, 12] j)) [(0, true), (1, true), (2, true), (3, true), (4, true), (5, true), (6, true), (7, false), (8, false), (9, false), (10, true), (11, true), (12, false)] rfl (by kernel_rfl) (by kernel_rfl) (by first | ((repeat (first | apply Go.GX.SelR.nil | apply Go.GX.SelR.cons | (with_reducible apply Go.GX.TakeR.head) | apply Go.GX.TakeR.tail)); done) | (repeat (first | apply Go.GX.SelR.nil | apply Go.GX.SelR.cons | apply Go.GX.TakeR.head | apply Go.GX.TakeR.tail))) ?_; intro wd F hW hR
    refine GX.wT ?_; intros
    refine GX.nmA 30 ?_; rintro c30 rfl
    refine GX.gow ?_
    refine (cl (rout_spec c30 t h.small (i : Int)) fun s => ?_)
    obtain ⟨aO2, cO2⟩ := s
    dsimp only
    refine GX.wT ?_; intros
    rw [e]
    refine GX.nmS 34 ?_; rintro a34 c34 rfl rfl
    refine GX.unpin (RowR b6 69 [.slice aC t.classes.length cC, .slice aG t.globals.length cG, .slice aU t.units.length cU, .int .i64 t.main, .int .i64 (k : Int), .slice aL (glob t).length cL, .slice aO (out t k).length cO, .slice aF ((outs t).take i).length cF, .slice none 0 0]) ?_
    refine GX.wT ?_; intros
    refine GX.wR ?_; intros
    exact again (i + 1, a34, c34) ⟨rfl, rfl, rfl, trivial⟩ (by dsimp only; omega) (by dsimp only; omega)
  rw [List.take_of_length_le (by omega)]
  refine frz aF ?_
  refine GX.wR ?_; intros
  refine GX.o (cl (rwalk_spec b6 ⟨aC, cC, aG, cG, aU, cU, aL, cL, aO, cO, aF, cF⟩ t u k h) fun s => ?_)
  obtain ⟨st, S⟩ := s
  dsimp only
  refine GX.wR ?_; intros
  exact rt2 st rfl
end Go.Proofs.YtomfpmbapdhbgaaGreat

/- The walk over the reference's Accepts of chapter 28. -/
namespace Go.RtM
open Go.RiseM Go.Api Go.FlowM Go.LivM Go.ReachM
theorem of_some {u : Unt} {n : Int} (h : of u n ≠ -3) : ∃ (j : Nat) (c : Int), n = (j : Int) ∧ u.vars[j]? = some c := by
  unfold of at h
  cases hg : gt u.vars n with
  | none => rw [hg] at h; exact absurd rfl h
  | some c =>
    obtain ⟨j, h1, _, h2⟩ := gt_some hg
    exact ⟨j, c, h1, h2⟩
theorem cell_ok {t : RTg} {u : Unt} {n : Int} {arr : Bool} {c : Int} (h : (cell t u n arr c).2.2 = true) : of u n ≠ -3 := fun e => by
  rw [cell_none (by omega) (by rw [e]; exact gt_out (.inl (by omega)))] at h
  cases h
theorem into_ok {a b : Int} (h : Into a b) : b ≠ -3 := by unfold Into at h; split at h <;> omega
theorem lays_ok {t : RTg} {u : Unt} {a b c : Int} {arr : Bool} (h : Lays t u a arr c b) : of u a ≠ -3 ∧ of u b ≠ -3 := by
  obtain ⟨h1, h2⟩ := h
  refine ⟨cell_ok h1, ?_⟩
  split at h2
  · exact h2
  · exact into_ok h2
/-- What an instruction that fits asks there is. -/
theorem asks_ok {t : RTg} {u : Unt} {x : Ins} (hb : Bare x) (hf : Fits t u x) : ∀ n ∈ asks x, of u n ≠ -3 ∨ n = -1 := by
  unfold Bare names at hb
  unfold asks
  unfold Fits at hf
  by_cases h3 : x.op = 3
  · rw [if_pos (by omega)]; repeat rw [if_neg (by omega)] at hf
    rw [if_pos h3] at hf
    intro n hn; rw [List.mem_singleton] at hn; subst hn; exact .inl (into_ok hf)
  by_cases h5 : x.op = 5
  · rw [if_pos (by omega)]; repeat rw [if_neg (by omega)] at hf
    rw [if_pos h5] at hf
    intro n hn; rw [List.mem_singleton] at hn; subst hn; exact .inl (by rw [hf.2.2]; omega)
  by_cases h6 : x.op = 6
  · rw [if_pos (by omega)]; repeat rw [if_neg (by omega)] at hf
    rw [if_pos h6] at hf
    intro n hn; rw [List.mem_singleton] at hn; subst hn; exact .inl (cell_ok hf.1)
  by_cases h10 : x.op = 10
  · rw [if_pos (by omega)]; repeat rw [if_neg (by omega)] at hf
    rw [if_pos h10] at hf
    intro n hn; rw [List.mem_singleton] at hn; subst hn; exact .inl (cell_ok hf.1)
  by_cases h12 : x.op = 12
  · rw [if_pos (by omega)]; repeat rw [if_neg (by omega)] at hf
    rw [if_pos h12] at hf
    intro n hn; rw [List.mem_singleton] at hn; subst hn; exact .inl (by rw [hf.2]; omega)
  rw [if_neg (by omega)]
  by_cases h4 : x.op = 4
  · rw [if_pos (by omega)]; repeat rw [if_neg (by omega)] at hf
    rw [if_pos h4] at hf
    intro n hn
    obtain ⟨_, _, ⟨h1, h2⟩ | ⟨_, h1, h2⟩⟩ := hf <;> (simp only [List.mem_cons, List.not_mem_nil, or_false] at hn; rcases hn with rfl | rfl <;> left <;> omega)
  by_cases h8 : x.op = 8
  · rw [if_pos (by omega)]; repeat rw [if_neg (by omega)] at hf
    rw [if_pos h8] at hf
    intro n hn
    simp only [List.mem_cons, List.not_mem_nil, or_false] at hn
    rcases hn with rfl | rfl
    · exact .inl (cell_ok hf.2.1)
    · exact .inl (by rw [hf.1]; omega)
  rw [if_neg (by omega)]
  by_cases h7 : x.op = 7
  · rw [if_pos (by omega)]; repeat rw [if_neg (by omega)] at hf
    rw [if_pos h7] at hf
    intro n hn
    simp only [List.mem_cons, List.not_mem_nil, or_false] at hn
    rcases hn with rfl | rfl
    · exact .inl (lays_ok hf).1
    · exact .inl (lays_ok hf).2
  rw [if_neg (by omega)]
  by_cases h9 : x.op = 9
  · rw [if_pos (by omega)]; repeat rw [if_neg (by omega)] at hf
    rw [if_pos h9] at hf
    intro n hn
    simp only [List.mem_cons, List.not_mem_nil, or_false] at hn
    rcases hn with rfl | rfl | rfl
    · exact .inl (lays_ok hf.2).1
    · exact .inl (by rw [hf.1]; omega)
    · exact .inl (lays_ok hf.2).2
  rw [if_neg (by omega)]
  by_cases h13 : x.op = 13
  · rw [if_pos (by omega)]; repeat rw [if_neg (by omega)] at hf
    unfold Goes at hf
    rw [if_pos h13] at hf
    unfold CallOk at hf
    intro n hn
    cases hg : gt t.units x.c with
    | none => rw [hg] at hf; exact hf.elim
    | some g =>
      rw [hg] at hf
      obtain ⟨⟨h1, h2, h3⟩, _⟩ := hf
      obtain ⟨i, hi⟩ := List.mem_iff_getElem?.1 hn
      have hil := (List.getElem?_eq_some_iff.1 hi).1
      obtain ⟨v, hv⟩ : ∃ v, g.vars[i]? = some v := ⟨_, List.getElem?_eq_getElem (by omega)⟩
      have hz : (n, v) ∈ x.args.zip g.vars := List.mem_of_getElem? (i := i) (by rw [List.getElem?_zip_eq_some]; exact ⟨hi, hv⟩)
      exact .inl (into_ok (h3 _ hz))
  rw [if_neg (by omega)]
  by_cases h15 : x.op = 15
  · rw [if_pos (by omega)]; repeat rw [if_neg (by omega)] at hf
    rw [if_pos (by omega)] at hf
    intro n hn; rw [List.mem_singleton] at hn; subst hn; exact .inl (by rw [hf]; omega)
  by_cases h17 : x.op = 17
  · rw [if_pos (by omega)]; repeat rw [if_neg (by omega)] at hf
    unfold Goes at hf
    repeat rw [if_neg (by omega)] at hf
    rw [if_pos h17] at hf
    intro n hn; rw [List.mem_singleton] at hn; subst hn; exact .inl (by rw [hf.1]; omega)
  by_cases h18 : x.op = 18
  · rw [if_pos (by omega)]; repeat rw [if_neg (by omega)] at hf
    unfold Goes at hf
    repeat rw [if_neg (by omega)] at hf
    rw [if_pos h18] at hf
    intro n hn; rw [List.mem_singleton] at hn; subst hn
    rcases hf with ⟨_, h1⟩ | ⟨_, h1⟩
    · exact .inr h1
    · exact .inl (into_ok h1)
  by_cases h20 : x.op = 20
  · rw [if_pos (by omega)]; repeat rw [if_neg (by omega)] at hf
    unfold Goes at hf
    repeat rw [if_neg (by omega)] at hf
    rw [if_pos h20] at hf
    unfold InG at hf
    intro n hn; rw [List.mem_singleton] at hn; subst hn
    cases hg : gt t.globals x.n with
    | none => rw [hg] at hf; exact hf.elim
    | some g => rw [hg] at hf; exact .inl (into_ok hf)
  rw [if_neg (by omega)]
  intro n hn; simp at hn
end Go.RtM
namespace Go.Proofs.YtomfpmbapdhbgaaGreat
open Go Go.RR Go.RX Go.GX Go.Api Go.RiseM Go.ReachM Go.RtM Go.LivM Go.FlowM
attribute [local irreducible] wpList Code.wp wpPlan Exit.then Exit.inBlock bodyPost NoPanic Went GX.Post GX.Again GX.Meet GX.RowR GX.Own GX.Owns GX.Box GX.Sl GX.Pt GX.Ag GX.MapR GX.Kept GX.Pin wpT GoK AtEnd Both
theorem unB {t : RTg} (hT : Tiny t) (hRp : RightP t) {k : Nat} {u : Unt} (hu : t.units[k]? = some u) : UnB t k u := by
  have hm := List.mem_of_getElem? hu
  obtain ⟨⟨u1, u2, u3, u4⟩, ua⟩ := hT.2.2 u hm
  obtain ⟨⟨_, _, _, hne, _, ⟨_, ho⟩, _⟩, hI⟩ := hRp.2.2.2.2.2 u hm
  have hc := hT.1.1
  have goes : ∀ x ∈ u.ins, x.op = 21 ∨ x.op = 22 → Rise x.args ∧ ∀ c ∈ x.args, c ∈ u.owns := fun x hx h => by
    have hf := (hI x hx).2
    unfold Fits at hf
    repeat rw [if_neg (by omega)] at hf
    unfold Goes at hf
    repeat rw [if_neg (by omega)] at hf
    exact hf.2
  refine ⟨hu, hT.small, unW hT hRp hm, fun x hx => by have := ua x hx; omega, fun x hx h => (goes x hx h).1, fun x hx n hn => ?_, fun x hx h c hc2 => ?_, by omega, by omega, by omega, ?_, ?_⟩
  · obtain ⟨h1, h2⟩ := uses_in.1 hn
    rcases asks_ok (hI x hx).1 (hI x hx).2 n h1 with h3 | h3
    · exact of_some h3
    · have := h2.1; omega
  · have := (ho c ((goes x hx (.inr h)).2 c hc2)).1.1; omega
  · have := fromL_len (flds t) t.globals
    rw [flds_len] at this
    have : (glob t).length ≤ t.classes.length := this
    omega
  · have := out_le t (k : Int); omega
theorem raccepts_spec (cs : List Value) (t : RTg) (hT : Tiny t) : Does Tryz.prog 8 [.agg cs.toArray] [Ag tyRTg cs t] [] (fun _ : Unit => .bool (decide (AccT t))) (fun _ => []) (fun _ => []) := by
  refine enter Tryz.func8 rfl Tryz.ntmps8 rfl fun b => ?_
  have hs := hT.small
  have hul := hT.1.2.2
  refine GX.wR ?_; intros
  refine GX.nmP 1 ?_; rintro b1 rfl
  refine GX.nmA 6 ?_; rintro c6 rfl
  refine GX.o (cl (rright_spec c6 t hs) fun _ => ?_)
  by_cases hRp : RightP t
  · have hRp' : ¬ ¬ RightP t := fun h => h hRp
    refine GX.wR ?_; intros
    refine GX.loop (σ := Nat) (fun i => [(1, .pointer (some ⟨b1, 0, none⟩)), (3, .int .i64 (i : Int))]) (fun _ => []) (fun _ => [])
      (fun i => i ≤ t.units.length ∧ Accs t i) (fun i => t.units.length - i) 0 ⟨rfl, rfl, trivial⟩ ⟨by omega, fun k u hk => absurd hk (Nat.not_lt_zero _)⟩ (fun i hi => ?_)
    obtain ⟨hi, hA⟩ := hi
    by_cases hlt : i < t.units.length
    · obtain ⟨u, hu⟩ := get_lt hlt
      refine GX.wR ?_; intros
      refine GX.nmA 17 ?_; rintro c17 rfl
      refine GX.o (cl (rwalkF_spec c17 t u i (unB hT hRp hu) (by omega)) fun st => ?_)
      by_cases h : GuaM.AccU t (i : Int) u
      · have h' : ¬ ¬ GuaM.AccU t (i : Int) u := fun h2 => h2 h
        refine GX.wR ?_; intros
        refine again (i + 1) ⟨rfl, rfl, trivial⟩ ⟨by omega, fun k u' hk hu' => ?_⟩ (by omega)
        rcases Nat.lt_succ_iff_lt_or_eq.1 hk with hk | rfl
        · exact hA k u' hk hu'
        · rw [hu] at hu'; cases hu'; exact h
      · refine GX.wR ?_; intros
        exact rt1 () (vN fun h2 => h (h2.2 i u hlt hu))
    · have hie : i = t.units.length := by omega
      subst hie
      refine GX.wR ?_; intros
      exact rt1 () (vY ⟨hRp, hA⟩)
  · refine GX.wR ?_; intros
    exact rt1 () (vN fun h => hRp h.1)
end Go.Proofs.YtomfpmbapdhbgaaGreat

/- The programs of GuardCalls, plainly. No program in sight. -/
namespace Go.GCalM
open Go.Api Go.RtM Go.ReachM Go.RiseM Go.GuaM Go.LivM Go.FlowM
def iA : Ins := ⟨21, 0, 0, 0, 0, [0]⟩
def iB : Ins := ⟨22, 0, 0, 0, 0, [0]⟩
def iE : Ins := ⟨18, -1, 0, 0, 0, []⟩
def iCall (r : Bool) : Ins := ⟨13, if r then 0 else -1, 0, 1, 0, []⟩
def insU (l r : Bool) : List Ins := if l then [iA, iCall r, iB, iE] else [iCall r, iE]
def insV (k : Bool) : List Ins := [if k then ⟨11, 0, 0, 0, 0, []⟩ else ⟨2, 0, 0, 0, 0, []⟩, ⟨18, 0, 0, 0, 0, []⟩]
def uU (l r : Bool) : Unt := ⟨0, [0], -3, [], [0], insU l r⟩
/-- 'k': it makes something; 'j': it says so. -/
def uV (k j : Bool) : Unt := ⟨0, [0], 0, if j then [0] else [], [], insV k⟩
def tC (l k j r : Bool) : RTg := ⟨[⟨false, []⟩], [], [uU l r, uV k j], 0⟩
variable {l k j r : Bool}
theorem c_flds : flds (tC l k j r) = [[]] := rfl
theorem c_glob : glob (tC l k j r) = [] := fromL_nil (by simp [tC])
theorem c_from {L : List Int} {c : Int} : c ∈ fromL [[]] L ↔ c = 0 ∧ 0 ∈ L := by
  rw [fromL_mem]
  constructor
  · rintro ⟨n, rfl, h⟩
    induction h with
    | @root n h1 h2 =>
      have h2 : n < 1 := h2
      obtain rfl : n = 0 := by omega
      exact ⟨rfl, h1⟩
    | @step n d l _ h2 h3 h4 ih =>
      obtain rfl : n = 0 := by omega
      simp at h2; subst h2
      simp at h3
  · rintro ⟨rfl, h⟩
    exact ⟨0, rfl, .root h (by decide)⟩
theorem c_outU : outOf (tC l k j r) (uU l r) = [] := by
  have e : roots (uU l r) = [-3] := rfl
  unfold outOf
  rw [e, fromL_nil (by simp)]
  rfl
theorem c_outV : outOf (tC l k j r) (uV k j) = [0] := by
  have e : roots (uV k j) = [0] := rfl
  unfold outOf
  rw [e, c_flds, c_glob]
  refine Rise.eq ((fromL_rise _ _).filter _) (by show Rise [0]; decide) fun x => ?_
  rw [List.mem_filter, c_from]
  simp
theorem c_out0 : out (tC l k j r) 0 = [] := by
  have : out (tC l k j r) ((0 : Nat) : Int) = outOf (tC l k j r) (uU l r) := out_some rfl
  rw [c_outU] at this; exact this
theorem c_out1 : out (tC l k j r) 1 = [0] := by
  have : out (tC l k j r) ((1 : Nat) : Int) = outOf (tC l k j r) (uV k j) := out_some rfl
  rw [c_outV] at this; exact this
theorem c_seen0 {L : List Int} {c : Int} : Seen (tC l k j r) 0 L c ↔ c ∈ L := by unfold Seen; rw [c_glob, c_out0]; simp
theorem c_seen1 {L : List Int} {c : Int} : Seen (tC l k j r) 1 L c ↔ c = 0 ∨ c ∈ L := by unfold Seen; rw [c_glob, c_out1]; simp
theorem c_closed0 {L : List Int} : Closed (tC l k j r) 0 L := fun c hc => by
  rw [c_flds] at hc
  obtain ⟨rfl, h⟩ := c_from.1 hc
  exact c_seen0.2 h
theorem c_closed1 {L : List Int} : Closed (tC l k j r) 1 L := fun c hc => by
  rw [c_flds] at hc
  obtain ⟨rfl, h⟩ := c_from.1 hc
  exact c_seen1.2 (.inl rfl)
def cB (T : List Int) (z : Bool) (x : Ins) (L : List Int) : Bool :=
  if x.op = 21 then decide (∀ c ∈ x.args, c ∉ L)
  else if x.op = 22 then decide (∀ c ∈ x.args, c ∈ L)
  else if x.op = 11 ∨ x.op = 12 then decide (x.n ∈ L ∨ x.n ∈ T)
  else if x.op = 13 then decide (0 ∈ L)
  else if x.op = 18 then decide (L = []) else true
theorem c_cond0 {x : Ins} (h13 : x.op = 13 → x.c = 1) (L : List Int) : CondL (tC l k j r) 0 (uU l r) x L ↔ cB [] true x L = true := by
  unfold CondL cB
  by_cases h1 : x.op = 21
  · rw [if_pos h1, if_pos h1, decide_eq_true_iff]
    exact ⟨fun h => h.1, fun h => ⟨h, c_closed0⟩⟩
  rw [if_neg h1, if_neg h1]
  by_cases h2 : x.op = 22
  · rw [if_pos h2, if_pos h2, decide_eq_true_iff]
    exact ⟨fun h => h.1, fun h => ⟨h, c_closed0⟩⟩
  rw [if_neg h2, if_neg h2]
  by_cases h3 : x.op = 11 ∨ x.op = 12
  · rw [if_pos h3, if_pos h3, decide_eq_true_iff, c_glob]
    simp [uU]
  rw [if_neg h3, if_neg h3]
  by_cases h4 : x.op = 13
  · rw [if_pos h4, if_pos h4, decide_eq_true_iff]
    unfold CallC
    rw [h13 h4, c_out1]
    constructor
    · rintro ⟨h, _⟩
      exact c_seen0.1 (h 0 (by simp))
    · intro h
      refine ⟨fun c hc => c_seen0.2 (by obtain rfl : c = 0 := by simpa using hc
                                        exact h), fun g hg c hc => ?_⟩
      have : g = uV k j := by
        have h9 : gt (tC l k j r).units ((1 : Nat) : Int) = some (uV k j) := by rw [gt_nat]; rfl
        have h10 : gt (tC l k j r).units 1 = some (uV k j) := h9
        rw [h10] at hg; cases hg; rfl
      subst this
      have : c = 0 := by
        have hc : c ∈ (if j then [0] else [] : List Int) := hc
        split at hc
        · simpa using hc
        · simp at hc
      subst this
      exact .inl h
  rw [if_neg h4, if_neg h4]
  by_cases h5 : x.op = 18
  · rw [if_pos h5, if_pos h5, decide_eq_true_iff]
  · rw [if_neg h5, if_neg h5]; simp
theorem c_cond1 {x : Ins} (h13 : x.op ≠ 13) (L : List Int) : CondL (tC l k j r) 1 (uV k j) x L ↔ cB (uV k j).takes true x L = true := by
  unfold CondL cB
  by_cases h1 : x.op = 21
  · rw [if_pos h1, if_pos h1, decide_eq_true_iff]
    exact ⟨fun h => h.1, fun h => ⟨h, c_closed1⟩⟩
  rw [if_neg h1, if_neg h1]
  by_cases h2 : x.op = 22
  · rw [if_pos h2, if_pos h2, decide_eq_true_iff]
    exact ⟨fun h => h.1, fun h => ⟨h, c_closed1⟩⟩
  rw [if_neg h2, if_neg h2]
  by_cases h3 : x.op = 11 ∨ x.op = 12
  · rw [if_pos h3, if_pos h3, decide_eq_true_iff, c_glob]
    simp
  rw [if_neg h3, if_neg h3, if_neg h13, if_neg h13]
  by_cases h5 : x.op = 18
  · rw [if_pos h5, if_pos h5, decide_eq_true_iff]
  · rw [if_neg h5, if_neg h5]; simp
/-- The head of a unit, for lists that are told. -/
def UnitHdQ (t : RTg) (u : Unt) (G O : List Int) : Prop :=
  (0 ≤ u.params ∧ u.params ≤ 6 ∧ u.params ≤ (u.vars.length : Int) ∧ u.vars.length ≤ 4000) ∧ Entries t u.vars ∧ (u.result = -3 ∨ IsEntry t u.result) ∧ u.ins ≠ [] ∧
  (Rise u.takes ∧ ∀ c ∈ u.takes, c ∈ O) ∧ (Rise u.owns ∧ ∀ c ∈ u.owns, IsClass t c ∧ c ∉ O ∧ c ∉ G) ∧ (lastOp u = 16 ∨ lastOp u = 17 ∨ lastOp u = 18)
instance (t : RTg) (u : Unt) (G O : List Int) : Decidable (UnitHdQ t u G O) := by unfold UnitHdQ; infer_instance
theorem hdQ {t : RTg} {u : Unt} {G O : List Int} (h1 : glob t = G) (h2 : outOf t u = O) (h : UnitHdQ t u G O) : UnitHd t u := by subst h1; subst h2; exact h
def RightQ (t : RTg) : Prop := (t.classes.length ≤ 60 ∧ t.globals.length ≤ 8 ∧ t.units.length ≠ 0 ∧ t.units.length ≤ 16) ∧ MainOk t ∧ (∀ L ∈ t.classes, LayoutOk t L) ∧ Entries t t.globals ∧ insOf t.units ≤ 16000 ∧ ∀ u ∈ t.units, RtM.InsOk t u
instance (t : RTg) : Decidable (RightQ t) := by unfold RightQ; infer_instance
theorem c_all : RightQ (tC l k j r) ∧ UnitHdQ (tC l k j r) (uU l r) [] [] ∧ UnitHdQ (tC l k j r) (uV k j) [] [0] := by
  cases l <;> cases k <;> cases j <;> cases r <;> decide +kernel
theorem c_right : RightP (tC l k j r) := by
  obtain ⟨⟨h1, h2, h3, h4, h5, h6⟩, h7, h8⟩ := c_all (l := l) (k := k) (j := j) (r := r)
  refine ⟨h1, h2, h3, h4, h5, fun u hu => ⟨?_, h6 u hu⟩⟩
  have hu : u = uU l r ∨ u = uV k j := by simpa [tC] using hu
  rcases hu with rfl | rfl
  · exact hdQ c_glob c_outU h7
  · exact hdQ c_glob c_outV h8
theorem c_sims : (simB (cB [] true) (uU l r) 6 (first (uU l r))).map (·.1) = some l ∧ (simB (cB (uV k j).takes true) (uV k j) 4 (first (uV k j))).map (·.1) = some (!k || j) := by
  cases l <;> cases k <;> cases j <;> cases r <;> decide +kernel
theorem c_13 : (∀ x ∈ (uU l r).ins, x.op = 13 → x.c = 1) ∧ ∀ x ∈ (uV k j).ins, x.op ≠ 13 := by
  cases l <;> cases k <;> cases j <;> cases r <;> decide +kernel
theorem sim_acc {t : RTg} {n : Int} {u : Unt} {c : Ins → List Int → Bool} {m : Nat} {y : Bool} (hc : ∀ x ∈ u.ins, ∀ L, CondL t n u x L ↔ c x L = true) (h : (simB c u m (first u)).map (·.1) = some y) : AccU t n u ↔ y = true := by
  cases e : simB c u m (first u) with
  | none => rw [e] at h; cases h
  | some q =>
    obtain ⟨r, S⟩ := q
    rw [e] at h
    simp only [Option.map_some, Option.some.injEq] at h
    subst h
    obtain ⟨h1, h2⟩ := sim_ok hc m _ (snd_first u) r S e
    cases r with
    | true => exact ⟨fun _ => rfl, fun _ => (h1 rfl).1⟩
    | false => exact ⟨fun h => absurd h (h2 rfl), fun h => by cases h⟩
theorem c_acc0 : AccU (tC l k j r) 0 (uU l r) ↔ l = true := sim_acc (fun x hx L => c_cond0 (c_13 (k := k) (j := j).1 x hx) L) (c_sims (k := k) (j := j)).1
theorem c_acc1 : AccU (tC l k j r) 1 (uV k j) ↔ (!k || j) = true := sim_acc (fun x hx L => c_cond1 (c_13 (l := l) (r := r).2 x hx) L) (c_sims (l := l) (r := r)).2
end Go.GCalM
