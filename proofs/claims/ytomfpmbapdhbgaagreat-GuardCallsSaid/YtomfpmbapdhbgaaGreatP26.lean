import Derived.Test.YtomfpmbapdhbgaaGreatP14
import Derived.Test.YtomfpmbapdhbgaaGreatP17
import Derived.Test.YtomfpmbapdhbgaaGreatP25
/- The walk over guard's look. -/
namespace Go.Proofs.YtomfpmbapdhbgaaGreat
open Go Go.RR Go.RX Go.GX Go.Api Go.RiseM Go.ReachM Go.RtM Go.LivM Go.FlowM
/-- What is told of the last guard. -/
def LastG : Option (Nat × List Api.State) → Pf
  | none => Ag Ty.unit [] ()
  | some q => Pt (Ty.slice tyState) q.1 21 q.2
section
variable {n : Nat} {env : Env} {b : Base} {ps : List Pf} {hp : List Res} {K : Act → World → Prop}
theorem lastN (h : G n env b (LastG none :: ps) hp K) : G n env b ps hp K := GX.addPs (qs := [LastG none]) (fun F w _ p hp => by
  rw [List.mem_singleton] at hp
  subst hp
  exact (rfl : ([] : List Value) = [])) h
theorem lastS (p : Nat) (S : List Api.State) (hm : Pt (Ty.slice tyState) p 21 S ∈ ps) (h : G n env b (LastG (some (p, S)) :: ps) hp K) : G n env b ps hp K := GX.addPs (qs := [LastG (some (p, S))]) (fun F w ha q hq => by
  rw [List.mem_singleton] at hq
  subst hq
  exact ha _ hm) h
theorem lastO (p : Nat) (S : List Api.State) (hm : LastG (some (p, S)) ∈ ps) (h : G n env b (Pt (Ty.slice tyState) p 21 S :: ps) hp K) : G n env b ps hp K := GX.addPs (qs := [Pt (Ty.slice tyState) p 21 S]) (fun F w ha q hq => by
  rw [List.mem_singleton] at hq
  subst hq
  exact ha _ hm) h
end
attribute [local irreducible] wpList Code.wp wpPlan Exit.then Exit.inBlock bodyPost NoPanic Went GX.Post GX.Again GX.Meet GX.RowR GX.Own GX.Owns GX.Box GX.Sl GX.Pt GX.Ag GX.MapR GX.Kept GX.Pin wpT GoK AtEnd Both
theorem out_le (t : RTg) (k : Int) : (out t k).length ≤ t.classes.length := by
  unfold out
  split
  · unfold outOf
    refine Nat.le_trans (List.length_filter_le _ _) ?_
    rw [← flds_len]; exact fromL_len _ _
  · simp
theorem outs_len (t : RTg) : (outs t).length = t.units.length := by simp [outs]
/-- What a guard that went through ends with. -/
structure Good (t : RTg) (k : Int) (u : Unt) (S : List Api.State) : Prop where
  snd : GuaM.Snd u S
  done : ∀ i, GuaM.Done t k u S i
  cov : GuaM.Cov S 0 [] []
theorem Good.acc {t : RTg} {k : Int} {u : Unt} {S : List Api.State} (h : Good t k u S) : GuaM.AccU t k u := GuaM.acc_of_done h.cov h.done
def Accs (t : RTg) (n : Nat) : Prop := ∀ (k : Nat) u, k < n → t.units[k]? = some u → GuaM.AccU t (k : Int) u
instance : UTy Tryz.prog 56 Ty.ref none (.pointer none) := ⟨Tryz.zeroValue56, fun _ _ => rfl⟩
structure LkS where
  i : Nat
  ao : Option Addr
  cap : Nat
  ps : List (Option Nat)
  last : Option (Nat × List Api.State)
structure LkI (t : RTg) (s : LkS) : Prop where
  le : s.i ≤ t.units.length
  len : s.ps.length = s.i
  acc : Accs t s.i
  one : s.i = 1 → ∃ p S u, s.ps = [some p] ∧ s.last = some (p, S) ∧ t.units[0]? = some u ∧ Good t 0 u S
structure LookR (t : RTg) where
  v : Value
  s : LkS
  res : (v = .slice none 0 0 ∧ ¬ Accs t t.units.length) ∨ ∃ g, v = .slice (some ⟨g, 0, none⟩) s.ps.length s.cap ∧ s.ao = some ⟨g, 0, none⟩ ∧ LkI t s ∧ s.i = t.units.length
set_option maxHeartbeats 4000000 in
theorem look_spec (cs : List Value) (t : RTg) (hs : Small t) (hn : t.units ≠ []) (hn2 : t.units.length ≤ 1000) (hu : ∀ u ∈ t.units, UnW t u) :
    Does Tryz.prog 14 [.agg cs.toArray] [Ag tyRTg cs t] [] (fun s : LookR t => s.v) (fun s => [Sl Ty.ref s.s.ao s.s.cap s.s.ps, LastG s.s.last]) (fun _ => []) := by
  refine enter Tryz.func14 rfl Tryz.ntmps14 rfl fun b => ?_
  have hol := outs_len t
  refine GX.wa_R ?_; intros
  refine GX.nmP 1 ?_; rintro b1 rfl
  refine GX.nmS 12 ?_; rintro aN cN rfl rfl
  refine GX.ownNil 23 (Ty.slice Ty.int) ?_
  refine GX.loop (σ := Nat × Option Addr × Nat) (fun s => [(1, .pointer (some ⟨b1, 0, none⟩)), (3, .slice none 0 0), (4, .slice s.2.1 ((outs t).take s.1).length s.2.2), (13, .int .i64 (t.units.length : Int)), (14, .int .i64 (s.1 : Int))]) (fun _ => [])
    (fun s => [GX.Own 23 (Ty.slice Ty.int) s.2.1 s.2.2 ((outs t).take s.1)]) (fun s => s.1 ≤ t.units.length) (fun s => t.units.length - s.1) (0, none, 0) ⟨rfl, rfl, rfl, rfl, rfl, trivial⟩ (by simp) (fun s hs2 => ?_)
  obtain ⟨i, aF, cF⟩ := s
  dsimp only at *
  have htl : ((outs t).take i).length = i := by rw [List.length_take]; omega
  by_cases hlt : i < t.units.length
  · have e : (outs t).take i ++ [out t (i : Int)] = (outs t).take (i + 1) := by rw [List.take_add_one, outs_get hlt]; rfl
    refine GX.wa_R ?_; intros
    refine GX.nmA 18 ?_; rintro c18 rfl
    refine GX.o (cl (out_spec c18 t hs (i : Int)) fun s => ?_)
    refine GX.wa_R ?_; intros
    rw [e]
    refine GX.nmS 22 ?_; rintro a3 c3 rfl rfl
    exact again (i + 1, a3, c3) ⟨rfl, rfl, rfl, rfl, rfl, trivial⟩ (by dsimp only; omega) (by dsimp only; omega)
  rw [List.take_of_length_le (by omega)]
  refine frz aF ?_
  refine GX.wa_R ?_; intros
  refine GX.nmA 24 ?_; rintro c24 rfl
  refine GX.o (cl (global_spec c24 t hs) fun s => ?_)
  obtain ⟨aL, cL⟩ := s
  dsimp only
  refine GX.wa_R ?_; intros
  refine GX.nmS 27 ?_; rintro aU cU rfl rfl
  refine GX.ownNil 56 Ty.ref ?_
  refine lastN ?_
  refine GX.loop (σ := LkS) (fun s => [(1, .pointer (some ⟨b1, 0, none⟩)), (3, .slice s.ao s.ps.length s.cap), (4, .slice aF (outs t).length cF), (6, .slice aL (glob t).length cL), (27, .slice aU t.units.length cU), (28, .int .i64 (t.units.length : Int)), (29, .int .i64 (s.i : Int))]) (fun s => [LastG s.last])
    (fun s => [GX.Own 56 Ty.ref s.ao s.cap s.ps]) (fun s => LkI t s) (fun s => t.units.length - s.i) ⟨0, none, 0, [], none⟩ ⟨rfl, rfl, rfl, rfl, rfl, rfl, rfl, trivial⟩ ⟨by simp, rfl, (fun k u hk => absurd hk (Nat.not_lt_zero _)), (fun h => by cases h)⟩ (fun s hI => ?_)
  obtain ⟨i, ao, cap, ps, last⟩ := s
  have hle := hI.le
  have hpl := hI.len
  dsimp only at hle hpl ⊢
  by_cases hlt : i < t.units.length
  · obtain ⟨u, hu1⟩ := get_lt hlt
    have hU := hu u (List.mem_of_getElem? hu1)
    have hoi := outs_get hlt
    refine GX.wa_RN ?_; intros
    apply GX.region
    refine GX.wa_RN ?_; intros
    apply GX.region
    refine GX.wa_RN ?_; intros
    refine GX.nmP 8 ?_; rintro b8 rfl
    refine frzB b8 ?_
    apply GX.region
    refine GX.wa_RN ?_; intros
    have hil2 := hU.ins
    have hgl := Nat.le_trans hU.glob (show 100000 ≤ 400000 by omega)
    have hol2 : (out t (i : Int)).length ≤ 400000 := by have := out_le t (i : Int); have := hU.cls; omega
    generalize hkk : (i : Int) = k at hoi ⊢
    refine GX.cut (σ := GV × Nat) (fun p => [(1, .pointer (some ⟨b1, 0, none⟩)), (3, .slice ao ps.length cap), (4, .slice aF (outs t).length cF), (6, .slice aL (glob t).length cL), (27, .slice aU t.units.length cU), (28, .int .i64 (t.units.length : Int)), (29, .int .i64 k), (10, .pointer (some ⟨p.2, 0, none⟩))]) (fun p => [Sl tyUnt p.1.aU p.1.cU t.units, Sl Ty.int p.1.aV p.1.cV u.vars, Sl Ty.int p.1.aT p.1.cT u.takes, Sl tyIns p.1.aI p.1.cI u.ins, Sl tyIns p.1.aJ p.1.cJ u.ins, Sl (Ty.slice Ty.int) p.1.aF p.1.cF (flds t), Sl Ty.int p.1.aS p.1.cS (GuaM.both (glob t) (out t k)), Sl Ty.int p.1.aL p.1.cL (glob t), Sl (Ty.slice Ty.int) p.1.aX p.1.cX (outs t)])
      (fun p => [RowR p.2 66 [.slice p.1.aC t.classes.length p.1.cC, .slice p.1.aG t.globals.length p.1.cG, .slice p.1.aU t.units.length p.1.cU, .int .i64 t.main, .int .i64 u.params, .slice p.1.aV u.vars.length p.1.cV, .int .i64 u.result, .slice p.1.aT u.takes.length p.1.cT, .slice p.1.aO u.owns.length p.1.cO, .slice p.1.aI u.ins.length p.1.cI, .slice p.1.aF (flds t).length p.1.cF, .slice p.1.aS (GuaM.both (glob t) (out t k)).length p.1.cS, .slice p.1.aL (glob t).length p.1.cL, .slice p.1.aX (outs t).length p.1.cX, .int .i64 0, .slice none 0 0, .bool false, .int .i64 0, .int .i64 0, .int .i64 0, .slice p.1.aJ u.ins.length p.1.cJ, .slice (some ⟨p.1.st, 0, none⟩) u.ins.length u.ins.length, .slice none 0 0, .slice (some ⟨p.1.wt, 0, none⟩) u.ins.length u.ins.length], GX.Own 48 tyState (some ⟨p.1.st, 0, none⟩) u.ins.length (List.replicate u.ins.length ⟨false, [], []⟩), GX.Own 4 Ty.bool (some ⟨p.1.wt, 0, none⟩) u.ins.length (List.replicate u.ins.length false), GX.Own 56 Ty.ref ao cap ps]) (fun _ => True) ?_ (fun p _ => ?_)
    · subst hkk
      refine GX.drawnT (fun j => !(List.contains [] j)) (.br [(0, true), (1, true), (2, true), (4, true), (5, true), (6, true), (7, true), (8, true), (10, true), (11, true), (12, true), (13, true), (14, true), (15, true), (17, true)] (.alt 3 (.br [] (.alt 9 (.br [] (.alt 16 (.lin [(18, false), (19, true), (20, false), (21, true)]) (.alt 18 (.lin [(16, false), (19, true), (20, false), (21, true)]) .nil))) (.alt 16 (.br [] (.alt 9 (.lin [(18, false), (19, true), (20, false), (21, true)]) (.alt 18 (.lin [(9, false), (19, true), (20, false), (21, true)]) .nil))) (.alt 18 (.br [] (.alt 9 (.lin [(16, false), (19, true), (20, false), (21, true)]) (.alt 16 (.lin [(9, false), (19, true), (20, false), (21, true)]) .nil))) .nil)))) (.alt 16 (.br [] (.alt 3 (.br [] (.alt 9 (.lin [(18, false), (19, true), (20, false), (21, true)]) (.alt 18 (.lin [(9, false), (19, true), (20, false), (21, true)]) .nil))) (.alt 18 (.lin [(3, false), (9, false), (19, true), (20, false), (21, true)]) .nil))) (.alt 18 (.br [] (.alt 3 (.br [] (.alt 9 (.lin [(16, false), (19, true), (20, false), (21, true)]) (.alt 16 (.lin [(9, false), (19, true), (20, false), (21, true)]) .nil))) (.alt 16 (.lin [(3, false), (9, false), (19, true), (20, false), (21, true)]) .nil))) .nil)))) (by kernel_rfl) (by kernel_rfl) ?_; intro wd F hW hR
      refine GX.wa_T ?_; intros
      refine GX.nmA 37 ?_; rintro c37 rfl
      refine GX.nmA 38 ?_; rintro c38 rfl
      refine GX.nmA 39 ?_; rintro c39 rfl
      refine GX.nmS 45 ?_; rintro a45 c45 rfl rfl
      refine GX.nmS 50 ?_; rintro aJ cJ rfl rfl
      refine opRTg c37 fun aC cC aG cG aU2 cU2 e37 => ?_
      subst e37
      refine opUnt c38 fun aV cV aT cT aO cO aI cI e38 => ?_
      subst e38
      repeat' first
        | (refine GX.treeA ?_ ?_ <;> (refine GX.wa_T ?_; intros))
        | (refine GX.gok ?_; refine (cl (fields_spec c39 t hs) fun s => ?_); obtain ⟨_, _⟩ := s; dsimp only; refine GX.wa_T ?_; intros)
        | (refine GX.gok ?_; refine (cl (both_spec aL a45 cL c45 (glob t) (out t (i : Int)) hgl hol2) fun s => ?_); obtain ⟨_, _⟩ := s; dsimp only; refine GX.wa_T ?_; intros)
        | (refine GX.gow ?_; refine (cl (fields_spec c39 t hs) fun s => ?_); obtain ⟨_, _⟩ := s; dsimp only; refine GX.wa_T ?_; intros)
        | (refine GX.gow ?_; refine (cl (both_spec aL a45 cL c45 (glob t) (out t (i : Int)) hgl hol2) fun s => ?_); obtain ⟨_, _⟩ := s; dsimp only; refine GX.wa_T ?_; intros)
      all_goals
        refine GX.wa_R ?_; intros
        refine GX.nmS 40 ?_; rintro a40 c40 rfl rfl
        refine GX.nmS 46 ?_; rintro a46 c46 rfl rfl
        refine GX.nmB 53 ?_; rintro b53 rfl
        refine GX.nmB 55 ?_; rintro b55 rfl
        refine GX.nmP 10 ?_; rintro b10 rfl
        exact meet (⟨aC, cC, aG, cG, aU2, cU2, aV, cV, aT, cT, aO, cO, aI, cI, aJ, cJ, a40, c40, a46, c46, aL, cL, aF, cF, b53, b55⟩, b10) ⟨rfl, rfl, rfl, rfl, rfl, rfl, rfl, rfl, trivial⟩ trivial
    subst hkk
    obtain ⟨v, bl⟩ := p
    dsimp only
    refine GX.ownNil 3 Ty.int ?_
    refine GX.wa_R ?_; intros
    refine GX.o (cl (ggoes_spec bl v t u (i : Int) hs hU) fun s => ?_)
    obtain ⟨q, r, no, yes⟩ := s
    dsimp only
    cases r with
    | false =>
      refine GX.wa_R ?_; intros
      refine slNil Ty.ref ?_
      exact rt1 ⟨_, ⟨0, none, 0, [], none⟩, .inl ⟨rfl, fun h => no rfl (h i u hlt hu1)⟩⟩ rfl
    | true =>
      obtain ⟨y1, y2, y3⟩ := yes rfl
      refine frz (some ⟨v.st, 0, none⟩) ?_
      refine frzC bl 21 (Ty.slice tyState) q.S (v := .slice (some ⟨v.st, 0, none⟩) u.ins.length u.ins.length) ?_ (hr := .slice y1.len.symm)
      refine lastS bl q.S (by simp) ?_
      refine GX.wa_R ?_; intros
      refine GX.nmS 64 ?_; rintro a64 c64 rfl rfl
      refine again ⟨i + 1, a64, c64, ps ++ [some bl], some (bl, q.S)⟩ ⟨rfl, rfl, rfl, rfl, rfl, rfl, rfl, trivial⟩ ⟨by dsimp only; omega, by simp [hpl], fun k u' hk hu' => ?_, fun h1 => ?_⟩ (by dsimp only; omega)
      · rcases Nat.lt_succ_iff_lt_or_eq.1 hk with hk | hk
        · exact hI.acc k u' hk hu'
        · subst hk
          rw [hu1] at hu'
          cases hu'
          exact GuaM.acc_of_done y3 y2
      · dsimp only at h1
        have : i = 0 := by omega
        subst this
        have hp0 : ps = [] := List.length_eq_zero_iff.1 hpl
        subst hp0
        exact ⟨bl, q.S, u, rfl, rfl, hu1, ⟨y1, y2, y3⟩⟩
  · have hil : i = t.units.length := by omega
    subst hil
    have hne : 0 < t.units.length := List.length_pos_iff.2 hn
    refine GX.opn ao fun _ _ h3 => ?_
    obtain ⟨h3, _⟩ | ⟨g, rfl⟩ := h3
    · subst h3; rw [List.length_nil] at hpl; omega
    refine frz (some ⟨g, 0, none⟩) ?_
    refine GX.wa_R ?_; intros
    exact rt1 ⟨_, ⟨t.units.length, some ⟨g, 0, none⟩, cap, ps, last⟩, .inr ⟨g, rfl, rfl, hI, rfl⟩⟩ rfl
end Go.Proofs.YtomfpmbapdhbgaaGreat

/- The walks over package rt: rising, cell, loads, lays, only, bare, two, length, fresh. -/
namespace Go.Proofs.YtomfpmbapdhbgaaGreat
open Go Go.RR Go.RX Go.GX Go.Api Go.RiseM Go.ReachM Go.RtM
attribute [local irreducible] wpList Code.wp wpPlan Exit.then Exit.inBlock bodyPost NoPanic Went GX.Post GX.Again GX.Meet GX.RowR GX.Own GX.Owns GX.Box GX.Sl GX.Pt GX.Ag GX.MapR GX.Kept GX.Pin wpT GoK AtEnd Both

/-- Rising, and each is such. -/
abbrev UpP (p : Int → Bool) (l : List Int) : Prop := Rise l ∧ ∀ n ∈ l, p n = true
theorem upP_snoc {p : Int → Bool} {l : List Int} {i : Nat} {x : Int} (hx : l[i]? = some x) : UpP p (l.take (i + 1)) ↔ UpP p (l.take i) ∧ (∀ k y, i = k + 1 → l[k]? = some y → y < x) ∧ p x = true := by
  have e : l.take (i + 1) = l.take i ++ [x] := by rw [List.take_add_one, hx]; rfl
  rw [e]
  unfold UpP Rise
  rw [List.pairwise_append]
  constructor
  · rintro ⟨⟨h1, _, h2⟩, h3⟩
    refine ⟨⟨h1, fun n hn => h3 n (by simp [hn])⟩, fun k y hk hy => h2 y ?_ x (by simp), h3 x (by simp)⟩
    exact List.mem_take_iff_getElem.2 ⟨k, by have := (List.getElem?_eq_some_iff.1 hy).1; omega, (List.getElem?_eq_some_iff.1 hy).2⟩
  · rintro ⟨⟨h1, h2⟩, h3, h4⟩
    refine ⟨⟨h1, by simp, fun a ha c hc => ?_⟩, fun n hn => ?_⟩
    · obtain rfl : c = x := by simpa using hc
      obtain ⟨j, hj, rfl⟩ := List.mem_take_iff_getElem.1 ha
      cases i with
      | zero => omega
      | succ k =>
        have hkl : k < l.length := by have := (List.getElem?_eq_some_iff.1 hx).1; omega
        have h5 := h3 k l[k] rfl (List.getElem?_eq_getElem hkl)
        by_cases e : j = k
        · subst e; exact h5
        · have h6 := List.pairwise_iff_getElem.1 h1 j k (by rw [List.length_take]; omega) (by rw [List.length_take]; omega) (by omega)
          rw [List.getElem_take, List.getElem_take] at h6
          omega
    · rw [List.mem_append, List.mem_singleton] at hn
      rcases hn with hn | hn
      · exact h2 n hn
      · subst hn; exact h4
theorem upP_take {p : Int → Bool} {l : List Int} (i : Nat) (h : UpP p l) : UpP p (l.take i) := ⟨h.1.sublist (List.take_sublist _ _), fun n hn => h.2 n (List.mem_of_mem_take hn)⟩

theorem last2 {l : List Int} {k k2 : Nat} {y z x : Int} (e : k = k2) (hy : l[k]? = some y) (hz : l[k2]? = some z) (h : y < x) : z < x := by subst e; rw [hy] at hz; cases hz; exact h
theorem rising_spec (ao : Option Addr) (cap : Nat) (l : List Int) (fid : Nat) (caps : List Value) (psC : List Pf) (hpC : List Res) (p : Int → Bool) [UFunc Tryz.prog fid]
    (hf : ∀ x ∈ l, Does Tryz.prog fid (.int .i64 x :: caps) psC hpC (fun _ : Unit => .bool (p x)) (fun _ => []) (fun _ => hpC)) :
    Does Tryz.prog 71 [.slice ao l.length cap, .func (.func fid) #[] caps.toArray] (Sl Ty.int ao cap l :: psC) hpC (fun _ : Unit => .bool (decide (UpP p l))) (fun _ => []) (fun _ => hpC) := by
  refine enter Tryz.func71 rfl Tryz.ntmps71 rfl fun b => ?_
  refine sln ao fun hl1 hl2 _ => ?_
  refine GX.wR ?_; intros
  refine GX.loop (σ := Nat) (fun i => [(0, .slice ao l.length cap), (1, .func (.func fid) #[] caps.toArray), (7, .slice ao l.length cap), (8, .int .i64 (l.length : Int)), (9, .int .i64 (i : Int))]) (fun _ => []) (fun _ => hpC)
    (fun i => i ≤ l.length ∧ UpP p (l.take i)) (fun i => l.length - i) 0 ⟨rfl, rfl, rfl, rfl, rfl, trivial⟩ ⟨by omega, by simp [UpP, Rise]⟩ (fun i hi => ?_) (h2 := SelR.all _)
  obtain ⟨hi, hU⟩ := hi
  by_cases hlt : i < l.length
  · obtain ⟨x, hx⟩ := get_lt hlt
    have hs := upP_snoc (p := p) hx
    have no : ¬ UpP p (l.take (i + 1)) → ¬ UpP p l := fun h h2 => h (upP_take _ h2)
    by_cases h0 : i = 0
    · subst h0
      refine GX.wR ?_; intros
      refine GX.o (clvA (fs := []) (vs := [.int .i64 x]) (cs := caps) (hf x (List.mem_of_getElem? hx)) fun _ => ?_)
      cases hp : p x with
      | true =>
        refine GX.wR ?_; intros
        exact again 1 ⟨rfl, rfl, rfl, rfl, rfl, trivial⟩ ⟨by omega, hs.2 ⟨hU, fun k y hk => by omega, hp⟩⟩ (by omega) (h2 := SelR.all _)
      | false =>
        refine GX.wR ?_; intros
        exact rt1 () (vN (no fun h => by rw [(hs.1 h).2.2] at hp; cases hp)) (h2 := SelR.all _)
    · obtain ⟨k, rfl⟩ : ∃ k, i = k + 1 := ⟨i - 1, by omega⟩
      obtain ⟨y, hy⟩ := get_lt (show k < l.length by omega)
      by_cases hxy : x ≤ y
      · refine GX.wR ?_; intros
        exact rt1 () (vN (no fun h => by have := (hs.1 h).2.1 k y rfl hy; omega)) (h2 := SelR.all _)
      · refine GX.wR ?_; intros
        refine GX.o (clvA (fs := []) (vs := [.int .i64 x]) (cs := caps) (hf x (List.mem_of_getElem? hx)) fun _ => ?_)
        cases hp : p x with
        | true =>
          refine GX.wR ?_; intros
          exact again (k + 2) ⟨rfl, rfl, rfl, rfl, rfl, trivial⟩ ⟨by omega, hs.2 ⟨hU, fun k2 z hk hz => last2 (show k = k2 by omega) hy hz (by omega), hp⟩⟩ (by omega) (h2 := SelR.all _)
        | false =>
          refine GX.wR ?_; intros
          exact rt1 () (vN (no fun h => by rw [(hs.1 h).2.2] at hp; cases hp)) (h2 := SelR.all _)
  · have hil : i = l.length := by omega
    subst hil
    rw [List.take_length] at hU
    refine GX.wR ?_; intros
    exact rt1 () (vY hU) (h2 := SelR.all _)

theorem cell_spec (cs : List Value) (v : RtView) (n : Int) (arr : Bool) (c : Int) : Does Tryz.prog 127 [.agg cs.toArray, .int .i64 n, .bool arr, .int .i64 c] [Ag tyRtView cs v] []
    (fun _ : Unit => .tuple #[.int .i64 (cell v.t v.u n arr c).1, .bool (cell v.t v.u n arr c).2.1, .bool (cell v.t v.u n arr c).2.2]) (fun _ => []) (fun _ => []) := by
  refine enter Tryz.func127 rfl Tryz.ntmps127 rfl fun b => ?_
  refine GX.wR ?_; intros
  refine GX.o (cl (of_spec _ v n) fun _ => ?_)
  by_cases h1 : RtM.of v.u n = -1
  · rw [cell_null h1]
    by_cases h2 : 0 ≤ c
    · have e2 : decide (0 ≤ c ∧ c < 8) = decide (c < 8) := decide_eq_decide.2 ⟨fun h => h.2, fun h => ⟨h2, h⟩⟩
      rw [e2]
      refine GX.wR ?_; intros
      exact rt3 () rfl
    · have e2 : decide (0 ≤ c ∧ c < 8) = false := decide_eq_false fun h => h2 h.1
      rw [e2]
      refine GX.wR ?_; intros
      exact rt3 () rfl
  · by_cases h2 : IsClass v.t (RtM.of v.u n)
    · obtain ⟨L, hL, k, hk, hkl, hL2⟩ := gt_in h2
      by_cases h3 : L.arr = arr
      · have hb : (L.arr != arr) = false := by rw [h3]; simp
        by_cases h4 : c < 0
        · rw [cell_out h1 hL h3 (gt_out (.inl h4)), hk]
          rw [hk] at h1 h2
          have h2' := Classical.not_not.2 h2
          refine GX.wR ?_; intros
          refine GX.o (cl (isClass_spec _ v.t k) fun _ => ?_)
          refine GX.wR ?_; intros
          exact rt3 () rfl
        · by_cases h5 : (L.refs.length : Int) ≤ c
          · rw [cell_out h1 hL h3 (gt_out (.inr h5)), hk]
            rw [hk] at h1 h2
            have h2' := Classical.not_not.2 h2
            refine GX.wR ?_; intros
            refine GX.o (cl (isClass_spec _ v.t k) fun _ => ?_)
            refine GX.wR ?_; intros
            exact rt3 () rfl
          · obtain ⟨x, hx, j, rfl, hj, hxj⟩ := gt_in (l := L.refs) (n := c) ⟨by omega, by omega⟩
            rw [cell_some h1 hL h3 hx, hk]
            rw [hk] at h1 h2
            have h2' := Classical.not_not.2 h2
            refine GX.wR ?_; intros
            refine GX.o (cl (isClass_spec _ v.t k) fun _ => ?_)
            refine GX.wR ?_; intros
            exact rt3 () rfl
      · have hb : (L.arr != arr) = true := by simpa using h3
        rw [cell_arr h1 hL h3, hk]
        rw [hk] at h1 h2
        have h2' := Classical.not_not.2 h2
        refine GX.wR ?_; intros
        refine GX.o (cl (isClass_spec _ v.t k) fun _ => ?_)
        refine GX.wR ?_; intros
        exact rt3 () rfl
    · have e2 : gt v.t.classes (RtM.of v.u n) = none := gt_out (by unfold IsClass at h2; omega)
      rw [cell_none h1 e2]
      refine GX.wR ?_; intros
      refine GX.o (cl (isClass_spec _ v.t _) fun _ => ?_)
      refine GX.wR ?_; intros
      exact rt3 () rfl
end Go.Proofs.YtomfpmbapdhbgaaGreat

/- The walks over package rt: loads, lays, only, bare, two, length, fresh. -/
namespace Go.Proofs.YtomfpmbapdhbgaaGreat
open Go Go.RR Go.RX Go.GX Go.Api Go.RiseM Go.ReachM Go.RtM
attribute [local irreducible] wpList Code.wp wpPlan Exit.then Exit.inBlock bodyPost NoPanic Went GX.Post GX.Again GX.Meet GX.RowR GX.Own GX.Owns GX.Box GX.Sl GX.Pt GX.Ag GX.MapR GX.Kept GX.Pin wpT GoK AtEnd Both

theorem loads_spec (cs : List Value) (v : RtView) (a f : Int) (arr : Bool) (c : Int) : Does Tryz.prog 107 [.agg cs.toArray, .int .i64 a, .int .i64 f, .bool arr, .int .i64 c] [Ag tyRtView cs v] []
    (fun _ : Unit => .bool (decide (Loads v.t v.u a f arr c))) (fun _ => []) (fun _ => []) := by
  refine enter Tryz.func107 rfl Tryz.ntmps107 rfl fun b => ?_
  refine GX.wR ?_; intros
  refine GX.o (cl (cell_spec _ v f arr c) fun _ => ?_)
  have hL : Loads v.t v.u a f arr c ↔ (cell v.t v.u f arr c).2.2 = true ∧ (if (cell v.t v.u f arr c).2.1 = true then RtM.of v.u a ≠ -3 else Into (RtM.of v.u a) (cell v.t v.u f arr c).1) := Iff.rfl
  generalize cell v.t v.u f arr c = x at *
  obtain ⟨e, any, ok⟩ := x
  dsimp only at *
  cases ok with
  | false =>
    refine GX.wR ?_; intros
    exact rt1 () (vN fun h => by simp at hL; exact hL h)
  | true =>
    cases any with
    | true =>
      rw [if_pos rfl] at hL
      refine GX.wR ?_; intros
      refine GX.o (cl (of_spec _ v a) fun _ => ?_)
      by_cases h : RtM.of v.u a = -3
      · refine GX.wR ?_; intros
        exact rt1 () (vN fun h2 => (hL.1 h2).2 h)
      · refine GX.wR ?_; intros
        exact rt1 () (vY (hL.2 ⟨rfl, h⟩))
    | false =>
      rw [if_neg (by simp)] at hL
      refine GX.wR ?_; intros
      refine GX.o (cl (of_spec _ v a) fun _ => ?_)
      refine GX.wR ?_; intros
      refine GX.o (cl (into_spec _ e) fun _ => ?_)
      refine GX.wR ?_; intros
      exact rt1 () (vI (hL.trans ⟨fun h => h.2, fun h => ⟨rfl, h⟩⟩))
theorem lays_spec (cs : List Value) (v : RtView) (to : Int) (arr : Bool) (c d : Int) : Does Tryz.prog 108 [.agg cs.toArray, .int .i64 to, .bool arr, .int .i64 c, .int .i64 d] [Ag tyRtView cs v] []
    (fun _ : Unit => .bool (decide (Lays v.t v.u to arr c d))) (fun _ => []) (fun _ => []) := by
  refine enter Tryz.func108 rfl Tryz.ntmps108 rfl fun b => ?_
  refine GX.wR ?_; intros
  refine GX.o (cl (cell_spec _ v to arr c) fun _ => ?_)
  have hL : Lays v.t v.u to arr c d ↔ (cell v.t v.u to arr c).2.2 = true ∧ (if (cell v.t v.u to arr c).2.1 = true then RtM.of v.u d ≠ -3 else Into (cell v.t v.u to arr c).1 (RtM.of v.u d)) := Iff.rfl
  generalize cell v.t v.u to arr c = x at *
  obtain ⟨e, any, ok⟩ := x
  dsimp only at *
  cases ok with
  | false =>
    refine GX.wR ?_; intros
    exact rt1 () (vN fun h => by simp at hL; exact hL h)
  | true =>
    cases any with
    | true =>
      rw [if_pos rfl] at hL
      refine GX.wR ?_; intros
      refine GX.o (cl (of_spec _ v d) fun _ => ?_)
      by_cases h : RtM.of v.u d = -3
      · refine GX.wR ?_; intros
        exact rt1 () (vN fun h2 => (hL.1 h2).2 h)
      · refine GX.wR ?_; intros
        exact rt1 () (vY (hL.2 ⟨rfl, h⟩))
    | false =>
      rw [if_neg (by simp)] at hL
      refine GX.wR ?_; intros
      refine GX.o (cl (of_spec _ v d) fun _ => ?_)
      refine GX.wR ?_; intros
      refine GX.o (cl (into_spec e _) fun _ => ?_)
      refine GX.wR ?_; intros
      exact rt1 () (vI (hL.trans ⟨fun h => h.2, fun h => ⟨rfl, h⟩⟩))
theorem length_spec (cs : List Value) (v : RtView) : Does Tryz.prog 109 [.agg cs.toArray] [Ag tyRtView cs v] []
    (fun _ : Unit => .bool (decide ((cell v.t v.u v.i.b true 0).2.2 = true ∧ RtM.of v.u v.i.a = -2))) (fun _ => []) (fun _ => []) := by
  refine enter Tryz.func109 rfl Tryz.ntmps109 rfl fun b => ?_
  refine GX.wR ?_; intros
  refine GX.o (cl (cell_spec _ v v.i.b true 0) fun _ => ?_)
  generalize cell v.t v.u v.i.b true 0 = x at *
  obtain ⟨e, any, ok⟩ := x
  dsimp only at *
  cases ok with
  | false =>
    refine GX.wR ?_; intros
    exact rt1 () (vN fun h => by simp at h)
  | true =>
    refine GX.wR ?_; intros
    refine GX.o (cl (plain_spec _ v _ _ _ [v.i.a] rfl) fun _ => ?_)
    refine GX.wR ?_; intros
    have e2 : Plain v.u [v.i.a] ↔ RtM.of v.u v.i.a = -2 := by simp [Plain]
    exact rt1 () (vI ⟨fun h => e2.2 h.2, fun h => ⟨rfl, e2.1 h⟩⟩)
set_option maxHeartbeats 1000000 in
theorem fresh_spec (cs : List Value) (v : RtView) (arr : Bool) : Does Tryz.prog 110 [.agg cs.toArray, .bool arr] [Ag tyRtView cs v] []
    (fun _ : Unit => .bool (decide (Fresh v.t v.u v.i arr))) (fun _ => []) (fun _ => []) := by
  refine enter Tryz.func110 rfl Tryz.ntmps110 rfl fun b => ?_
  refine GX.wR ?_; intros
  refine GX.nmP 5 ?_; rintro b5 rfl
  refine frzB b5 ?_
  by_cases h : IsClass v.t v.i.n
  · obtain ⟨L, hL, k, hk, hkl, hL2⟩ := gt_in h
    have hF : Fresh v.t v.u v.i arr ↔ L.arr = arr ∧ RtM.of v.u v.i.a = v.i.n := by unfold Fresh; rw [hL]
    by_cases h3 : L.arr = arr
    · have hb : (L.arr == arr) = true := by rw [h3]; simp
      refine GX.drawn0  (fun j => !(List.contains [4] j)) [(0, true), (1, true), (2, true), (3, true), (4, false), (5, true), (6, true), (7, true), (8, true), (9, true), (10, true), (11, true), (12, true), (13, true), (14, true), (15, true), (16, true), (17, true), (18, true), (19, true), (20, true), (22, true), (23, true), (21, false), (24, true), (25, true), (26, true)] rfl (by kernel_rfl) (by kernel_rfl) (by first | ((repeat (first | apply Go.GX.SelR.nil | apply Go.GX.SelR.cons | (with_reducible apply Go.GX.TakeR.head) | apply Go.GX.TakeR.tail)); done) | (repeat (first | apply Go.GX.SelR.nil | apply Go.GX.SelR.cons | apply Go.GX.TakeR.head | apply Go.GX.TakeR.tail))) ?_; intro wd F hW hR
      refine GX.wT ?_; intros
      refine GX.gow ?_
      refine (cl (isClass_spec _ v.t v.i.n) fun _ => ?_)
      refine GX.wT ?_; intros
      refine GX.gow ?_
      refine (cl (of_spec _ v v.i.a) fun _ => ?_)
      refine GX.wT ?_; intros
      refine GX.wR ?_; intros
      exact rt1 () (vI (hF.trans ⟨fun h => h.2, fun h => ⟨h3, h⟩⟩))
    · have hb : (L.arr == arr) = false := by simpa using h3
      refine GX.drawn0  (fun j => !(List.contains [4] j)) [(0, true), (1, true), (2, true), (3, true), (4, false), (5, true), (6, true), (7, true), (8, true), (9, true), (10, true), (11, true), (12, true), (13, true), (14, true), (15, true), (16, true), (17, true), (18, true), (19, true), (20, true), (22, true), (23, true), (21, false), (24, true), (25, true), (26, true)] rfl (by kernel_rfl) (by kernel_rfl) (by first | ((repeat (first | apply Go.GX.SelR.nil | apply Go.GX.SelR.cons | (with_reducible apply Go.GX.TakeR.head) | apply Go.GX.TakeR.tail)); done) | (repeat (first | apply Go.GX.SelR.nil | apply Go.GX.SelR.cons | apply Go.GX.TakeR.head | apply Go.GX.TakeR.tail))) ?_; intro wd F hW hR
      refine GX.wT ?_; intros
      refine GX.gow ?_
      refine (cl (isClass_spec _ v.t v.i.n) fun _ => ?_)
      refine GX.wT ?_; intros
      refine GX.wR ?_; intros
      exact rt1 () (vN fun h4 => h3 (hF.1 h4).1)
  · have hF : ¬ Fresh v.t v.u v.i arr := by unfold Fresh; rw [gt_out (by unfold IsClass at h; omega)]; exact id
    refine GX.drawn0  (fun j => !(List.contains [4] j)) [(0, true), (1, true), (2, true), (3, true), (4, false), (5, true), (6, true), (7, true), (8, true), (9, true), (10, true), (11, true), (12, true), (13, true), (14, true), (15, true), (16, true), (17, true), (18, true), (19, true), (20, true), (22, true), (23, true), (21, false), (24, true), (25, true), (26, true)] rfl (by kernel_rfl) (by kernel_rfl) (by first | ((repeat (first | apply Go.GX.SelR.nil | apply Go.GX.SelR.cons | (with_reducible apply Go.GX.TakeR.head) | apply Go.GX.TakeR.tail)); done) | (repeat (first | apply Go.GX.SelR.nil | apply Go.GX.SelR.cons | apply Go.GX.TakeR.head | apply Go.GX.TakeR.tail))) ?_; intro wd F hW hR
    refine GX.wT ?_; intros
    refine GX.gow ?_
    refine (cl (isClass_spec _ v.t v.i.n) fun _ => ?_)
    refine GX.wT ?_; intros
    refine GX.wR ?_; intros
    exact rt1 () (vN hF)
set_option maxHeartbeats 1000000 in
theorem two_spec (cs : List Value) (v : RtView) : Does Tryz.prog 106 [.agg cs.toArray] [Ag tyRtView cs v] []
    (fun _ : Unit => .bool (decide (Two v.u v.i))) (fun _ => []) (fun _ => []) := by
  refine enter Tryz.func106 rfl Tryz.ntmps106 rfl fun b => ?_
  by_cases h1 : v.i.n < 14
  · refine GX.wR ?_; intros
    exact rt1 () (vN fun h => by have := h.1; omega)
  by_cases h2 : 24 < v.i.n
  · refine GX.wR ?_; intros
    exact rt1 () (vN fun h => by have := h.1; omega)
  refine GX.wR ?_; intros
  refine GX.o (cl (plain_spec _ v _ _ _ [v.i.a] rfl) fun _ => ?_)
  by_cases h3 : Plain v.u [v.i.a]
  · have h3' := Classical.not_not.2 h3
    have h4 : RtM.of v.u v.i.a = -2 := h3 _ (by simp)
    refine GX.wR ?_; intros
    refine GX.o (cl (plain_spec _ v _ _ _ [v.i.b, v.i.c] rfl) fun _ => ?_)
    have e5 : Plain v.u [v.i.b, v.i.c] ↔ RtM.of v.u v.i.b = -2 ∧ RtM.of v.u v.i.c = -2 := by simp [Plain]
    by_cases h5 : Plain v.u [v.i.b, v.i.c]
    · refine GX.wR ?_; intros
      exact rt1 () (vY ⟨by omega, h4, .inl (e5.1 h5)⟩)
    · have e6 : Refs v.u [v.i.b, v.i.c] ↔ IsRef (RtM.of v.u v.i.b) ∧ IsRef (RtM.of v.u v.i.c) := by simp [Refs]
      by_cases h6 : v.i.n = 21
      · refine GX.wR ?_; intros
        refine GX.o (cl (refs_spec _ v _ _ _ [v.i.b, v.i.c] rfl) fun _ => ?_)
        refine GX.wR ?_; intros
        exact rt1 () (vI ⟨fun h => h.2.2.elim (fun h7 => absurd (e5.2 h7) h5) (fun h7 => e6.2 h7.2), fun h => ⟨by omega, h4, .inr ⟨.inl h6, e6.1 h⟩⟩⟩)
      · by_cases h7 : v.i.n = 22
        · refine GX.wR ?_; intros
          refine GX.o (cl (refs_spec _ v _ _ _ [v.i.b, v.i.c] rfl) fun _ => ?_)
          refine GX.wR ?_; intros
          exact rt1 () (vI ⟨fun h => h.2.2.elim (fun h7 => absurd (e5.2 h7) h5) (fun h7 => e6.2 h7.2), fun h => ⟨by omega, h4, .inr ⟨.inr h7, e6.1 h⟩⟩⟩)
        · refine GX.wR ?_; intros
          exact rt1 () (vN fun h => h.2.2.elim (fun h8 => h5 (e5.2 h8)) (fun h8 => h8.1.elim h6 h7))
  · refine GX.wR ?_; intros
    exact rt1 () (vN fun h => h3 fun n hn => by rw [List.mem_singleton.1 hn]; exact h.2.1)
set_option maxHeartbeats 1000000 in
theorem only_spec (cs : List Value) (i : Ins) (a c d n g : Bool) : Does Tryz.prog 101 [.agg cs.toArray, .bool a, .bool c, .bool d, .bool n, .bool g] [Ag tyIns cs i] []
    (fun _ : Unit => .bool (decide (Only i a c d n g))) (fun _ => []) (fun _ => []) := by
  refine enter Tryz.func101 rfl Tryz.ntmps101 rfl fun b => ?_
  have eg : (i.args.length : Int) = 0 ↔ i.args = [] := by rw [← List.length_eq_zero_iff]; omega
  repeat' (first | (apply GX.s_list; first | apply GX.nil | (refine GX.o ?_; first | (apply GX.k_load; first | refine GX.lr ?_ | refine GX.lrA ?_ | refine GX.ln ?_ | refine GX.lb ?_ | refine GX.lh ?_ | (refine GX.ls ?_; intro ao cap _ _) | (refine GX.lA ?_; intro cs) | (refine GX.l0 ?_; intro cs) | refine GX.o1n ?_ | refine GX.o1b ?_ | refine GX.o1h ?_ | (refine GX.o1s ?_; intro ao cap _ _) | refine GX.omn ?_ | refine GX.omb ?_ | refine GX.omh ?_ | (refine GX.oms ?_; intro ao cap _ _) | refine GX.ofn ?_ | refine GX.ofb ?_ | refine GX.ofh ?_ | (refine GX.ofs ?_; intro ao cap _ _) | (refine GX.oA ?_; intro cs)) | (apply GX.k_move; refine GX.m ?_) | (apply GX.k_assign; refine GX.a ?_) | (apply GX.k_fieldAddr; first | refine GX.f0 ?_ | refine GX.fh ?_ | refine GX.fa ?_) | (apply GX.k_call; refine GX.c_len ?_) | (apply GX.k_pick; first | refine GX.pt ?_ | refine GX.pf ?_ | refine GX.pk ?_) | (apply GX.k_box; first | (refine GX.bxF ?_; intro _) | (refine GX.bxR ?_; intro _)) | (apply GX.k_binOp_eql; first | refine GX.b_eql ?_ | refine GX.b_pn ?_ | refine GX.b_nn ?_ | refine GX.b_snn ?_ | refine GX.b_sns ?_ | refine GX.b_eqls ?_ | refine GX.b_eqltf ?_ | refine GX.b_eqlft ?_ | refine GX.b_eqlb ?_)) | refine GX.gt ?_ | refine GX.gf ?_ | refine GX.gbt ?_ | refine GX.gbf ?_ | refine GX.un ?_ | refine GX.un0 ?_ | (refine GX.gs ?_ ?_ <;> intro _) | (refine GX.gsb ?_ ?_ <;> intro _)) | apply GX.then_normal | apply GX.seq | apply GX.region | (apply GX.s_cond; first | refine GX.ct ?_ | refine GX.cf ?_ | refine GX.cdf ?_ | refine GX.cdt ?_ | refine GX.cbt ?_ | refine GX.cbf ?_ | (refine GX.cs ?_ ?_ <;> intro _) | (refine GX.csb ?_ ?_ <;> intro _)) | apply GX.skip | apply GX.block | apply GX.inBlock_normal | apply GX.exit | apply GX.then_exit | apply GX.inBlock_exit | refine GX.ibo ?_ | apply GX.ret | apply GX.then_ret | apply GX.inBlock_ret)
  all_goals first
    | exact rt1 () (vI (Q := ((i.args.length : Int) = 0)) (by unfold Only; simp_all))
    | exact rt1 () (vY (by unfold Only; simp_all))
    | exact rt1 () (vN (by unfold Only; simp_all))
end Go.Proofs.YtomfpmbapdhbgaaGreat

/- The walks over package rt: bare, call, goes, fits. -/
namespace Go.Proofs.YtomfpmbapdhbgaaGreat
open Go Go.RR Go.RX Go.GX Go.Api Go.RiseM Go.ReachM Go.RtM
attribute [local irreducible] wpList Code.wp wpPlan Exit.then Exit.inBlock bodyPost NoPanic Went GX.Post GX.Again GX.Meet GX.RowR GX.Own GX.Owns GX.Box GX.Sl GX.Pt GX.Ag GX.MapR GX.Kept GX.Pin wpT GoK AtEnd Both

theorem bare_spec (cs : List Value) (i : Ins) : Does Tryz.prog 74 [.agg cs.toArray] [Ag tyIns cs i] []
    (fun _ : Unit => .bool (decide (Bare i))) (fun _ => []) (fun _ => []) := by
  refine enter Tryz.func74 rfl Tryz.ntmps74 rfl fun b => ?_
  repeat' (first | (apply GX.s_list; first | apply GX.nil | (refine GX.o ?_; first | (apply GX.k_load; first | refine GX.lr ?_ | refine GX.lrA ?_ | refine GX.ln ?_ | refine GX.lb ?_ | refine GX.lh ?_ | (refine GX.ls ?_; intro ao cap _ _) | (refine GX.lA ?_; intro cs) | (refine GX.l0 ?_; intro cs) | refine GX.o1n ?_ | refine GX.o1b ?_ | refine GX.o1h ?_ | (refine GX.o1s ?_; intro ao cap _ _) | refine GX.omn ?_ | refine GX.omb ?_ | refine GX.omh ?_ | (refine GX.oms ?_; intro ao cap _ _) | refine GX.ofn ?_ | refine GX.ofb ?_ | refine GX.ofh ?_ | (refine GX.ofs ?_; intro ao cap _ _) | (refine GX.oA ?_; intro cs)) | (apply GX.k_assign; refine GX.a ?_) | (apply GX.k_fieldAddr; first | refine GX.f0 ?_ | refine GX.fh ?_ | refine GX.fa ?_) | (apply GX.k_box; first | (refine GX.bxF ?_; intro _) | (refine GX.bxR ?_; intro _)) | (apply GX.k_binOp_eql; first | refine GX.b_eql ?_ | refine GX.b_pn ?_ | refine GX.b_nn ?_ | refine GX.b_snn ?_ | refine GX.b_sns ?_ | refine GX.b_eqls ?_ | refine GX.b_eqltf ?_ | refine GX.b_eqlft ?_ | refine GX.b_eqlb ?_)) | refine GX.gt ?_ | refine GX.gf ?_ | refine GX.gbt ?_ | refine GX.gbf ?_ | refine GX.un ?_ | refine GX.un0 ?_ | (refine GX.gs ?_ ?_ <;> intro _) | (refine GX.gsb ?_ ?_ <;> intro _)) | apply GX.then_normal | apply GX.seq | apply GX.region | (apply GX.s_cond; first | refine GX.ct ?_ | refine GX.cf ?_ | refine GX.cdf ?_ | refine GX.cdt ?_ | refine GX.cbt ?_ | refine GX.cbf ?_ | (refine GX.cs ?_ ?_ <;> intro _) | (refine GX.csb ?_ ?_ <;> intro _)) | apply GX.skip | apply GX.block | apply GX.inBlock_normal | apply GX.exit | apply GX.then_exit | apply GX.inBlock_exit | refine GX.ibo ?_ | apply GX.ret | apply GX.then_ret | apply GX.inBlock_ret)
  all_goals first
    | (refine GX.o (cl (only_spec _ i _ _ _ _ _) fun _ => ?_)
       refine GX.wR ?_; intros
       refine rt1 () (vI ?_)
       unfold Bare names
       simp_all)
    | exact rt1 () (vN (by unfold Bare names; simp_all))

theorem call_spec (cs : List Value) (v : RtView) : Does Tryz.prog 128 [.agg cs.toArray] [Ag tyRtView cs v] []
    (fun _ : Unit => .bool (decide (CallOk v.t v.u v.i))) (fun _ => []) (fun _ => []) := by
  refine enter Tryz.func128 rfl Tryz.ntmps128 rfl fun b => ?_
  by_cases h1 : v.i.c < 0
  · have e : ¬ CallOk v.t v.u v.i := by unfold CallOk; rw [gt_out (.inl h1)]; exact id
    refine GX.wR ?_; intros
    exact rt1 () (vN e)
  by_cases h2 : (v.t.units.length : Int) ≤ v.i.c
  · have e : ¬ CallOk v.t v.u v.i := by unfold CallOk; rw [gt_out (.inr h2)]; exact id
    refine GX.wR ?_; intros
    exact rt1 () (vN e)
  obtain ⟨g, hg, k, hk, hkl, hg2⟩ := gt_in (l := v.t.units) (n := v.i.c) ⟨by omega, by omega⟩
  have e : CallOk v.t v.u v.i ↔ ((v.i.args.length : Int) = g.params ∧ g.params ≤ (g.vars.length : Int) ∧ (∀ p ∈ v.i.args.zip g.vars, Into p.2 (RtM.of v.u p.1))) ∧ (v.i.a = -1 ∨ Into (RtM.of v.u v.i.a) g.result) := by unfold CallOk; rw [hg]
  by_cases h3 : (v.i.args.length : Int) = g.params
  · by_cases h4 : (g.vars.length : Int) < g.params
    · refine GX.wR ?_; intros
      exact rt1 () (vN fun h => by have := (e.1 h).1.2.1; omega)
    · refine GX.wR ?_; intros
      refine GX.nmP 1 ?_; rintro b1 rfl
      refine GX.nmP 3 ?_; rintro b3 rfl
      refine GX.nmP 4 ?_; rintro b4 rfl
      refine frzB b3 ?_
      refine frzB b4 ?_
      refine GX.nmS 43 ?_; rintro aA cA rfl rfl
      refine GX.loop (σ := Nat) (fun i => [(1, .pointer (some ⟨b1, 0, none⟩)), (3, .pointer (some ⟨b3, 0, none⟩)), (4, .pointer (some ⟨b4, 0, none⟩)), (43, .slice aA v.i.args.length cA), (44, .int .i64 (v.i.args.length : Int)), (45, .int .i64 (i : Int))]) (fun _ => []) (fun _ => [])
        (fun i => i ≤ v.i.args.length ∧ ∀ p ∈ (v.i.args.zip g.vars).take i, Into p.2 (RtM.of v.u p.1)) (fun i => v.i.args.length - i) 0 ⟨rfl, rfl, rfl, rfl, rfl, rfl, trivial⟩ ⟨by omega, by simp⟩ (fun i hi => ?_)
      obtain ⟨hi, hA⟩ := hi
      have hzl : (v.i.args.zip g.vars).length = v.i.args.length := by rw [List.length_zip]; omega
      by_cases hlt : i < v.i.args.length
      · obtain ⟨a, ha⟩ := get_lt hlt
        obtain ⟨w, hw⟩ := get_lt (show i < g.vars.length by omega)
        have hz : (v.i.args.zip g.vars)[i]? = some (a, w) := by rw [List.getElem?_zip_eq_some]; exact ⟨ha, hw⟩
        refine GX.wR ?_; intros
        refine GX.drawn0  (fun j => !(List.contains [8] j)) [(0, true), (1, true), (2, true), (3, true), (4, true), (5, true), (6, true), (7, false), (8, false), (9, true)] rfl (by kernel_rfl) (by kernel_rfl) (by first | ((repeat (first | apply Go.GX.SelR.nil | apply Go.GX.SelR.cons | (with_reducible apply Go.GX.TakeR.head) | apply Go.GX.TakeR.tail)); done) | (repeat (first | apply Go.GX.SelR.nil | apply Go.GX.SelR.cons | apply Go.GX.TakeR.head | apply Go.GX.TakeR.tail))) ?_; intro wd F hW hR
        refine GX.wT ?_; intros
        refine GX.gow ?_
        refine (cl (of_spec _ v a) fun _ => ?_)
        refine GX.wT ?_; intros
        refine GX.gow ?_
        refine (cl (into_spec w _) fun _ => ?_)
        refine GX.wT ?_; intros
        by_cases h5 : Into w (RtM.of v.u a)
        · have h5' := Classical.not_not.2 h5
          refine GX.wR ?_; intros
          refine again (i + 1) ⟨rfl, rfl, rfl, rfl, rfl, rfl, trivial⟩ ⟨by omega, fun p hp => ?_⟩ (by omega)
          rw [List.take_add_one, hz, List.mem_append] at hp
          rcases hp with hp | hp
          · exact hA p hp
          · simp at hp; subst hp; exact h5
        · refine GX.wR ?_; intros
          exact rt1 () (vN fun h => h5 ((e.1 h).1.2.2 (a, w) (List.mem_of_getElem? hz)))
      · rw [List.take_of_length_le (by omega)] at hA
        by_cases h5 : v.i.a = -1
        · refine GX.wR ?_; intros
          refine GX.drawn0  (fun j => !(List.contains [10] j)) [(0, true), (1, true), (2, true), (3, true), (4, true), (5, true), (6, true), (8, true), (9, true), (7, false), (10, false), (11, true), (12, true)] rfl (by kernel_rfl) (by kernel_rfl) (by first | ((repeat (first | apply Go.GX.SelR.nil | apply Go.GX.SelR.cons | (with_reducible apply Go.GX.TakeR.head) | apply Go.GX.TakeR.tail)); done) | (repeat (first | apply Go.GX.SelR.nil | apply Go.GX.SelR.cons | apply Go.GX.TakeR.head | apply Go.GX.TakeR.tail))) ?_; intro wd F hW hR
          refine GX.wT ?_; intros
          refine GX.wR ?_; intros
          exact rt1 () (vY (e.2 ⟨⟨h3, by omega, hA⟩, .inl h5⟩))
        · refine GX.wR ?_; intros
          refine GX.drawn0  (fun j => !(List.contains [10] j)) [(0, true), (1, true), (2, true), (3, true), (4, true), (5, true), (6, true), (8, true), (9, true), (7, false), (10, false), (11, true), (12, true)] rfl (by kernel_rfl) (by kernel_rfl) (by first | ((repeat (first | apply Go.GX.SelR.nil | apply Go.GX.SelR.cons | (with_reducible apply Go.GX.TakeR.head) | apply Go.GX.TakeR.tail)); done) | (repeat (first | apply Go.GX.SelR.nil | apply Go.GX.SelR.cons | apply Go.GX.TakeR.head | apply Go.GX.TakeR.tail))) ?_; intro wd F hW hR
          refine GX.wT ?_; intros
          refine GX.gow ?_
          refine (cl (of_spec _ v _) fun _ => ?_)
          refine GX.wT ?_; intros
          refine GX.gow ?_
          refine (cl (into_spec _ g.result) fun _ => ?_)
          refine GX.wT ?_; intros
          refine GX.wR ?_; intros
          exact rt1 () (vI (e.trans ⟨fun h => h.2.elim (fun h => absurd h h5) id, fun h => ⟨⟨h3, by omega, hA⟩, .inr h⟩⟩))
  · refine GX.wR ?_; intros
    exact rt1 () (vN fun h => h3 (e.1 h).1.1)

theorem goes1_spec (bl : Nat) (v : RtView) (n : Int) : Does Tryz.prog 130 [.int .i64 n, .pointer (some ⟨bl, 0, none⟩)] [Pt tyRtView bl 0 v] [] (fun _ : Unit => .bool (decide (n ∈ v.u.owns))) (fun _ => []) (fun _ => []) := by
  refine enter Tryz.func130 rfl Tryz.ntmps130 rfl fun b => ?_
  refine GX.wR ?_; intros
  refine GX.nmS 6 ?_; rintro ao cap rfl rfl
  refine GX.o (cl (contains_spec ao cap v.u.owns n) fun _ => ?_)
  refine GX.wR ?_; intros
  exact rt1 () rfl
end Go.Proofs.YtomfpmbapdhbgaaGreat
