import Derived.Test.YtkagjpkgboeaiaaR2
import Derived.Test.YtkagjpkgboeaiaaR11
import Derived.Test.YtkagjpkgboeaiaaR16
import Derived.Test.YtkagjpkgboeaiaaR17
/- Regions that draw their order, where each operation only adds to what is known: in whatever order they come up. No program in sight. -/
namespace Go.GX
open Go Go.RowKit Go.RR Go.RX
/-- What an operation leaves. -/
structure Out where
  cs : List Value
  ao : Option Addr
  cap : Nat
structure Sp where
  val : Out → Value
  pf : Out → List Pf
def spA {α : Type} (e : Ty α) (y : α) : Sp := ⟨fun u => .agg u.cs.toArray, fun u => [Ag e u.cs y]⟩
def spS {α : Type} (e : Ty α) (ys : List α) : Sp := ⟨fun u => .slice u.ao ys.length u.cap, fun u => [Sl e u.ao u.cap ys]⟩
structure JTab where
  ds : Nat → Nat
  sp : Nat → Sp
  need : Nat → List Nat
section
variable {P : Program} {n : Nat} {env : Env} {b : Base} {ps : List Pf} {hp : List Res} {Q : Exit → Act → World → Prop} {K : Act → World → Prop}

theorem wpAny_J {ops : Array Oper} {Q : Exit → Act → World → Prop} {J : Array Bool → Act → World → Prop} (hs : ∀ listed a w, J listed a w → ∀ i ∈ Region.ready .any ops listed, wpOp P ops Q i (fun a' w' => J (listed.setIfInBounds i true) a' w') a w)
    (hz : ∀ listed a w, J listed a w → listed.size = ops.size) (hf : ∀ listed a w, J listed a w → Region.ready .any ops listed = [] → Q .normal a w) : ∀ (fuel : Nat) (listed : Array Bool) (a : Act) (w : World), (listed.toList.filter (fun x => !x)).length ≤ fuel → J listed a w → wpAny P .any ops Q fuel listed a w := by
  intro fuel
  induction fuel with
  | zero =>
    intro listed a w hl hJ
    have h0 : Region.ready .any ops listed = [] := by
      rw [List.eq_nil_iff_forall_not_mem]
      intro i hi
      obtain ⟨h1, o, ho, _⟩ := mem_ready.1 hi
      have hi2 : i < listed.size := by rw [hz _ _ _ hJ]; exact (Array.getElem?_eq_some_iff.1 ho).1
      have : listed[i] ∈ listed.toList.filter (fun x => !x) := by
        rw [List.mem_filter]
        exact ⟨by simp, by simp [Array.getD, hi2] at h1; simp [h1]⟩
      have h9 := List.length_pos_of_mem this
      omega
    exact ⟨h0, hf _ _ _ hJ h0⟩
  | succ fuel ih =>
    intro listed a w hl hJ
    refine ⟨hf _ _ _ hJ, fun i hi => wpOp_mono (fun a' w' h => ih _ a' w' ?_ h) (hs _ _ _ hJ i hi)⟩
    obtain ⟨h1, o, ho, _⟩ := mem_ready.1 hi
    have hi2 : i < listed.size := by rw [hz _ _ _ hJ]; exact (Array.getElem?_eq_some_iff.1 ho).1
    have h1 : listed.toList[i]? = some false := by
      simp [Array.getD, hi2] at h1
      simp [hi2, h1]
    have key : ∀ (l : List Bool) (i : Nat), l[i]? = some false → ((l.set i true).filter (fun x => !x)).length + 1 = (l.filter (fun x => !x)).length := by
      intro l
      induction l with
      | nil => intro i h; simp at h
      | cons x l ih =>
        intro i h
        cases i with
        | zero => simp at h; subst h; simp
        | succ i =>
          have := ih i (by simpa using h)
          rw [List.set_cons_succ, List.filter_cons, List.filter_cons]
          cases x
          · simp only [Bool.not_false, if_true, List.length_cons]; omega
          · simpa using this
    have := key _ _ h1
    rw [Array.toList_setIfInBounds]; omega

def preds (o : Oper) (j : Nat) : Bool := o.after.any fun e => Region.binds .any e && Nat.beq e.on j
/-- Is the table in order? -/
def jchk (T : JTab) (base : Env) : List Oper → Nat → Bool
  | [], _ => true
  | o :: r, i => o.guard.isNone && (match o.dst with | some d => Nat.beq d (T.ds i) | none => false) && (T.need i).all (fun j => preds o j && Nat.blt j i) && o.after.all (fun e => Nat.blt e.on i) &&
      base.all (fun q => !Nat.beq q.1 (T.ds i)) && (List.range i).all (fun j => !Nat.beq (T.ds j) (T.ds i)) && jchk T base r (i + 1)
theorem jchk_get {T : JTab} {base : Env} : ∀ {l : List Oper} {k i : Nat} {o : Oper}, jchk T base l k = true → l[i]? = some o →
    o.guard = none ∧ o.dst = some (T.ds (k + i)) ∧ (∀ j ∈ T.need (k + i), preds o j = true ∧ j < k + i) ∧ (∀ e ∈ o.after, e.on < k + i) ∧ (∀ q ∈ base, q.1 ≠ T.ds (k + i)) ∧ ∀ j, j < k + i → T.ds j ≠ T.ds (k + i)
  | [], _, _, _, _, h => by simp at h
  | o :: r, k, i, o', h, hi => by
    simp only [jchk, Bool.and_eq_true] at h
    obtain ⟨⟨⟨⟨⟨⟨h1, h2⟩, h3⟩, h4⟩, h5⟩, h6⟩, h7⟩ := h
    cases i with
    | zero =>
      simp at hi
      subst hi
      refine ⟨by simpa using h1, ?_, fun j hj => ?_, fun e he => ?_, fun q hq e => ?_, fun j hj e => ?_⟩
      · cases hd : o.dst with
        | none => rw [hd] at h2; cases h2
        | some d => rw [hd] at h2; rw [beq_iff.1 h2]; rfl
      · have := List.all_eq_true.1 h3 j hj
        rw [Bool.and_eq_true] at this
        exact ⟨this.1, by simpa [Nat.blt_eq] using this.2⟩
      · have := Array.all_eq_true'.1 h4 e he
        simpa [Nat.blt_eq] using this
      · have := List.all_eq_true.1 h5 q hq
        rw [Nat.add_zero] at e
        rw [beq_iff.2 e] at this; cases this
      · have := List.all_eq_true.1 h6 j (List.mem_range.2 hj)
        rw [Nat.add_zero] at e
        rw [beq_iff.2 e] at this; cases this
    | succ i =>
      have := jchk_get (k := k + 1) (i := i) h7 (by simpa using hi)
      rwa [show k + 1 + i = k + (i + 1) by omega] at this
/-- What an operation is asked. -/
def StepOne (P : Program) (n : Nat) (hp : List Res) (T : JTab) (base : Env) (ps0 : List Pf) (i : Nat) (o : Oper) : Prop :=
  ∀ (b : Base) (v : Nat → Out) (env : Env) (ps : List Pf) (K : Act → World → Prop) (Q : Exit → Act → World → Prop), (∀ j ∈ T.need i, RX.lk env (T.ds j) = some ((T.sp j).val (v j)) ∧ ∀ p ∈ (T.sp j).pf (v j), p ∈ ps) → (∀ x u, RX.lk base x = some u → RX.lk env x = some u) → (∀ p ∈ ps0, p ∈ ps) →
    (∀ u, G n ((T.ds i, (T.sp i).val u) :: env) b ((T.sp i).pf u ++ ps) hp K) → GO P n env b ps hp o K Q
def StepAll (P : Program) (n : Nat) (hp : List Res) (T : JTab) (base : Env) (ps0 : List Pf) : List Oper → Nat → Prop
  | [], _ => True
  | o :: r, i => StepOne P n hp T base ps0 i o ∧ StepAll P n hp T base ps0 r (i + 1)
theorem StepAll.get {T : JTab} {base : Env} {ps0 : List Pf} : ∀ {l : List Oper} {k i : Nat} {o : Oper}, StepAll P n hp T base ps0 l k → l[i]? = some o → StepOne P n hp T base ps0 (k + i) o
  | [], _, _, _, _, h => by simp at h
  | o :: r, k, i, o', h, hi => by
    cases i with
    | zero => simp at hi; subst hi; exact h.1
    | succ i =>
      have := StepAll.get (k := k + 1) (i := i) h.2 (by simpa using hi)
      rwa [show k + 1 + i = k + (i + 1) by omega] at this
structure JInv (n : Nat) (b : Base) (hp : List Res) (T : JTab) (base : Env) (ps0 : List Pf) (size : Nat) (listed : Array Bool) (a : Act) (w : World) (v : Nat → Out) (env : Env) (ps : List Pf) : Prop where
  size : listed.size = size
  has : Has n env a
  ok : Ok b ps hp w
  slots : ∀ j, listed.getD j false = true → RX.lk env (T.ds j) = some ((T.sp j).val (v j))
  facts : ∀ j, listed.getD j false = true → ∀ p ∈ (T.sp j).pf (v j), p ∈ ps
  base : ∀ x u, RX.lk base x = some u → RX.lk env x = some u
  fs : ∀ p ∈ ps0, p ∈ ps
theorem lk_mem : ∀ {env : Env} {x : Nat} {u : Value}, RX.lk env x = some u → ∃ q ∈ env, q.1 = x
  | [], _, _, h => by simp [RX.lk] at h
  | (k, w) :: r, x, u, h => by
    rw [RX.lk_cons] at h
    split at h
    · rename_i e; exact ⟨_, List.mem_cons_self, e⟩
    · obtain ⟨q, h1, h2⟩ := lk_mem h
      exact ⟨q, List.mem_cons_of_mem _ h1, h2⟩
theorem getD_set {listed : Array Bool} {i j : Nat} (h : (listed.setIfInBounds i true).getD j false = true) : j = i ∨ listed.getD j false = true := by
  by_cases e : i = j
  · exact .inl e.symm
  · right
    simpa [Array.getD_eq_getD_getElem?, Array.getElem?_setIfInBounds, e] using h
end
section
variable {P : Program} {n : Nat} {hp : List Res} {T : JTab} {base : Env} {ps0 : List Pf} {i d : Nat} {ty t : TypeId} {pos : String} {aft : Array Edge} {gd : Option (Nat × Bool)} {α : Type} {e : Ty α}
def IsItem (q : Sp) (e : Ty α) (y : α) : Prop := ∀ (u : Out) (ps : List Pf), (∀ p ∈ q.pf u, p ∈ ps) → Reads ps (q.val u) e y
inductive JL (T : JTab) {α : Type} (e : Ty α) : List Nat → List α → Prop where
  | nil : JL T e [] []
  | cons {j : Nat} {js : List Nat} {y : α} {ys : List α} : IsItem (T.sp j) e y → JL T e js ys → JL T e (j :: js) (y :: ys)
def prt (T : JTab) : List Nat → Nat → List (Nat × Operand)
  | [], _ => []
  | j :: r, k => (k, .tmp (T.ds j)) :: prt T r (k + 1)
theorem JL.lits {v : Nat → Out} {ps : List Pf} {js : List Nat} {ys : List α} (h : JL T e js ys) (hp : ∀ j ∈ js, ∀ p ∈ (T.sp j).pf (v j), p ∈ ps) : Lits ps e (js.map fun j => (T.sp j).val (v j)) ys ∧ ys.length = js.length := by
  induction h with
  | nil => exact ⟨.nil, rfl⟩
  | cons h1 _ ih =>
    obtain ⟨h3, h4⟩ := ih fun j hj => hp j (by simp [hj])
    exact ⟨.cons (h1 _ _ (hp _ (by simp))) h3, by simp [h4]⟩
end
section
variable {P : Program} {n : Nat} {env : Env} {b : Base} {ps : List Pf} {hp : List Res} {K : Act → World → Prop}
end
end Go.GX

/- Regions that draw their order, where what an operation leaves may hang on what those ahead of it left, and things of one's own are made. No program in sight. -/
namespace Go.GX
open Go Go.RowKit Go.RR Go.RX
/-- The table: what lies in the slots, what is known, what is one's own; `dep` is what the entries hang on. -/
structure JTabV where
  ds : Nat → Nat
  val : Nat → (Nat → Out) → Value
  pf : Nat → (Nat → Out) → List Pf
  hr : Nat → (Nat → Out) → List Res
  need : Nat → List Nat
  dep : Nat → List Nat
def JTabV.t (T : JTabV) : JTab := ⟨T.ds, fun i => ⟨fun _ => T.val i fun _ => ⟨[], none, 0⟩, fun _ => []⟩, T.need⟩
def updO (v : Nat → Out) (i : Nat) (u : Out) : Nat → Out := fun j => if j = i then u else v j
theorem updO_self (v : Nat → Out) (i : Nat) (u : Out) : updO v i u i = u := if_pos rfl
theorem updO_ne {v : Nat → Out} {i j : Nat} {u : Out} (h : j ≠ i) : updO v i u j = v j := if_neg h
structure JTabV.Loc (T : JTabV) : Prop where
  loc : ∀ (i : Nat) (v v' : Nat → Out), v i = v' i → (∀ x ∈ T.dep i, v x = v' x) → T.val i v = T.val i v' ∧ T.pf i v = T.pf i v' ∧ T.hr i v = T.hr i v'
def dchk (T : JTabV) : List Oper → Nat → Bool
  | [], _ => true
  | o :: r, i => (T.dep i).all (fun x => preds o x || (List.range i).any fun y => preds o y && (T.dep y).contains x) && dchk T r (i + 1)
theorem dchk_get {T : JTabV} : ∀ {l : List Oper} {k i : Nat} {o : Oper}, dchk T l k = true → l[i]? = some o → ∀ x ∈ T.dep (k + i), preds o x = true ∨ ∃ y, preds o y = true ∧ x ∈ T.dep y
  | [], _, _, _, _, h => by simp at h
  | o :: r, k, i, o', h, hi => by
    simp only [dchk, Bool.and_eq_true] at h
    cases i with
    | zero =>
      simp at hi; subst hi
      intro x hx
      have := List.all_eq_true.1 h.1 x hx
      rw [Bool.or_eq_true] at this
      rcases this with h1 | h1
      · exact .inl h1
      · obtain ⟨y, _, h2⟩ := List.any_eq_true.1 h1
        rw [Bool.and_eq_true] at h2
        exact .inr ⟨y, h2.1, by simpa using h2.2⟩
    | succ i =>
      have := dchk_get (k := k + 1) (i := i) h.2 (by simpa using hi)
      rwa [show k + 1 + i = k + (i + 1) by omega] at this
section
variable {P : Program} {n : Nat} {env : Env} {b : Base} {ps : List Pf} {hp : List Res} {Q : Exit → Act → World → Prop} {K : Act → World → Prop}
/-- What an operation is asked. -/
def StepV (P : Program) (n : Nat) (T : JTabV) (base : Env) (ps0 : List Pf) (i : Nat) (o : Oper) : Prop :=
  ∀ (b : Base) (v : Nat → Out) (env : Env) (ps : List Pf) (hp : List Res) (K : Act → World → Prop) (Q : Exit → Act → World → Prop), (∀ j ∈ T.need i, RX.lk env (T.ds j) = some (T.val j v) ∧ ∀ p ∈ T.pf j v, p ∈ ps) → (∀ x u, RX.lk base x = some u → RX.lk env x = some u) → (∀ p ∈ ps0, p ∈ ps) →
    (∀ u, G n ((T.ds i, T.val i (updO v i u)) :: env) b (T.pf i (updO v i u) ++ ps) (T.hr i (updO v i u) ++ hp) K) → GO P n env b ps hp o K Q
def StepsV (P : Program) (n : Nat) (T : JTabV) (base : Env) (ps0 : List Pf) : List Oper → Nat → Prop
  | [], _ => True
  | o :: r, i => StepV P n T base ps0 i o ∧ StepsV P n T base ps0 r (i + 1)
theorem StepsV.get {T : JTabV} {base : Env} {ps0 : List Pf} : ∀ {l : List Oper} {k i : Nat} {o : Oper}, StepsV P n T base ps0 l k → l[i]? = some o → StepV P n T base ps0 (k + i) o
  | [], _, _, _, _, h => by simp at h
  | o :: r, k, i, o', h, hi => by
    cases i with
    | zero => simp at hi; subst hi; exact h.1
    | succ i =>
      have := StepsV.get (k := k + 1) (i := i) h.2 (by simpa using hi)
      rwa [show k + 1 + i = k + (i + 1) by omega] at this
theorem getD_mono {listed : Array Bool} {i j : Nat} (h : listed.getD j false = true) (hi : i < listed.size) : (listed.setIfInBounds i true).getD j false = true := by
  by_cases e : i = j
  · subst e; simp [Array.getD, hi]
  · simpa [Array.getD_eq_getD_getElem?, Array.getElem?_setIfInBounds, e] using h
structure JInvV (n : Nat) (b : Base) (hp0 : List Res) (T : JTabV) (base : Env) (ps0 : List Pf) (size : Nat) (listed : Array Bool) (a : Act) (w : World) (v : Nat → Out) (env : Env) (ps : List Pf) (hp : List Res) (js : List Nat) : Prop where
  size : listed.size = size
  has : Has n env a
  ok : Ok b ps hp w
  dl : ∀ j, listed.getD j false = true → ∀ x ∈ T.dep j, listed.getD x false = true
  slots : ∀ j, listed.getD j false = true → RX.lk env (T.ds j) = some (T.val j v)
  facts : ∀ j, listed.getD j false = true → ∀ p ∈ T.pf j v, p ∈ ps
  base : ∀ x u, RX.lk base x = some u → RX.lk env x = some u
  fs : ∀ p ∈ ps0, p ∈ ps
  nd : js.Nodup
  mem : ∀ j, j ∈ js ↔ listed.getD j false = true
  perm : hp.Perm ((js.flatMap fun j => T.hr j v) ++ hp0)
/-- A region whose operations come up in any order. -/
theorem drawnJV {id : Nat} {l : List Oper} (T : JTabV) (base : Env) (fin : List Nat) [hm : Mixed P] (hT : T.Loc) (hlen : jchk T.t base l 0 = true) (hdep : dchk T l 0 = true) (hb : RX.Sub base env) (hs : StepsV P n T base ps l 0) (hfin : fin.all (fun j => Nat.blt j l.length) = true)
    (h : ∀ v : Nat → Out, G n ((fin.map fun j => (T.ds j, T.val j v)) ++ base) b ((fin.flatMap fun j => T.pf j v) ++ ps) (((List.range l.length).flatMap fun j => T.hr j v) ++ hp) (Q .normal)) : G n env b ps hp ((Code.region id l.toArray true).wp P Q) := by
  constructor
  rintro w ⟨F, s⟩
  constructor
  intro a ha
  refine wp_region_noPanic (wp_region_any hm.m (wpAny_J (J := fun listed a w => ∃ v env ps' hs js, JInvV n b hp T base ps l.length listed a w v env ps' hs js) ?_ (fun listed a w ⟨v, env, ps', hs', js, hJ⟩ => by simpa using hJ.size) ?_ _ _ _ _ (by simp) ⟨fun _ => ⟨[], none, 0⟩, env, ps, hp, [], by simp, ha, ⟨F, s.drew⟩, fun j hj => ?_, fun j hj => ?_, fun j hj => ?_, ?_, fun p hp => hp, List.nodup_nil, fun j => by simp [Array.getD], List.Perm.refl _⟩))
  · rintro listed a w ⟨v, env', ps', hs', js, hJ⟩ i hi
    obtain ⟨h1, o, ho, h2⟩ := mem_ready.1 hi
    have ho' : l[i]? = some o := by simpa using ho
    have hil : i < listed.size := by rw [hJ.size]; exact (List.getElem?_eq_some_iff.1 ho').1
    obtain ⟨c1, c2, c3, c4, c5, c6⟩ := jchk_get hlen ho'
    rw [Nat.zero_add] at c2 c3 c4 c5 c6
    have c2 : o.dst = some (T.ds i) := c2
    have c3 : ∀ j ∈ T.need i, preds o j = true ∧ j < i := c3
    have c5 : ∀ q ∈ base, q.1 ≠ T.ds i := c5
    have c6 : ∀ j, j < i → T.ds j ≠ T.ds i := c6
    have hst := hs.get ho'
    rw [Nat.zero_add] at hst
    have hj : ∀ j ∈ T.need i, listed.getD j false = true := fun j hj => by
      obtain ⟨h3, _⟩ := c3 j hj
      obtain ⟨e, he, h4⟩ := Array.any_eq_true'.1 h3
      rw [Bool.and_eq_true, beq_iff] at h4
      have := h2 e he h4.1
      rwa [h4.2] at this
    have hfalse : listed.getD i false = false := by
      simp [Array.getD, hil] at h1 ⊢; exact h1
    have key := hst b v env' ps' hs' (fun a' w' => ∃ v env ps' hs' js, JInvV n b hp T base ps l.length (listed.setIfInBounds i true) a' w' v env ps' hs' js) (NoPanic Q) (fun j hj' => ⟨hJ.slots j (hj j hj'), hJ.facts j (hj j hj')⟩) hJ.base hJ.fs (fun u => ⟨fun w' hok => ⟨fun a' ha' => ?_⟩⟩)
    · unfold wpOp
      simp only [ho]
      rw [if_pos (by simp [Region.wanted, c1])]
      have h3 := (key.run w hJ.ok).run a hJ.has
      exact .inl h3
    · have hni : i ∉ js := fun h => by rw [hJ.mem, hfalse] at h; cases h
      have hloc : ∀ j, j ≠ i → listed.getD j false = true → T.val j v = T.val j (updO v i u) ∧ T.pf j v = T.pf j (updO v i u) ∧ T.hr j v = T.hr j (updO v i u) := fun j hne hlj => hT.loc j v _ (updO_ne hne).symm fun x hx => by
        have := hJ.dl j hlj x hx
        exact (updO_ne (fun e => by subst e; rw [hfalse] at this; cases this)).symm
      have hpl : ∀ x, preds o x = true → listed.getD x false = true := fun x hx => by
        obtain ⟨e, he, h4⟩ := Array.any_eq_true'.1 hx
        rw [Bool.and_eq_true, beq_iff] at h4
        have := h2 e he h4.1
        rwa [h4.2] at this
      have hdi : ∀ x ∈ T.dep i, listed.getD x false = true := fun x hx => by
        have := dchk_get hdep ho'
        rw [Nat.zero_add] at this
        rcases this x hx with h5 | ⟨y, h5, h6⟩
        · exact hpl x h5
        · exact hJ.dl y (hpl y h5) x h6
      refine ⟨updO v i u, _, _, _, i :: js, by simp [hJ.size], ha', hok, fun j hj' x hx => ?_, fun j hj' => ?_, fun j hj' p hp' => ?_, fun x u' hx => ?_, fun p hp' => List.mem_append_right _ (hJ.fs p hp'), List.nodup_cons.2 ⟨hni, hJ.nd⟩, fun j => ?_, ?_⟩
      · refine getD_mono ?_ hil
        rcases getD_set hj' with e0 | hq
        · rw [e0] at hx; exact hdi x hx
        · exact hJ.dl j hq x hx
      · rcases getD_set hj' with e0 | hq
        · rw [e0, RX.lk_cons, if_pos rfl]
        · have hne : j ≠ i := fun e => by subst e; rw [hfalse] at hq; cases hq
          rw [← (hloc j hne hq).1]
          have hd : T.ds i ≠ T.ds j := by
            rcases Nat.lt_or_gt_of_ne hne with h4 | h4
            · exact fun e => c6 j h4 e.symm
            · have hjl : j < l.length := by
                have : j < listed.size := Classical.byContradiction fun h5 => by
                  simp [Array.getD, h5] at hq
                rwa [hJ.size] at this
              obtain ⟨_, _, _, _, _, d6⟩ := jchk_get hlen (List.getElem?_eq_getElem hjl)
              rw [Nat.zero_add] at d6
              have d6 : ∀ i, i < j → T.ds i ≠ T.ds j := d6
              exact d6 i h4
          rw [RX.lk_cons, if_neg hd]
          exact hJ.slots j hq
      · rcases getD_set hj' with e0 | hq
        · rw [e0] at hp'
          exact List.mem_append_left _ hp'
        · have hne : j ≠ i := fun e => by subst e; rw [hfalse] at hq; cases hq
          rw [← (hloc j hne hq).2.1] at hp'
          exact List.mem_append_right _ (hJ.facts j hq p hp')
      · obtain ⟨q, hq, e⟩ := lk_mem hx
        rw [RX.lk_cons, if_neg (fun e2 => c5 q hq (e.trans e2.symm))]
        exact hJ.base x u' hx
      · rw [List.mem_cons, hJ.mem]
        constructor
        · rintro (rfl | h5)
          · simp [Array.getD, hil]
          · by_cases e : i = j
            · subst e; simp [Array.getD, hil]
            · simpa [Array.getD_eq_getD_getElem?, Array.getElem?_setIfInBounds, e] using h5
        · intro h5; exact getD_set h5
      · rw [List.flatMap_cons, List.append_assoc]
        refine List.Perm.append_left _ (hJ.perm.trans (List.Perm.of_eq ?_))
        congr 1
        have : ∀ l : List Nat, (∀ j ∈ l, j ≠ i ∧ listed.getD j false = true) → (l.flatMap fun j => T.hr j v) = l.flatMap fun j => T.hr j (updO v i u) := by
          intro l
          induction l with
          | nil => intro _; rfl
          | cons j l ih =>
            intro h6
            rw [List.flatMap_cons, List.flatMap_cons, (hloc j (h6 j (by simp)).1 (h6 j (by simp)).2).2.2, ih fun j hj => h6 j (by simp [hj])]
        exact this js fun j hj => ⟨fun e => hni (e ▸ hj), (hJ.mem j).1 hj⟩
  · rintro listed a w ⟨v, env', ps', hs', js, hJ⟩ h0
    have hall : ∀ i, i < l.length → listed.getD i false = true := by
      intro i
      induction i using Nat.strongRecOn with
      | _ i ih =>
        intro hi
        refine Classical.byContradiction fun hne => ?_
        have hil : i < listed.size := by rw [hJ.size]; exact hi
        have ho := List.getElem?_eq_getElem hi
        obtain ⟨_, _, _, c4, _, _⟩ := jchk_get hlen ho
        rw [Nat.zero_add] at c4
        have : i ∈ Region.ready .any l.toArray listed := mem_ready.2 ⟨by simp [Array.getD, hil] at hne ⊢; exact hne, _, by simp [ho], fun e he _ => ih _ (c4 e he) (Nat.lt_trans (c4 e he) hi)⟩
        rw [h0] at this; simp at this
    have hf : ∀ j ∈ fin, listed.getD j false = true := fun j hj => hall j (by have := List.all_eq_true.1 hfin j hj; simpa [Nat.blt_eq] using this)
    refine ((h v).run w ?_).run a (hJ.has.sub fun t u ht => ?_)
    · obtain ⟨F', s'⟩ := hJ.ok
      have hjs : js.Perm (List.range l.length) := (List.perm_ext_iff_of_nodup hJ.nd List.nodup_range).2 fun j => by
        rw [hJ.mem, List.mem_range]
        refine ⟨fun h5 => Classical.byContradiction fun h6 => ?_, hall j⟩
        have : ¬ j < listed.size := by rw [hJ.size]; exact h6
        simp [Array.getD, this] at h5
      refine ⟨F', (s'.perm (hJ.perm.trans ((hjs.flatMap_right _).append_right _))).less (fun p hp => ?_) (List.Sublist.refl _)⟩
      rcases List.mem_append.1 hp with hp | hp
      · obtain ⟨j, hj, hp⟩ := List.mem_flatMap.1 hp
        exact hJ.facts j (hf j hj) p hp
      · exact hJ.fs p hp
    · have key : ∀ js : List Nat, (∀ j ∈ js, listed.getD j false = true) → RX.lk ((js.map fun j => (T.ds j, T.val j v)) ++ base) t = some u → RX.lk env' t = some u := by
        intro js
        induction js with
        | nil => intro _ ht2; exact hJ.base t u ht2
        | cons j js ih =>
          intro hjs ht2
          rw [List.map_cons, List.cons_append, RX.lk_cons] at ht2
          split at ht2
          · rename_i e; subst e
            rw [hJ.slots j (hjs j (by simp))]; exact ht2
          · exact ih (fun j hj => hjs j (by simp [hj])) ht2
      exact key fin hf ht
  · simp [Array.getD] at hj
  · simp [Array.getD] at hj
  · simp [Array.getD] at hj
  · intro x u hx; exact hb.spec x u hx
end
section
variable {P : Program} {n : Nat} {T : JTabV} {base : Env} {ps0 : List Pf} {i d : Nat} {ty t : TypeId} {pos : String} {aft : Array Edge} {gd : Option (Nat × Bool)} {α : Type} {e : Ty α}
theorem kvLd {s bl : Nat} {y : Int} [UOne P t] (hs : RX.lk base s = some (.pointer (some ⟨bl, 0, none⟩))) (hm : Pt Ty.int bl 0 y ∈ ps0) (hv : ∀ v, T.val i v = .int .i64 y) (hp0 : ∀ v, T.pf i v = []) (hr0 : ∀ v, T.hr i v = []) (hd' : T.ds i = d) (hd : Nat.blt d n = true) : StepV P n T base ps0 i ⟨some d, .load t (.tmp s), ty, pos, aft, gd⟩ := by
  intro b v env ps hp K Q hn hb hps h
  have h := h ⟨[], none, 0⟩
  rw [hv, hp0, hr0, hd'] at h
  have hF : FPt bl 0 ps Ty.int 0 0 y := ⟨hps _ hm, rfl⟩
  exact ln (e := Ty.int) (bl := bl) (o' := 0) (off := 0) (y := y) h (hx := hb _ _ hs) (hd := hd)
theorem kvMv {s : Nat} {x : Value} (hs : RX.lk base s = some x) (hv : ∀ v, T.val i v = x) (hp0 : ∀ v, T.pf i v = []) (hr0 : ∀ v, T.hr i v = []) (hd' : T.ds i = d) (hd : Nat.blt d n = true) : StepV P n T base ps0 i ⟨some d, .move (.tmp s), ty, pos, aft, gd⟩ := by
  intro b v env ps hp K Q hn hb hps h
  have h := h ⟨[], none, 0⟩
  rw [hv, hp0, hr0, hd'] at h
  exact m h (hx := hb _ _ hs) (hd := hd)
theorem kvAs {j : Nat} {x : (Nat → Out) → Value} (hj : j ∈ T.need i) (hx : ∀ v, T.val j v = x v) (hv : ∀ v u, T.val i (updO v i u) = x v) (hp0 : ∀ v, T.pf i v = []) (hr0 : ∀ v, T.hr i v = []) (hd' : T.ds i = d) (hd : Nat.blt d n = true) : StepV P n T base ps0 i ⟨some d, .assign (.tmp (T.ds j)), ty, pos, aft, gd⟩ := by
  intro b v env ps hp K Q hn hb hps h
  have h := h ⟨[], none, 0⟩
  rw [hv, hp0, hr0, hd'] at h
  have h1 := (hn j hj).1
  rw [hx] at h1
  exact a h (hx := h1) (hd := hd)
theorem kvMk {j c : Nat} {et : TypeId} {z : α} {zv : Value} {size bytes : Nat} [ht : USlice P t et] [hi : UElem P et zv size bytes] [hz : UTy P et e z zv] (hj : j ∈ T.need i) (hx : ∀ v, T.val j v = .int .i64 (c : Int)) (hv : ∀ v, T.val i v = .slice (some ⟨(v i).cap, 0, none⟩) c c) (hp0 : ∀ v, T.pf i v = []) (hr0 : ∀ v, T.hr i v = [Own et e (some ⟨(v i).cap, 0, none⟩) c (List.replicate c z)])
    (hb1 : bytes * c ≤ 281474976710656) (h63 : c ≤ 9223372036854775807) (hsz : e.size = size) (hzs : zv.cells.size = size) (hd' : T.ds i = d) (hd : Nat.blt d n = true) : StepV P n T base ps0 i ⟨some d, .makeSlice t (.tmp (T.ds j)) (.tmp (T.ds j)), ty, pos, aft, gd⟩ := by
  intro b v env ps hp K Q hn hb hps h
  have h1 := (hn j hj).1
  rw [hx] at h1
  refine mks (c := c) (z := z) (e := e) (i := (c : Int)) (kx := .i64) (ky := .i64) (fun bl => ?_) (hx := h1) (hy := h1) (hi0 := rfl) (hb := hb1) (h63 := h63) (hsz := hsz) (hzs := hzs) (hd := hd)
  have h := h ⟨[], none, bl⟩
  rw [hv, hp0, hr0, hd', updO_self] at h
  exact h
end
end Go.GX

/- How a solver starts, and how its lists grow. No program in sight. -/
namespace Go.SolM
open Go.Api Go.RiseM
def st0 (d : Dim) : Sv := ⟨List.replicate d.M 0, List.replicate d.M 0, List.replicate d.M [], [], List.replicate d.M false, []⟩
theorem has_rep (m n s : Nat) : ¬ has (List.replicate m 0) n s := by
  unfold has
  rw [List.getD_eq_getElem?_getD, List.getElem?_replicate]
  split <;> simp
theorem rep_get {α : Type} {m i : Nat} {x y : α} (h : (List.replicate m x)[i]? = some y) : y = x := by
  rw [List.getElem?_replicate] at h
  split at h
  · exact (Option.some.inj h).symm
  · cases h
theorem st0_inv (d : Dim) (l : List Con) : Inv d l (st0 d) := by
  refine ⟨by simp [st0], by simp [st0], by simp [st0], by simp [st0], fun z hz => ?_, fun z hz => ?_, fun n s h => absurd h (has_rep _ _ _), fun n s h => absurd h (has_rep _ _ _), fun x y h => by simp [st0] at h, fun x y => ?_, fun g hg => ?_, fun y hy => by simp [st0] at hy, fun i hi => ?_, by simp [st0]⟩
  · rw [List.eq_of_mem_replicate hz]; omega
  · rw [List.eq_of_mem_replicate hz]; omega
  · refine ⟨fun h => by simp [st0] at h, fun ⟨g, h1, h2⟩ => ?_⟩
    rw [rep_get h1] at h2; simp at h2
  · rw [List.eq_of_mem_replicate hg]; simp
  · exact absurd (rep_get hi) (by simp)
theorem st0_c1 (d : Dim) : C1 (st0 d) := fun n _ s hs => absurd hs (has_rep _ _ _)
theorem st0_c3 (d : Dim) (ex : Nat → Prop) : C3 (st0 d) ex := fun x y h => by simp [st0] at h
theorem asks0 (d : Dim) (l : List Con) : Asks d l (List.replicate d.M []) := ⟨by simp, fun n ks h q hq => by rw [rep_get h] at hq; simp at hq⟩
/-- A node waits. -/
theorem inv_look {d : Dim} {l : List Con} {st : Sv} {n : Nat} {wn : Bool} {ys : List Int} (h : Inv d l st) (hw : st.W[n]? = some wn) (hy : wn = true ∧ ys = st.xs ∨ wn = false ∧ ys.Perm (st.xs ++ [(n : Int)])) : Inv d l ⟨st.A, st.E, st.G, st.D, st.W.set n true, ys⟩ := by
  have hn := (List.getElem?_eq_some_iff.1 hw).1
  have hmem : ∀ y : Int, y ∈ ys ↔ y ∈ st.xs ∨ y = (n : Int) := fun y => by
    rcases hy with ⟨h1, rfl⟩ | ⟨h1, h2⟩
    · exact ⟨.inl, fun h3 => h3.elim id fun h3 => by rw [h3]; exact h.inq n (by rw [hw, h1])⟩
    · rw [h2.mem_iff, List.mem_append, List.mem_singleton]
  have hW2 : ∀ i : Nat, (st.W.set n true)[i]? = some true ↔ i = n ∨ st.W[i]? = some true := fun i => by
    by_cases e : n = i
    · subst e; rw [List.getElem?_set_self hn]; simp
    · rw [List.getElem?_set_ne e]; exact ⟨.inr, fun h => h.elim (fun h => absurd h.symm e) id⟩
  refine ⟨h.la, h.le, h.lg, by rw [List.length_set]; exact h.lw, h.wa, h.we, h.snd, h.seen, h.flow, h.goes, h.gnd, fun y hy2 => ?_, fun i hi => ?_, ?_⟩
  · rcases (hmem y).1 hy2 with h1 | rfl
    · obtain ⟨i, rfl, h2⟩ := h.que y h1
      exact ⟨i, rfl, (hW2 i).2 (.inr h2)⟩
    · exact ⟨n, rfl, (hW2 n).2 (.inl rfl)⟩
  · rcases (hW2 i).1 hi with rfl | h1
    · exact (hmem _).2 (.inr rfl)
    · exact (hmem _).2 (.inl (h.inq i h1))
  · rcases hy with ⟨_, rfl⟩ | ⟨h1, h2⟩
    · exact h.nd
    · refine h2.nodup_iff.2 (List.nodup_append.2 ⟨h.nd, by simp, fun x hx y hy e => ?_⟩)
      rw [List.mem_singleton] at hy
      subst hy; subst e
      obtain ⟨i, e, h3⟩ := h.que _ hx
      obtain rfl : i = n := by omega
      rw [hw, h1] at h3; cases h3
theorem c1_look {st : Sv} {n : Nat} {ys : List Int} (h : C1 st) : C1 ⟨st.A, st.E, st.G, st.D, st.W.set n true, ys⟩ := fun i hi s hs => by
  by_cases e : n = i
  · subst e
    dsimp only at hi
    rw [List.getElem?_set] at hi
    split at hi
    · split at hi <;> simp at hi
    · exact absurd rfl ‹_›
  · dsimp only at hi
    rw [List.getElem?_set_ne e] at hi
    exact h i hi s hs
theorem c3_look {st : Sv} {n : Nat} {ys : List Int} {ex : Nat → Prop} (h : C3 st ex) : C3 ⟨st.A, st.E, st.G, st.D, st.W.set n true, ys⟩ ex := fun x y hxy hx => by
  rcases h x y hxy hx with h1 | h1
  · left
    dsimp only
    by_cases e : n = x
    · subst e; rw [List.getElem?_set_self (List.getElem?_eq_some_iff.1 h1).1]
    · rw [List.getElem?_set_ne e]; exact h1
  · exact .inr h1
/-- A list that is filled from the front. -/
def filled {α : Type} (f : Nat → α) (z : α) (m i : Nat) : List α := (List.range i).map f ++ List.replicate (m - i) z
theorem filled_len {α : Type} {f : Nat → α} {z : α} {m i : Nat} (h : i ≤ m) : (filled f z m i).length = m := by unfold filled; simp; omega
theorem filled_zero {α : Type} (f : Nat → α) (z : α) (m : Nat) : filled f z m 0 = List.replicate m z := by simp [filled]
theorem filled_all {α : Type} (f : Nat → α) (z : α) (m : Nat) : filled f z m m = (List.range m).map f := by simp [filled]
theorem filled_set {α : Type} {f : Nat → α} {z : α} {m i : Nat} (h : i < m) : (filled f z m i).set i (f i) = filled f z m (i + 1) := by
  unfold filled
  have e : m - i = (m - (i + 1)) + 1 := by omega
  rw [List.set_append_right _ _ (by simp), e, List.replicate_succ]
  simp [List.range_succ]
theorem filled_get {α : Type} {f : Nat → α} {z : α} {m i : Nat} (h : i < m) : (filled f z m i)[i]? = some z := by
  unfold filled
  rw [List.getElem?_append_right (by simp), List.getElem?_replicate]
  simp; omega
end Go.SolM

/- The solver when it is done: what is read of it stays. -/
namespace Go.GX
open Go Go.RowKit Go.RR Go.RX
/-- The first cells of a solver. -/
abbrev S3 := Int × Int × List Int × Unit
def tyS3 : Ty S3 := Ty.pair Ty.int (Ty.pair Ty.int (Ty.pair (Ty.slice (Ty.num .u64)) Ty.unit))
instance : Sub tyS3 0 Ty.int (fun y => y.1) (fun z y => (z, y.2)) := Sub.fst (Sub.whole _)
instance : Sub tyS3 1 Ty.int (fun y => y.2.1) (fun z y => (y.1, z, y.2.2)) := Sub.snd (a := Ty.int) (Sub.fst (Sub.whole _))
instance : Sub tyS3 2 (Ty.slice (Ty.num .u64)) (fun y => y.2.2.1) (fun z y => (y.1, y.2.1, z, y.2.2.2)) := Sub.snd (a := Ty.int) (Sub.snd (a := Ty.int) (Sub.fst (Sub.whole _)))
section
variable {P : Program} {n : Nat} {env : Env} {b : Base} {ps : List Pf} {hp : List Res} {K : Act → World → Prop}
/-- The first cells of a row stay from now on. -/
theorem frzP (bl : Nat) {α : Type} (e : Ty α) (y : α) (cs tl : List Value) {t : TypeId} {vs : List Value} {rest : List Res} [hf : FRow bl hp t vs rest] (h : G n env b (Pt e bl 0 y :: ps) rest K) (hv : vs = cs ++ tl := by exact rfl) (hr : Reads ps (.agg cs.toArray) e y := by first | exact Go.GX.Rds.r) : G n env b ps hp K :=
  frz_stA hf.p (fun F w h1 h2 => by
    have hrow : Row w bl t vs := h2
    have hd : e.rd F w (Value.agg cs.toArray).cells.toList y := hr.as F w h1
    have hc : (Value.agg cs.toArray).cells.toList = cs := by simp [Value.cells]
    rw [hc] at hd
    refine ⟨.inr rfl, hrow.lt, cs, fun j c hj => ?_, e.move hd (fun _ _ h => .inl h) (Agree.refl _ _)⟩
    rw [Nat.zero_add]
    exact hrow.cell_some (by rw [hv, List.getElem?_append_left (List.getElem?_eq_some_iff.1 hj).1]; exact hj)) h
end
end Go.GX
namespace Go.Proofs.Ytkagjpkgboeaiaa
open Go Go.RR Go.RX Go.GX Go.Api Go.RiseM Go.SolM Go.SetM Go.NumM
attribute [local irreducible] wpList Code.wp wpPlan Exit.then Exit.inBlock bodyPost NoPanic Went GX.Post GX.Again GX.Meet GX.RowR GX.Own GX.Owns GX.Box GX.Sl GX.Pt GX.Ag GX.MapR GX.SetR GX.Kept GX.Pin wpT GoK AtEnd Both
theorem s3_rd {ps : List Pf} {n w : Int} {a : Option Addr} {m c : Nat} {A : List Int} [FSl a ps (Ty.num .u64) c A] (hm : m = A.length) : Reads ps (.agg #[.int .i64 n, .int .i64 w, .slice a m c]) tyS3 (n, w, A, ()) := by
  subst hm
  have hs : Reads ps (.slice a A.length c) (Ty.slice (Ty.num .u64)) A := .slice rfl
  exact .of fun F w0 h => pair_rd (c1 := [_]) rfl num_rd (pair_rd (c1 := [_]) rfl num_rd (pair_rd (c1 := [_]) rfl (rdo (hs.as F w0 h)) unit_rd))
theorem fieldF_spec (bl : Nat) (d : Dim) (y : S3) (s f : Nat) (h0 : y.1 = (d.N : Int)) (h1 : y.2.1 = (d.W : Int)) (hs : s < d.S) (hf : f < d.W) (hM : d.M ≤ 100000) : Does Try.prog 24 [.pointer (some ⟨bl, 0, none⟩), .int .i64 (s : Int), .int .i64 (f : Int)] [Pt tyS3 bl 0 y] []
    (fun _ : Unit => .int .i64 ((d.fld s f : Nat) : Int)) (fun _ => []) (fun _ => []) := by
  refine enter Try.func24 rfl Try.ntmps24 rfl fun b => ?_
  have hlt := Dim.fld_lt hs hf
  have e : ((d.fld s f : Nat) : Int) = y.1 + (s : Int) * y.2.1 + (f : Int) := by rw [h0, h1]; unfold Dim.fld; simp
  have hm : (0 : Int) ≤ (s : Int) * y.2.1 := by rw [h1]; exact Int.mul_nonneg (by omega) (by omega)
  have hb : -9223372036854775808 ≤ (s : Int) * y.2.1 ∧ (s : Int) * y.2.1 ≤ 9223372036854775807 := by omega
  refine GX.wbR ?_; intros
  refine GX.drawn0  (fun j => !(List.contains [] j)) [(0, true), (1, true), (2, true), (3, true), (4, true), (5, true), (6, true), (7, true), (8, true), (9, true), (10, true), (11, true), (12, true), (13, true)] rfl (by kernel_rfl) (by kernel_rfl) (by first | ((repeat (first | apply Go.GX.SelR.nil | apply Go.GX.SelR.cons | (with_reducible apply Go.GX.TakeR.head) | apply Go.GX.TakeR.tail)); done) | (repeat (first | apply Go.GX.SelR.nil | apply Go.GX.SelR.cons | apply Go.GX.TakeR.head | apply Go.GX.TakeR.tail))) ?_; intro wd F hW hR
  refine GX.wbT ?_; intros
  refine GX.wbR ?_; intros
  exact rt1 () (by rw [e])
end Go.Proofs.Ytkagjpkgboeaiaa
