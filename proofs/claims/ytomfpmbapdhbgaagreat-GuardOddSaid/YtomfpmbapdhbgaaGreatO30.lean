import Derived.Test.YtomfpmbapdhbgaaGreatO2
import Derived.Test.YtomfpmbapdhbgaaGreatO24
/- Regions that draw their order, where each operation only adds to what is known: in whatever order they come up. No program in sight. -/
namespace Go.GX
open Go Go.RowKit Go.RR Go.RX
/-- What an operation leaves. -/
structure Out where
  cs : List Value
  ao : Option Addr
  cap : Nat
structure Sp where
  val : Out → Value
  pf : Out → List Pf
def spA {α : Type} (e : Ty α) (y : α) : Sp := ⟨fun u => .agg u.cs.toArray, fun u => [Ag e u.cs y]⟩
def spS {α : Type} (e : Ty α) (ys : List α) : Sp := ⟨fun u => .slice u.ao ys.length u.cap, fun u => [Sl e u.ao u.cap ys]⟩
structure JTab where
  ds : Nat → Nat
  sp : Nat → Sp
  need : Nat → List Nat
section
variable {P : Program} {n : Nat} {env : Env} {b : Base} {ps : List Pf} {hp : List Res} {Q : Exit → Act → World → Prop} {K : Act → World → Prop}

theorem wpAny_J {ops : Array Oper} {Q : Exit → Act → World → Prop} {J : Array Bool → Act → World → Prop} (hs : ∀ listed a w, J listed a w → ∀ i ∈ Region.ready .any ops listed, wpOp P ops Q i (fun a' w' => J (listed.setIfInBounds i true) a' w') a w)
    (hz : ∀ listed a w, J listed a w → listed.size = ops.size) (hf : ∀ listed a w, J listed a w → Region.ready .any ops listed = [] → Q .normal a w) : ∀ (fuel : Nat) (listed : Array Bool) (a : Act) (w : World), (listed.toList.filter (fun x => !x)).length ≤ fuel → J listed a w → wpAny P .any ops Q fuel listed a w := by
  intro fuel
  induction fuel with
  | zero =>
    intro listed a w hl hJ
    have h0 : Region.ready .any ops listed = [] := by
      rw [List.eq_nil_iff_forall_not_mem]
      intro i hi
      obtain ⟨h1, o, ho, _⟩ := mem_ready.1 hi
      have hi2 : i < listed.size := by rw [hz _ _ _ hJ]; exact (Array.getElem?_eq_some_iff.1 ho).1
      have : listed[i] ∈ listed.toList.filter (fun x => !x) := by
        rw [List.mem_filter]
        exact ⟨by simp, by simp [Array.getD, hi2] at h1; simp [h1]⟩
      have h9 := List.length_pos_of_mem this
      omega
    exact ⟨h0, hf _ _ _ hJ h0⟩
  | succ fuel ih =>
    intro listed a w hl hJ
    refine ⟨hf _ _ _ hJ, fun i hi => wpOp_mono (fun a' w' h => ih _ a' w' ?_ h) (hs _ _ _ hJ i hi)⟩
    obtain ⟨h1, o, ho, _⟩ := mem_ready.1 hi
    have hi2 : i < listed.size := by rw [hz _ _ _ hJ]; exact (Array.getElem?_eq_some_iff.1 ho).1
    have h1 : listed.toList[i]? = some false := by
      simp [Array.getD, hi2] at h1
      simp [hi2, h1]
    have key : ∀ (l : List Bool) (i : Nat), l[i]? = some false → ((l.set i true).filter (fun x => !x)).length + 1 = (l.filter (fun x => !x)).length := by
      intro l
      induction l with
      | nil => intro i h; simp at h
      | cons x l ih =>
        intro i h
        cases i with
        | zero => simp at h; subst h; simp
        | succ i =>
          have := ih i (by simpa using h)
          rw [List.set_cons_succ, List.filter_cons, List.filter_cons]
          cases x
          · simp only [Bool.not_false, if_true, List.length_cons]; omega
          · simpa using this
    have := key _ _ h1
    rw [Array.toList_setIfInBounds]; omega

def preds (o : Oper) (j : Nat) : Bool := o.after.any fun e => Region.binds .any e && Nat.beq e.on j
/-- Is the table in order? -/
def jchk (T : JTab) (base : Env) : List Oper → Nat → Bool
  | [], _ => true
  | o :: r, i => o.guard.isNone && (match o.dst with | some d => Nat.beq d (T.ds i) | none => false) && (T.need i).all (fun j => preds o j && Nat.blt j i) && o.after.all (fun e => Nat.blt e.on i) &&
      base.all (fun q => !Nat.beq q.1 (T.ds i)) && (List.range i).all (fun j => !Nat.beq (T.ds j) (T.ds i)) && jchk T base r (i + 1)
theorem jchk_get {T : JTab} {base : Env} : ∀ {l : List Oper} {k i : Nat} {o : Oper}, jchk T base l k = true → l[i]? = some o →
    o.guard = none ∧ o.dst = some (T.ds (k + i)) ∧ (∀ j ∈ T.need (k + i), preds o j = true ∧ j < k + i) ∧ (∀ e ∈ o.after, e.on < k + i) ∧ (∀ q ∈ base, q.1 ≠ T.ds (k + i)) ∧ ∀ j, j < k + i → T.ds j ≠ T.ds (k + i)
  | [], _, _, _, _, h => by simp at h
  | o :: r, k, i, o', h, hi => by
    simp only [jchk, Bool.and_eq_true] at h
    obtain ⟨⟨⟨⟨⟨⟨h1, h2⟩, h3⟩, h4⟩, h5⟩, h6⟩, h7⟩ := h
    cases i with
    | zero =>
      simp at hi
      subst hi
      refine ⟨by simpa using h1, ?_, fun j hj => ?_, fun e he => ?_, fun q hq e => ?_, fun j hj e => ?_⟩
      · cases hd : o.dst with
        | none => rw [hd] at h2; cases h2
        | some d => rw [hd] at h2; rw [beq_iff.1 h2]; rfl
      · have := List.all_eq_true.1 h3 j hj
        rw [Bool.and_eq_true] at this
        exact ⟨this.1, by simpa [Nat.blt_eq] using this.2⟩
      · have := Array.all_eq_true'.1 h4 e he
        simpa [Nat.blt_eq] using this
      · have := List.all_eq_true.1 h5 q hq
        rw [Nat.add_zero] at e
        rw [beq_iff.2 e] at this; cases this
      · have := List.all_eq_true.1 h6 j (List.mem_range.2 hj)
        rw [Nat.add_zero] at e
        rw [beq_iff.2 e] at this; cases this
    | succ i =>
      have := jchk_get (k := k + 1) (i := i) h7 (by simpa using hi)
      rwa [show k + 1 + i = k + (i + 1) by omega] at this
/-- What an operation is asked. -/
def StepOne (P : Program) (n : Nat) (hp : List Res) (T : JTab) (base : Env) (ps0 : List Pf) (i : Nat) (o : Oper) : Prop :=
  ∀ (b : Base) (v : Nat → Out) (env : Env) (ps : List Pf) (K : Act → World → Prop) (Q : Exit → Act → World → Prop), (∀ j ∈ T.need i, RX.lk env (T.ds j) = some ((T.sp j).val (v j)) ∧ ∀ p ∈ (T.sp j).pf (v j), p ∈ ps) → (∀ x u, RX.lk base x = some u → RX.lk env x = some u) → (∀ p ∈ ps0, p ∈ ps) →
    (∀ u, G n ((T.ds i, (T.sp i).val u) :: env) b ((T.sp i).pf u ++ ps) hp K) → GO P n env b ps hp o K Q
def StepAll (P : Program) (n : Nat) (hp : List Res) (T : JTab) (base : Env) (ps0 : List Pf) : List Oper → Nat → Prop
  | [], _ => True
  | o :: r, i => StepOne P n hp T base ps0 i o ∧ StepAll P n hp T base ps0 r (i + 1)
theorem StepAll.get {T : JTab} {base : Env} {ps0 : List Pf} : ∀ {l : List Oper} {k i : Nat} {o : Oper}, StepAll P n hp T base ps0 l k → l[i]? = some o → StepOne P n hp T base ps0 (k + i) o
  | [], _, _, _, _, h => by simp at h
  | o :: r, k, i, o', h, hi => by
    cases i with
    | zero => simp at hi; subst hi; exact h.1
    | succ i =>
      have := StepAll.get (k := k + 1) (i := i) h.2 (by simpa using hi)
      rwa [show k + 1 + i = k + (i + 1) by omega] at this
structure JInv (n : Nat) (b : Base) (hp : List Res) (T : JTab) (base : Env) (ps0 : List Pf) (size : Nat) (listed : Array Bool) (a : Act) (w : World) (v : Nat → Out) (env : Env) (ps : List Pf) : Prop where
  size : listed.size = size
  has : Has n env a
  ok : Ok b ps hp w
  slots : ∀ j, listed.getD j false = true → RX.lk env (T.ds j) = some ((T.sp j).val (v j))
  facts : ∀ j, listed.getD j false = true → ∀ p ∈ (T.sp j).pf (v j), p ∈ ps
  base : ∀ x u, RX.lk base x = some u → RX.lk env x = some u
  fs : ∀ p ∈ ps0, p ∈ ps
theorem lk_mem : ∀ {env : Env} {x : Nat} {u : Value}, RX.lk env x = some u → ∃ q ∈ env, q.1 = x
  | [], _, _, h => by simp [RX.lk] at h
  | (k, w) :: r, x, u, h => by
    rw [RX.lk_cons] at h
    split at h
    · rename_i e; exact ⟨_, List.mem_cons_self, e⟩
    · obtain ⟨q, h1, h2⟩ := lk_mem h
      exact ⟨q, List.mem_cons_of_mem _ h1, h2⟩
theorem getD_set {listed : Array Bool} {i j : Nat} (h : (listed.setIfInBounds i true).getD j false = true) : j = i ∨ listed.getD j false = true := by
  by_cases e : i = j
  · exact .inl e.symm
  · right
    simpa [Array.getD_eq_getD_getElem?, Array.getElem?_setIfInBounds, e] using h
/-- A region whose operations come up in any order. -/
theorem drawnJ {id : Nat} {l : List Oper} (T : JTab) (base : Env) (fin : List Nat) [hm : Mixed P] (hlen : jchk T base l 0 = true) (hb : RX.Sub base env) (hs : StepAll P n hp T base ps l 0) (hfin : fin.all (fun j => Nat.blt j l.length) = true)
    (h : ∀ v : Nat → Out, G n ((fin.map fun j => (T.ds j, (T.sp j).val (v j))) ++ base) b ((fin.flatMap fun j => (T.sp j).pf (v j)) ++ ps) hp (Q .normal)) : G n env b ps hp ((Code.region id l.toArray true).wp P Q) := by
  constructor
  rintro w ⟨F, s⟩
  constructor
  intro a ha
  refine wp_region_noPanic (wp_region_any hm.m (wpAny_J (J := fun listed a w => ∃ v env ps', JInv n b hp T base ps l.length listed a w v env ps') ?_ (fun listed a w ⟨v, env, ps', hJ⟩ => by simpa using hJ.size) ?_ _ _ _ _ (by simp) ⟨fun _ => ⟨[], none, 0⟩, env, ps, by simp, ha, ⟨F, s.drew⟩, fun j hj => ?_, fun j hj => ?_, ?_, fun p hp => hp⟩))
  · rintro listed a w ⟨v, env', ps', hJ⟩ i hi
    obtain ⟨h1, o, ho, h2⟩ := mem_ready.1 hi
    have ho' : l[i]? = some o := by simpa using ho
    have hil : i < listed.size := by rw [hJ.size]; exact (List.getElem?_eq_some_iff.1 ho').1
    obtain ⟨c1, c2, c3, c4, c5, c6⟩ := jchk_get hlen ho'
    rw [Nat.zero_add] at c2 c3 c4 c5 c6
    have hst := hs.get ho'
    rw [Nat.zero_add] at hst
    have hj : ∀ j ∈ T.need i, listed.getD j false = true := fun j hj => by
      obtain ⟨h3, _⟩ := c3 j hj
      obtain ⟨e, he, h4⟩ := Array.any_eq_true'.1 h3
      rw [Bool.and_eq_true, beq_iff] at h4
      have := h2 e he h4.1
      rwa [h4.2] at this
    have hfalse : listed.getD i false = false := by
      simp [Array.getD, hil] at h1 ⊢; exact h1
    have key := hst b v env' ps' (fun a' w' => ∃ v env ps', JInv n b hp T base ps l.length (listed.setIfInBounds i true) a' w' v env ps') (NoPanic Q) (fun j hj' => ⟨hJ.slots j (hj j hj'), hJ.facts j (hj j hj')⟩) hJ.base hJ.fs (fun u => ⟨fun w' hok => ⟨fun a' ha' => ?_⟩⟩)
    · unfold wpOp
      simp only [ho]
      rw [if_pos (by simp [Region.wanted, c1])]
      have h3 := (key.run w hJ.ok).run a hJ.has
      exact .inl h3
    · refine ⟨fun j => if j = i then u else v j, _, _, by simp [hJ.size], ha', hok, fun j hj' => ?_, fun j hj' p hp' => ?_, fun x u' hx => ?_, fun p hp' => List.mem_append_right _ (hJ.fs p hp')⟩
      · rcases getD_set hj' with e0 | hq
        · rw [e0, RX.lk_cons, if_pos rfl, if_pos rfl]
        · have hne : j ≠ i := fun e => by subst e; rw [hfalse] at hq; cases hq
          rw [if_neg hne]
          have hd : T.ds i ≠ T.ds j := by
            rcases Nat.lt_or_gt_of_ne hne with h4 | h4
            · exact fun e => c6 j h4 e.symm
            · have hjl : j < l.length := by
                have : j < listed.size := Classical.byContradiction fun h5 => by
                  simp [Array.getD, h5] at hq
                rwa [hJ.size] at this
              obtain ⟨_, _, _, _, _, d6⟩ := jchk_get hlen (List.getElem?_eq_getElem hjl)
              rw [Nat.zero_add] at d6
              exact d6 i h4
          rw [RX.lk_cons, if_neg hd]
          exact hJ.slots j hq
      · rcases getD_set hj' with e0 | hq
        · rw [e0, if_pos rfl] at hp'
          exact List.mem_append_left _ hp'
        · have hne : j ≠ i := fun e => by subst e; rw [hfalse] at hq; cases hq
          rw [if_neg hne] at hp'
          exact List.mem_append_right _ (hJ.facts j hq p hp')
      · obtain ⟨q, hq, e⟩ := lk_mem hx
        rw [RX.lk_cons, if_neg (fun e2 => c5 q hq (e.trans e2.symm))]
        exact hJ.base x u' hx
  · rintro listed a w ⟨v, env', ps', hJ⟩ h0
    have hall : ∀ i, i < l.length → listed.getD i false = true := by
      intro i
      induction i using Nat.strongRecOn with
      | _ i ih =>
        intro hi
        refine Classical.byContradiction fun hne => ?_
        have hil : i < listed.size := by rw [hJ.size]; exact hi
        have ho := List.getElem?_eq_getElem hi
        obtain ⟨_, _, _, c4, _, _⟩ := jchk_get hlen ho
        rw [Nat.zero_add] at c4
        have : i ∈ Region.ready .any l.toArray listed := mem_ready.2 ⟨by simp [Array.getD, hil] at hne ⊢; exact hne, _, by simp [ho], fun e he _ => ih _ (c4 e he) (Nat.lt_trans (c4 e he) hi)⟩
        rw [h0] at this; simp at this
    have hf : ∀ j ∈ fin, listed.getD j false = true := fun j hj => hall j (by have := List.all_eq_true.1 hfin j hj; simpa [Nat.blt_eq] using this)
    refine ((h v).run w ?_).run a (hJ.has.sub fun t u ht => ?_)
    · obtain ⟨F', s'⟩ := hJ.ok
      refine ⟨F', s'.less (fun p hp => ?_) (List.Sublist.refl _)⟩
      rcases List.mem_append.1 hp with hp | hp
      · obtain ⟨j, hj, hp⟩ := List.mem_flatMap.1 hp
        exact hJ.facts j (hf j hj) p hp
      · exact hJ.fs p hp
    · have key : ∀ js : List Nat, (∀ j ∈ js, listed.getD j false = true) → RX.lk ((js.map fun j => (T.ds j, (T.sp j).val (v j))) ++ base) t = some u → RX.lk env' t = some u := by
        intro js
        induction js with
        | nil => intro _ ht2; exact hJ.base t u ht2
        | cons j js ih =>
          intro hjs ht2
          rw [List.map_cons, List.cons_append, RX.lk_cons] at ht2
          split at ht2
          · rename_i e; subst e
            rw [hJ.slots j (hjs j (by simp))]; exact ht2
          · exact ih (fun j hj => hjs j (by simp [hj])) ht2
      exact key fin hf ht
  · simp [Array.getD] at hj
  · simp [Array.getD] at hj
  · intro x u hx; exact hb.spec x u hx
end
section
variable {P : Program} {n : Nat} {hp : List Res} {T : JTab} {base : Env} {ps0 : List Pf} {i d : Nat} {ty t : TypeId} {pos : String} {aft : Array Edge} {gd : Option (Nat × Bool)} {α : Type} {e : Ty α}
theorem lessPs {env : Env} {b : Base} {ps : List Pf} {K : Act → World → Prop} (ps' : List Pf) (hs : ∀ p ∈ ps', p ∈ ps) (h : G n env b ps' hp K) : G n env b ps hp K := ⟨fun w ⟨F, s⟩ => h.run w ⟨F, s.less hs (List.Sublist.refl _)⟩⟩
/-- A struct is read. -/
theorem kLd {s bl sz : Nat} {y : α} [UAgg P t] [USize P t sz] (hs : RX.lk base s = some (.pointer (some ⟨bl, 0, none⟩))) (hm : Pt e bl 0 y ∈ ps0) (hT : T.sp i = spA e y) (hd' : T.ds i = d) (hd : Nat.blt d n = true) (hsz : e.size = sz) : StepOne P n hp T base ps0 i ⟨some d, .load t (.tmp s), ty, pos, aft, gd⟩ := by
  intro b v env ps K Q hn hb hp0 h
  rw [hT, hd'] at h
  have hF : FPt bl 0 ps e 0 0 y := ⟨hp0 _ hm, rfl⟩
  exact rd (ld_agg0 (e := e) (y := y) (bl := bl) (o' := 0) (hb _ _ hs) hsz) hd (fun cs => h ⟨cs, none, 0⟩)
/-- A function that makes a struct. -/
theorem kCall {f : FuncId} {y : α} {ts : Array TypeId} [UFunc P f] (hc : Does P f [] [] [] (fun cs : List Value => .agg cs.toArray) (fun cs => [Ag e cs y]) (fun _ => [])) (hT : T.sp i = spA e y) (hd' : T.ds i = d) (hd : Nat.blt d n = true) : StepOne P n hp T base ps0 i ⟨some d, .call { callee := .value (.func f), args := #[], argTypes := ts }, ty, pos, aft, gd⟩ := by
  intro b v env ps K Q hn hb hp0 h
  rw [hT, hd'] at h
  exact GX.call (xs := []) (rest := hp) hc rfl (by simp) (List.Perm.refl _) hd (fun cs => h ⟨cs, none, 0⟩)
/-- A struct of constants. -/
theorem kBd {y : α} {parts : List (Nat × Operand)} {pv : List (Nat × Value)} {cs0 : List Value} (hx : RX.evp [] parts = some pv) (hb0 : ∀ w, (Instr.build t pv.toArray).run P w = .ok (.agg cs0.toArray) w) (hr : Reads [] (.agg cs0.toArray) e y) (hT : T.sp i = spA e y) (hd' : T.ds i = d) (hd : Nat.blt d n = true) : StepOne P n hp T base ps0 i ⟨some d, .build t parts.toArray, ty, pos, aft, gd⟩ := by
  intro b v env ps K Q hn hb hp0 h
  rw [hT, hd'] at h
  have hx2 : RX.evp env parts = some pv := by
    have key : ∀ (parts : List (Nat × Operand)) (pv : List (Nat × Value)), RX.evp [] parts = some pv → RX.evp env parts = some pv := by
      intro parts
      induction parts with
      | nil => intro pv h; exact h
      | cons q r ih =>
        obtain ⟨k, x⟩ := q
        intro pv h
        unfold RX.evp at h ⊢
        cases x
        case tmp s => simp [ev, RX.lk] at h
        all_goals
          simp only [ev] at h ⊢
          cases hr : RX.evp [] r with
          | none => rw [hr] at h; simp at h
          | some l => rw [hr] at h; rw [ih l hr]; exact h
    exact key _ _ hx
  refine rd1 (RX.build hx2 hb0) hd (addPs (qs := [Ag e cs0 y]) (fun F w _ => one_p ?_) (h ⟨cs0, none, 0⟩))
  exact hr.as F w no_p
/-- A slot anew under another name. -/
theorem kAs {j : Nat} (hn : T.need i = [j]) (hT : T.sp i = T.sp j) (hd' : T.ds i = d) (hd : Nat.blt d n = true) : StepOne P n hp T base ps0 i ⟨some d, .assign (.tmp (T.ds j)), ty, pos, aft, gd⟩ := by
  intro b v env ps K Q hn' hb hp0 h
  rw [hT, hd'] at h
  obtain ⟨h1, h2⟩ := hn' j (by rw [hn]; simp)
  refine rd1 (RX.assign (v := (T.sp j).val (v j)) h1) hd (lessPs ((T.sp j).pf (v j) ++ ps) (fun p hp => ?_) (h (v j)))
  rcases List.mem_append.1 hp with hp | hp
  · exact h2 p hp
  · exact hp
def IsItem (q : Sp) (e : Ty α) (y : α) : Prop := ∀ (u : Out) (ps : List Pf), (∀ p ∈ q.pf u, p ∈ ps) → Reads ps (q.val u) e y
theorem itA {q : Sp} {y : α} (h : q = spA e y) : IsItem q e y := fun u ps hp => by
  subst h
  have : FAg u.cs ps e y := ⟨hp _ (by simp [spA])⟩
  exact .agg
theorem itS {q : Sp} {ys : List α} (h : q = spS e ys) : IsItem q (Ty.slice e) ys := fun u ps hp => by
  subst h
  have : FSl u.ao ps e u.cap ys := ⟨hp _ (by simp [spS])⟩
  exact .slice rfl
inductive JL (T : JTab) {α : Type} (e : Ty α) : List Nat → List α → Prop where
  | nil : JL T e [] []
  | cons {j : Nat} {js : List Nat} {y : α} {ys : List α} : IsItem (T.sp j) e y → JL T e js ys → JL T e (j :: js) (y :: ys)
def prt (T : JTab) : List Nat → Nat → List (Nat × Operand)
  | [], _ => []
  | j :: r, k => (k, .tmp (T.ds j)) :: prt T r (k + 1)
theorem evp_prt {v : Nat → Out} {env : Env} : ∀ {js : List Nat} {k : Nat}, (∀ j ∈ js, RX.lk env (T.ds j) = some ((T.sp j).val (v j))) → RX.evp env (prt T js k) = some (((js.map fun j => (T.sp j).val (v j)).zipIdx k).map fun p => (p.2, p.1))
  | [], _, _ => rfl
  | j :: js, k, h => by
    have h1 := h j (by simp)
    have h2 := evp_prt (js := js) (k := k + 1) fun j' hj' => h j' (by simp [hj'])
    unfold prt RX.evp
    rw [h2]
    simp only [ev, h1]
    simp [List.zipIdx_cons]
theorem JL.lits {v : Nat → Out} {ps : List Pf} {js : List Nat} {ys : List α} (h : JL T e js ys) (hp : ∀ j ∈ js, ∀ p ∈ (T.sp j).pf (v j), p ∈ ps) : Lits ps e (js.map fun j => (T.sp j).val (v j)) ys ∧ ys.length = js.length := by
  induction h with
  | nil => exact ⟨.nil, rfl⟩
  | cons h1 _ ih =>
    obtain ⟨h3, h4⟩ := ih fun j hj => hp j (by simp [hj])
    exact ⟨.cons (h1 _ _ (hp _ (by simp))) h3, by simp [h4]⟩
/-- A slice of what others leave. -/
theorem kBs {et : TypeId} {js : List Nat} {ys : List α} {len sz : Nat} {zv : Value} {z : α} {parts : Array (Nat × Operand)} [USlice P t et] [USize P et sz] [UTy P et e z zv] (hj : JL T e js ys) (hn : T.need i = js) (hT : T.sp i = spS e ys) (hd' : T.ds i = d) (hd : Nat.blt d n = true) (hpt : parts = (prt T js 0).toArray) (hlen : len = js.length) (hsz : e.size = sz) (hsm : Nat.ble (js.length * sz) 16777216 = true) (hsm2 : Nat.ble js.length 16777216 = true) :
    StepOne P n hp T base ps0 i ⟨some d, .buildSlice t len parts, ty, pos, aft, gd⟩ := by
  intro b v env ps K Q hn' hb hp0 h
  rw [hT, hd'] at h
  rw [hn] at hn'
  obtain ⟨h1, h2⟩ := hj.lits (v := v) (ps := ps) fun j hj => (hn' j hj).2
  subst hpt
  refine slF (fun bl => ?_) (evp_prt fun j hj => (hn' j hj).1) rfl (by simpa using hlen) h1 hsz ⟨by simpa using Nat.le_of_ble_eq_true hsm, by simpa using Nat.le_of_ble_eq_true hsm2⟩ hd
  have := h ⟨[], some ⟨bl, 0, none⟩, len⟩
  have e1 : ys.length = len := by omega
  simpa [spS, e1] using this
end
section
variable {P : Program} {n : Nat} {env : Env} {b : Base} {ps : List Pf} {hp : List Res} {K : Act → World → Prop}
/-- An element of a slice that stays, as a place. -/
theorem slPt {bl cap : Nat} (j off : Nat) {α : Type} {e : Ty α} {xs : List α} {x0 : α} [hf : FSl (some ⟨bl, 0, none⟩) ps e cap xs] (h : G n env b (Pt e bl off x0 :: ps) hp K) (hj : xs[j]? = some x0 := by with_reducible assumption) (ho : 0 + j * e.size = off := by (show 0 + _ * 1 = _; omega)) : G n env b ps hp K := by
  subst ho
  constructor
  rintro w ⟨F, s⟩
  obtain ⟨_, _, hs⟩ : (Sl e (some ⟨bl, 0, none⟩) cap xs).says F w := s.fs _ hf.mem
  obtain ⟨b1, o, cs, he, h3, h4, h5, h6⟩ := hs j x0 hj
  simp only [Option.some.injEq, Addr.mk.injEq, and_true] at he
  obtain ⟨rfl, rfl⟩ := he
  refine h.run w ⟨F, s.upd, s.lt, s.old, fun p hp => ?_, s.rs, s.apF, s.apart, s.on⟩
  rcases List.mem_cons.1 hp with rfl | hp
  · exact ⟨h3, h4, cs, h5, h6⟩
  · exact s.fs p hp
end
end Go.GX
