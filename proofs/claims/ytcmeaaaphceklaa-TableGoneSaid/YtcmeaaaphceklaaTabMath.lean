/- Both tables keep in step: plain laws, no program in sight. -/
import Derived.Test.YtcmeaaaphceklaaTabP
namespace Go.Proofs.Ytcmeaaaphceklaa
open Go.Api

theorem hasB_app {B : List Bool} {b : Bool} {r : Int} (h : r ≤ B.length) : hasB (B ++ [b]) r = hasB B r := by
  unfold hasB
  by_cases h1 : 1 ≤ r
  · rw [List.getElem?_append_left (by omega)]
  · simp [h1]
theorem hasB_set {B : List Bool} {k : Nat} {r : Int} (h : r ≠ (k : Int) + 1) : hasB (B.set k false) r = hasB B r := by
  unfold hasB
  by_cases h1 : 1 ≤ r
  · rw [List.getElem?_set_ne (by omega)]
  · simp [h1]
theorem hasB_set_same {B : List Bool} {k : Nat} (h : k < B.length) : hasB (B.set k false) ((k : Int) + 1) = false := by
  unfold hasB
  rw [show ((k : Int) + 1 - 1).toNat = k by omega, List.getElem?_set_self h]; simp
theorem liveN_app (B : List Bool) : liveN (B ++ [true]) = liveN B + 1 := by simp [liveN]
theorem liveN_set : ∀ {B : List Bool} {k : Nat}, B[k]? = some true → liveN (B.set k false) + 1 = liveN B
  | [], _, h => by simp at h
  | b :: B, 0, h => by simp at h; subst h; simp [liveN]
  | b :: B, k + 1, h => by
    have ih := liveN_set (B := B) (k := k) (by simpa using h)
    unfold liveN at ih ⊢
    rw [List.set_cons_succ, List.countP_cons, List.countP_cons]
    omega
/-- Of so many regions' numbers, those that are one. -/
def ofN (l : List Cell) (k : Nat) : Nat := l.countP fun q => decide (q.1 = (k : Int) + 1)
theorem nowN_app {B : List Bool} {b : Bool} : ∀ {l : List Cell}, (∀ q ∈ l, q.1 ≤ (B.length : Int)) → nowN (B ++ [b]) l = nowN B l
  | [], _ => rfl
  | q :: l, h => by
    have ih := nowN_app (B := B) (b := b) (l := l) (fun r hr => h r (by simp [hr]))
    unfold nowN at ih ⊢
    rw [List.countP_cons, List.countP_cons, ih, hasB_app (h q (by simp))]
theorem nowN_set {B : List Bool} {k : Nat} (hk : B[k]? = some true) : ∀ (l : List Cell), nowN (B.set k false) l + ofN l k = nowN B l
  | [] => rfl
  | q :: l => by
    have ih := nowN_set hk l
    have hl := (List.getElem?_eq_some_iff.1 hk).1
    unfold nowN ofN at ih ⊢
    rw [List.countP_cons, List.countP_cons, List.countP_cons]
    by_cases e : q.1 = (k : Int) + 1
    · rw [e, hasB_set_same hl, hasB_in hk]; simp; omega
    · rw [hasB_set e]; simp [e]; omega
theorem nowN_snoc (B : List Bool) (l : List Cell) (q : Cell) (h : hasB B q.1 = true) : nowN B (l ++ [q]) = nowN B l + 1 := by simp [nowN, h]
theorem ofN_snoc (l : List Cell) (q : Cell) (k : Nat) : ofN (l ++ [q]) k = ofN l k + if q.1 = (k : Int) + 1 then 1 else 0 := by simp [ofN, List.countP_append, List.countP_cons]
theorem ofN_none {l : List Cell} {k : Nat} (h : ∀ q ∈ l, q.1 ≤ (k : Int)) : ofN l k = 0 := by
  unfold ofN
  rw [List.countP_eq_zero]
  intro q hq
  have := h q hq
  simp; omega
theorem countP_fst {p : Int → Bool} {l m : List Cell} (h : l.map (·.1) = m.map (·.1)) : l.countP (fun q => p q.1) = m.countP (fun q => p q.1) := by
  have e : ∀ l : List Cell, l.countP (fun q => p q.1) = (l.map (·.1)).countP p := fun l => by rw [List.countP_map]; rfl
  rw [e, e, h]
theorem putL_fst (l : List Cell) (k i : Nat) (v : Int) : (putL l k i v).map (·.1) = l.map (·.1) := by
  apply List.ext_getElem?
  intro j
  simp only [putL, List.getElem?_map, List.getElem?_modify]
  cases l[j]? with
  | none => rfl
  | some q => by_cases e : k = j <;> simp [e]
theorem putP_fst (B : List Bool) (l : List Cell) (ref i v : Int) : (putP B l ref i v).2.map (·.1) = l.map (·.1) := by
  unfold putP
  dsimp only
  split
  · exact putL_fst _ _ _ _
  · rfl

/-- Both are in step. -/
structure Inv (c : TabC) (d : RefC) : Prop where
  B : c.R.map (·.live) = d.B
  L : c.L.map row = d.L.map row
  gone : c.gone = (d.B.length : Int) - liveN d.B
  peak : c.peak = d.peak
  many : c.many = nowN d.B (d.L.map row)
  most : c.most = d.most
  each : ∀ (k : Nat) x, c.R[k]? = some x → x.many = (ofN (d.L.map row) k : Int)
  reg : ∀ q ∈ d.L.map row, q.1 ≤ (d.B.length : Int)

theorem Inv.len {c : TabC} {d : RefC} (h : Inv c d) : c.R.length = d.B.length ∧ c.L.length = d.L.length := by
  have h1 := congrArg List.length h.B
  have h2 := congrArg List.length h.L
  simp at h1 h2
  exact ⟨h1, h2⟩
theorem Inv.bounds {c : TabC} {d : RefC} (h : Inv c d) : liveN d.B ≤ d.B.length ∧ nowN d.B (d.L.map row) ≤ d.L.length ∧ ∀ k, ofN (d.L.map row) k ≤ d.L.length := by
  refine ⟨List.countP_le_length, ?_, fun k => ?_⟩
  · have : nowN d.B (d.L.map row) ≤ (d.L.map row).length := List.countP_le_length
    simpa using this
  · have : ofN (d.L.map row) k ≤ (d.L.map row).length := List.countP_le_length
    simpa using this
theorem Inv.start : Inv ⟨none, 0, [], none, 0, [], 0, 0, 0, 0⟩ ⟨none, 0, [], none, 0, [], 0, 0⟩ :=
  ⟨rfl, rfl, rfl, rfl, rfl, rfl, by simp, by simp⟩
theorem Inv.make {c : TabC} {d : RefC} (h : Inv c d) (s s' : Option Addr × Nat) : Inv (TabC.mk s.1 s.2 (c.R ++ [⟨true, 0⟩]) c.aL c.cL c.L c.gone (max c.peak (((c.R.length + 1 : Nat) : Int) - c.gone)) c.many c.most) (RefC.mk s'.1 s'.2 (d.B ++ [true]) d.aL d.cL d.L (max d.peak (liveN (d.B ++ [true]) : Int)) d.most) := by
  have hl := h.len
  have hlv := liveN_app d.B
  refine ⟨by simp [h.B], h.L, ?_, ?_, ?_, h.most, fun k x hx => ?_, fun q hq => ?_⟩
  · show c.gone = (((d.B ++ [true]).length : Nat) : Int) - (liveN (d.B ++ [true]) : Nat)
    rw [h.gone, hlv]; simp; omega
  · show max c.peak _ = max d.peak _
    rw [h.peak, h.gone, hlv, hl.1]; omega
  · show c.many = _
    rw [h.many]
    show _ = ((nowN (d.B ++ [true]) (d.L.map row) : Nat) : Int)
    rw [nowN_app h.reg]
  · have hx : (c.R ++ [⟨true, 0⟩])[k]? = some x := hx
    show x.many = (ofN (d.L.map row) k : Int)
    by_cases hk : k < c.R.length
    · rw [List.getElem?_append_left hk] at hx
      exact h.each k x hx
    · rw [List.getElem?_append_right (by omega)] at hx
      rcases hq : k - c.R.length with _ | q
      · rw [hq] at hx; simp at hx; subst hx
        have : k = d.B.length := by omega
        subst this
        rw [ofN_none h.reg]; rfl
      · rw [hq] at hx; simp at hx
  · have := h.reg q hq
    show q.1 ≤ (((d.B ++ [true]).length : Nat) : Int)
    simp; omega
theorem Inv.remove {c : TabC} {d : RefC} (h : Inv c d) {k : Nat} {x : Region} (hk : c.R[k]? = some x) (hx : x.live = true) : Inv (TabC.mk c.aR c.cR (c.R.set k ⟨false, x.many⟩) c.aL c.cL c.L (c.gone + 1) c.peak (c.many - x.many) c.most) (RefC.mk d.aR d.cR (d.B.set k false) d.aL d.cL d.L d.peak d.most) := by
  have hB : d.B[k]? = some true := by rw [← h.B, List.getElem?_map, hk]; simp [hx]
  have h1 := liveN_set hB
  have h2 := nowN_set hB (d.L.map row)
  refine ⟨by rw [List.map_set, h.B], h.L, ?_, h.peak, ?_, h.most, fun j y hy => ?_, fun q hq => ?_⟩
  · show c.gone + 1 = (((d.B.set k false).length : Nat) : Int) - (liveN (d.B.set k false) : Nat)
    rw [h.gone, List.length_set]; omega
  · show c.many - x.many = ((nowN (d.B.set k false) (d.L.map row) : Nat) : Int)
    rw [h.many, h.each k x hk]; omega
  · have hy : (c.R.set k ⟨false, x.many⟩)[j]? = some y := hy
    show y.many = (ofN (d.L.map row) j : Int)
    by_cases e : k = j
    · subst e
      rw [List.getElem?_set_self (List.getElem?_eq_some_iff.1 hk).1] at hy
      cases hy; exact h.each k x hk
    · rw [List.getElem?_set_ne e] at hy
      exact h.each j y hy
  · show q.1 ≤ (((d.B.set k false).length : Nat) : Int)
    rw [List.length_set]; exact h.reg q hq
theorem Inv.add {c : TabC} {d : RefC} (h : Inv c d) {k m : Nat} {x : Region} (hk : c.R[k]? = some x) (hx : x.live = true) (s s' : Nat × Option Addr × Nat) : Inv (TabC.mk c.aR c.cR (c.R.set k ⟨x.live, x.many + 1⟩) s.2.1 s.2.2 (c.L ++ [((k : Int) + 1, some ⟨s.1, 0, none⟩, m, List.replicate m 0)]) c.gone c.peak (c.many + 1) (max c.most (c.many + 1)))
    (RefC.mk d.aR d.cR d.B s'.2.1 s'.2.2 (d.L ++ [((k : Int) + 1, some ⟨s'.1, 0, none⟩, m, List.replicate m 0)]) d.peak (max d.most (nowN d.B (d.L.map row ++ [((k : Int) + 1, List.replicate m 0)]) : Int))) := by
  have hB : d.B[k]? = some true := by rw [← h.B, List.getElem?_map, hk]; simp [hx]
  have hkl := (List.getElem?_eq_some_iff.1 hB).1
  have hn := nowN_snoc d.B (d.L.map row) ((k : Int) + 1, List.replicate m 0) (hasB_in hB)
  have hr : (d.L ++ [((k : Int) + 1, (some ⟨s'.1, 0, none⟩ : Option Go.Addr), m, List.replicate m (0 : Int))]).map row = d.L.map row ++ [((k : Int) + 1, List.replicate m 0)] := by simp [row]
  refine ⟨?_, ?_, h.gone, h.peak, ?_, ?_, fun j y hy => ?_, fun q hq => ?_⟩
  · show (c.R.set k ⟨x.live, x.many + 1⟩).map (·.live) = d.B
    rw [List.map_set, h.B, hx]
    apply List.ext_getElem?
    intro j
    rw [List.getElem?_set]
    split
    · rename_i e; subst e
      have := List.getElem?_eq_some_iff.1 hB
      obtain ⟨_, h3⟩ := this
      simp [hkl, h3]
    · rfl
  · show (c.L ++ _).map row = (d.L ++ _).map row
    rw [hr, List.map_append, h.L]; simp [row]
  · show c.many + 1 = ((nowN d.B ((d.L ++ _).map row) : Nat) : Int)
    rw [hr, hn, h.many]; omega
  · show max c.most (c.many + 1) = max d.most _
    rw [h.most, h.many, hn]; omega
  · have hy : (c.R.set k ⟨x.live, x.many + 1⟩)[j]? = some y := hy
    show y.many = ((ofN ((d.L ++ _).map row) j : Nat) : Int)
    rw [hr, ofN_snoc]
    by_cases e : k = j
    · subst e
      rw [List.getElem?_set_self (List.getElem?_eq_some_iff.1 hk).1] at hy
      cases hy; simp [h.each k x hk]
    · rw [List.getElem?_set_ne e] at hy
      rw [h.each j y hy, if_neg (by show ¬ ((k : Int) + 1 = (j : Int) + 1); omega)]; simp
  · have hq : q ∈ (d.L ++ _).map row := hq
    rw [hr, List.mem_append] at hq
    rcases hq with hq | hq
    · exact h.reg q hq
    · simp at hq; subst hq; show (k : Int) + 1 ≤ (d.B.length : Int); omega
theorem Inv.put {c : TabC} {d : RefC} (h : Inv c d) (ref i v : Int) : Inv (TabC.mk c.aR c.cR c.R c.aL c.cL (putTo (c.R.map (·.live)) c.L ref i v) c.gone c.peak c.many c.most) (RefC.mk d.aR d.cR d.B d.aL d.cL (putTo d.B d.L ref i v) d.peak d.most) := by
  have e1 := putTo_row d.B d.L ref i v
  have e2 := putP_fst d.B (d.L.map row) ref i v
  rw [← e1] at e2
  refine ⟨h.B, ?_, h.gone, h.peak, ?_, h.most, fun k x hx => ?_, fun q hq => ?_⟩
  · show (putTo (c.R.map (·.live)) c.L ref i v).map row = (putTo d.B d.L ref i v).map row
    rw [putTo_row, putTo_row, h.B, h.L]
  · show c.many = ((nowN d.B ((putTo d.B d.L ref i v).map row) : Nat) : Int)
    rw [h.many]
    unfold nowN
    rw [countP_fst (p := hasB d.B) e2]
  · show x.many = ((ofN ((putTo d.B d.L ref i v).map row) k : Nat) : Int)
    rw [h.each k x hx]
    unfold ofN
    rw [countP_fst (p := fun r => decide (r = (k : Int) + 1)) e2]
  · have hq : q ∈ (putTo d.B d.L ref i v).map row := hq
    have : q.1 ∈ ((putTo d.B d.L ref i v).map row).map (·.1) := List.mem_map_of_mem hq
    rw [e2] at this
    obtain ⟨q', hq', e⟩ := List.mem_map.1 this
    rw [← e]; exact h.reg q' hq'
end Go.Proofs.Ytcmeaaaphceklaa
