import Derived.Test.YtomfpmbapdhbgaaGreatO1
import Derived.Test.YtomfpmbapdhbgaaGreatO14
import Derived.Test.YtomfpmbapdhbgaaGreatO15
import Derived.Test.YtomfpmbapdhbgaaGreatO16
/- The walks over From of package reach and of its reference. -/
namespace Go.Proofs.YtomfpmbapdhbgaaGreat
open Go Go.RR Go.RX Go.GX Go.RiseM Go.ReachM
attribute [local irreducible] wpList Code.wp wpPlan Exit.then Exit.inBlock bodyPost NoPanic Went GX.Post GX.Again GX.Meet GX.RowR GX.Own GX.Owns GX.Box GX.Sl GX.Pt GX.Ag GX.MapR GX.Kept GX.Pin wpT GoK AtEnd Both

theorem isClassR_spec (ao : Option Addr) (cap : Nat) (f : List (List Int)) (c : Int) : Does Tryz.prog 76 [.slice ao f.length cap, .int .i64 c] [Sl (Ty.slice Ty.int) ao cap f] []
    (fun _ : Unit => .bool (decide (0 ≤ c ∧ c < f.length))) (fun _ => []) (fun _ => []) := by
  refine enter Tryz.func76 rfl Tryz.ntmps76 rfl fun b => ?_
  by_cases h1 : 0 ≤ c
  · have e : decide (0 ≤ c ∧ c < f.length) = decide (c < f.length) := decide_eq_decide.2 ⟨fun h => h.2, fun h => ⟨h1, h⟩⟩
    rw [e]
    refine GX.wR ?_; intros
    exact rt1 () rfl
  · have e : decide (0 ≤ c ∧ c < f.length) = false := decide_eq_false fun h => h1 h.1
    rw [e]
    refine GX.wR ?_; intros
    exact rt1 () rfl
theorem below_spec (v n : Int) : Does Tryz.prog 93 [.int .i64 v, .int .i64 n] [] []
    (fun _ : Unit => .bool (decide (0 ≤ v ∧ v < n))) (fun _ => []) (fun _ => []) := by
  refine enter Tryz.func93 rfl Tryz.ntmps93 rfl fun b => ?_
  by_cases h1 : 0 ≤ v
  · have e : decide (0 ≤ v ∧ v < n) = decide (v < n) := decide_eq_decide.2 ⟨fun h => h.2, fun h => ⟨h1, h⟩⟩
    rw [e]
    refine GX.wR ?_; intros
    exact rt1 () rfl
  · have e : decide (0 ≤ v ∧ v < n) = false := decide_eq_false fun h => h1 h.1
    rw [e]
    refine GX.wR ?_; intros
    exact rt1 () rfl

structure RcS where
  m : List Bool
  w : List Int
  ao : Option Addr
  cap : Nat
structure LiS where
  i : Nat
  ao : Option Addr
  cap : Nat
/-- How much there is in all. -/
def total (f : List (List Int)) : Nat := (f.map List.length).sum

set_option maxHeartbeats 1000000 in
theorem from_spec (ao ar : Option Addr) (cap car : Nat) (f : List (List Int)) (r : List Int) (hf : f.length ≤ 1073741824) (ht : total f ≤ 1073741824) (hr : r.length ≤ 1073741824) : Does Tryz.prog 48 [.slice ao f.length cap, .slice ar r.length car] [Sl (Ty.slice Ty.int) ao cap f, Sl Ty.int ar car r] []
    (fun s : Option Addr × Nat => .slice s.1 (fromL f r).length s.2) (fun _ => []) (fun s => [GX.Own 3 Ty.int s.1 s.2 (fromL f r)]) := by
  refine enter Tryz.func48 rfl Tryz.ntmps48 rfl fun b => ?_
  refine GX.wR ?_; intros
  refine GX.nmB 5 ?_; rintro b5 rfl
  refine GX.o (cl (clone_spec ar car r (by omega)) fun s => ?_)
  obtain ⟨a6, c6⟩ := s
  dsimp only
  refine GX.wR ?_; intros
  have hw0 := wt_rep f f.length
  refine GX.loop (σ := RcS) (fun s => [(0, .slice ao f.length cap), (5, .slice (some ⟨b5, 0, none⟩) f.length f.length), (6, .slice s.ao s.w.length s.cap)]) (fun _ => [])
    (fun s => [GX.Own 4 Ty.bool (some ⟨b5, 0, none⟩) f.length s.m, GX.Own 3 Ty.int s.ao s.cap s.w]) (fun s => Wk f r s.m s.w ∧ s.w.length + wt f s.m ≤ r.length + total f) (fun s => s.w.length + wt f s.m)
    ⟨List.replicate f.length false, r, a6, c6⟩ ⟨rfl, rfl, rfl, trivial⟩ ⟨Wk.first f r, by dsimp only [total]; omega⟩ (fun s hs => ?_)
  obtain ⟨m, w, aw, cw⟩ := s
  obtain ⟨hW, hc⟩ := hs
  dsimp only at *
  have hll := hW.len
  rcases List.eq_nil_or_concat w with rfl | ⟨w, x, rfl⟩
  · rw [← hW.done, List.length_nil]
    refine GX.wR ?_; intros
    refine ownNil 3 Ty.int ?_
    rw [hll]
    refine GX.loop (σ := LiS) (fun s => [(8, .slice s.ao (marked m s.i).length s.cap), (49, .slice (some ⟨b5, 0, none⟩) f.length f.length), (50, .int .i64 (f.length : Int)), (51, .int .i64 (s.i : Int))]) (fun _ => [])
      (fun s => [GX.Own 4 Ty.bool (some ⟨b5, 0, none⟩) f.length m, GX.Own 3 Ty.int s.ao s.cap (marked m s.i)]) (fun s => s.i ≤ f.length) (fun s => f.length - s.i) ⟨0, none, 0⟩ ⟨rfl, rfl, rfl, rfl, trivial⟩ (by simp) (fun s hs => ?_)
    obtain ⟨i, al, cl'⟩ := s
    dsimp only at *
    have hml := marked_len m i
    have hms := marked_succ m i
    by_cases hlt : i < f.length
    · obtain ⟨v, hv⟩ := get_lt (show i < m.length by omega)
      cases v with
      | true =>
        rw [if_pos hv] at hms
        refine GX.wR ?_; intros
        rw [← hms]
        refine GX.nmS 8 ?_; rintro a8 c8 rfl rfl
        refine GX.wR ?_; intros
        exact again ⟨i + 1, a8, c8⟩ ⟨rfl, rfl, rfl, rfl, trivial⟩ (by dsimp only; omega) (by dsimp only; omega)
      | false =>
        rw [if_neg (by rw [hv]; simp), List.append_nil] at hms
        refine GX.wR ?_; intros
        exact again ⟨i + 1, al, cl'⟩ ⟨by dsimp only; rw [hms]; rfl, rfl, rfl, rfl, trivial⟩ (by dsimp only; omega) (by dsimp only; omega) (h2 := by dsimp only; rw [hms]; first | ((repeat (first | apply Go.GX.SelR.nil | apply Go.GX.SelR.cons | (with_reducible apply Go.GX.TakeR.head) | apply Go.GX.TakeR.tail)); done) | (repeat (first | apply Go.GX.SelR.nil | apply Go.GX.SelR.cons | apply Go.GX.TakeR.head | apply Go.GX.TakeR.tail)))
    · have hil : i = f.length := by omega
      subst hil
      refine GX.wR ?_; intros
      exact rt1 (al, cl') rfl
  · rw [List.concat_eq_append] at *
    have hwl : (w ++ [x]).length = w.length + 1 := by simp
    have hxi : (w ++ [x])[w.length]? = some x := by simp
    refine GX.opn aw fun g1 g2 ha => ?_
    obtain ⟨h1, _⟩ | ⟨g, rfl⟩ := ha
    · simp at h1
    rw [hwl] at hc g1 ⊢
    refine GX.wR ?_; intros
    refine GX.o (oh ?_)
    refine ownTake (some ⟨g, 0, none⟩) w.length ?_
    rw [List.take_left' rfl]
    refine GX.wR ?_; intros
    refine GX.o (cl (isClassR_spec ao cap f x) fun _ => ?_)
    by_cases hx : 0 ≤ x ∧ x < f.length
    · obtain ⟨c, rfl⟩ := Int.eq_ofNat_of_zero_le hx.1
      obtain ⟨l, hl⟩ := get_lt (show c < f.length by omega)
      obtain ⟨v, hv⟩ := get_lt (show c < m.length by omega)
      cases v with
      | true =>
        refine GX.wR ?_; intros
        exact again ⟨m, w, some ⟨g, 0, none⟩, cw⟩ ⟨rfl, rfl, rfl, trivial⟩ ⟨hW.drop fun d hd _ => (show c = d by omega) ▸ hv, by dsimp only; omega⟩ (by dsimp only; omega)
      | false =>
        have hws := wt_set hl hv
        have hwl2 : (w ++ l).length = w.length + l.length := List.length_append
        have htl : total f ≤ 1073741824 := ht
        refine GX.wR ?_; intros
        refine GX.nmS 6 ?_; rintro a8 c8 rfl rfl
        exact again ⟨m.set c true, w ++ l, a8, c8⟩ ⟨rfl, rfl, rfl, trivial⟩ ⟨hW.mark hl, by dsimp only; omega⟩ (by dsimp only; omega)
    · refine GX.wR ?_; intros
      exact again ⟨m, w, some ⟨g, 0, none⟩, cw⟩ ⟨rfl, rfl, rfl, trivial⟩ ⟨hW.drop fun d hd h => absurd ⟨by omega, by omega⟩ hx, by dsimp only; omega⟩ (by dsimp only; omega)

theorem list_spec (ao : Option Addr) (cap : Nat) (m : List Bool) (hm : m.length ≤ 1073741824) : Does Tryz.prog 94 [.slice ao m.length cap] [Sl Ty.bool ao cap m] []
    (fun s : Option Addr × Nat => .slice s.1 (marked m m.length).length s.2) (fun _ => []) (fun s => [GX.Own 3 Ty.int s.1 s.2 (marked m m.length)]) := by
  refine enter Tryz.func94 rfl Tryz.ntmps94 rfl fun b => ?_
  refine GX.wR ?_; intros
  refine ownNil 3 Ty.int ?_
  refine GX.loop (σ := LiS) (fun s => [(0, .slice ao m.length cap), (3, .slice s.ao (marked m s.i).length s.cap), (4, .int .i64 (s.i : Int))]) (fun _ => [])
    (fun s => [GX.Own 3 Ty.int s.ao s.cap (marked m s.i)]) (fun s => s.i ≤ m.length) (fun s => m.length - s.i) ⟨0, none, 0⟩ ⟨rfl, rfl, rfl, trivial⟩ (by simp) (fun s hs => ?_)
  obtain ⟨i, al, cl'⟩ := s
  dsimp only at *
  have hml := marked_len m i
  have hms := marked_succ m i
  by_cases hlt : i < m.length
  · obtain ⟨v, hv⟩ := get_lt hlt
    cases v with
    | true =>
      rw [if_pos hv] at hms
      refine GX.wR ?_; intros
      rw [← hms]
      refine GX.nmS 3 ?_; rintro a8 c8 rfl rfl
      refine GX.wR ?_; intros
      exact again ⟨i + 1, a8, c8⟩ ⟨rfl, rfl, rfl, trivial⟩ (by dsimp only; omega) (by dsimp only; omega)
    | false =>
      rw [if_neg (by rw [hv]; simp), List.append_nil] at hms
      refine GX.wR ?_; intros
      exact again ⟨i + 1, al, cl'⟩ ⟨rfl, by dsimp only; rw [hms]; rfl, rfl, trivial⟩ (by dsimp only; omega) (by dsimp only; omega) (h2 := by dsimp only; rw [hms]; first | ((repeat (first | apply Go.GX.SelR.nil | apply Go.GX.SelR.cons | (with_reducible apply Go.GX.TakeR.head) | apply Go.GX.TakeR.tail)); done) | (repeat (first | apply Go.GX.SelR.nil | apply Go.GX.SelR.cons | apply Go.GX.TakeR.head | apply Go.GX.TakeR.tail)))
  · have hil : i = m.length := by omega
    subst hil
    refine GX.wR ?_; intros
    exact rt1 (al, cl') rfl

structure RfS where
  more : Bool
  m : List Bool
  i : Nat
  j : Nat
structure Rt0 (f : List (List Int)) (r : List Int) (m : List Bool) (i : Nat) : Prop where
  len : m.length = f.length
  sound : ∀ c : Nat, m[c]? = some true → RC f r c
  roots : ∀ c : Nat, (c : Int) ∈ r.take i → c < f.length → m[c]? = some true
set_option maxHeartbeats 1000000 in
theorem rfrom_spec (ao ar : Option Addr) (cap car : Nat) (f : List (List Int)) (r : List Int) (hf : f.length ≤ 1073741824) : Does Tryz.prog 62 [.slice ao f.length cap, .slice ar r.length car] [Sl (Ty.slice Ty.int) ao cap f, Sl Ty.int ar car r] []
    (fun s : Option Addr × Nat => .slice s.1 (fromL f r).length s.2) (fun _ => []) (fun s => [GX.Own 3 Ty.int s.1 s.2 (fromL f r)]) := by
  refine enter Tryz.func62 rfl Tryz.ntmps62 rfl fun b => ?_
  refine sln ar fun hr1 hr2 _ => ?_
  refine GX.wR ?_; intros
  refine GX.nmB 5 ?_; rintro b5 rfl
  refine GX.loop (σ := RfS) (fun s => [(0, .slice ao f.length cap), (1, .slice ar r.length car), (5, .slice (some ⟨b5, 0, none⟩) f.length f.length), (6, .int .i64 (s.i : Int))]) (fun _ => [])
    (fun s => [GX.Own 4 Ty.bool (some ⟨b5, 0, none⟩) f.length s.m]) (fun s => s.i ≤ r.length ∧ Rt0 f r s.m s.i) (fun s => r.length - s.i)
    ⟨false, List.replicate f.length false, 0, 0⟩ ⟨rfl, rfl, rfl, rfl, trivial⟩ ⟨by simp, by simp, fun c h => by rw [List.getElem?_replicate] at h; split at h <;> simp at h, fun c h => by simp at h⟩ (fun s hs => ?_)
  obtain ⟨_, m, i, _⟩ := s
  obtain ⟨hi, hR⟩ := hs
  dsimp only at *
  have hll := hR.len
  by_cases hlt : i < r.length
  · obtain ⟨x, hx⟩ := get_lt hlt
    refine GX.wR ?_; intros
    refine GX.o (cl (below_spec x f.length) fun _ => ?_)
    have hout : ∀ c : Nat, (c : Int) ∈ r.take (i + 1) → (c : Int) ∈ r.take i ∨ (c : Int) = x := fun c h => by
      rw [List.take_add_one, hx, List.mem_append] at h
      exact h.imp id (fun h => by simpa using h)
    by_cases hb : 0 ≤ x ∧ x < (f.length : Int)
    · obtain ⟨c, rfl⟩ := Int.eq_ofNat_of_zero_le hb.1
      have hcl : c < m.length := by omega
      refine GX.wR ?_; intros
      refine again ⟨false, m.set c true, i + 1, 0⟩ ⟨rfl, rfl, rfl, rfl, trivial⟩ ⟨by dsimp only; omega, by rw [List.length_set]; exact hll, fun d hd => ?_, fun d hd hdl => ?_⟩ (by dsimp only; omega)
      · rcases ReachM.set_back hd with rfl | hd
        · exact .root (List.mem_of_getElem? hx) (by omega)
        · exact hR.sound d hd
      · rcases hout d hd with h | h
        · exact set_true (hR.roots d h hdl)
        · obtain rfl : d = c := by omega
          dsimp only
          rw [List.getElem?_set_self hcl]
    · refine GX.wR ?_; intros
      refine again ⟨false, m, i + 1, 0⟩ ⟨rfl, rfl, rfl, rfl, trivial⟩ ⟨by dsimp only; omega, hll, hR.sound, fun d hd hdl => ?_⟩ (by dsimp only; omega)
      rcases hout d hd with h | h
      · exact hR.roots d h hdl
      · exact absurd ⟨by omega, by omega⟩ hb
  · have hil : i = r.length := by omega
    subst hil
    have hroots := hR.roots
    rw [List.take_length] at hroots
    have hsound := hR.sound
    clear hR hi hlt
    refine GX.wR ?_; intros
    refine GX.loop (σ := RfS) (fun s => [(0, .slice ao f.length cap), (5, .slice (some ⟨b5, 0, none⟩) f.length f.length), (7, .bool s.more)]) (fun _ => [])
      (fun s => [GX.Own 4 Ty.bool (some ⟨b5, 0, none⟩) f.length s.m]) (fun s => s.m.length = f.length ∧ (∀ c : Nat, s.m[c]? = some true → RC f r c) ∧ (∀ c : Nat, (c : Int) ∈ r → c < f.length → s.m[c]? = some true) ∧ (s.more = false → marked s.m s.m.length = fromL f r)) (fun s => 2 * s.m.count false + (if s.more = true then 1 else 0))
      ⟨true, m, 0, 0⟩ ⟨rfl, rfl, rfl, trivial⟩ ⟨hll, hsound, hroots, fun h => by simp at h⟩ (fun s hs => ?_)
    clear hll hsound hroots
    obtain ⟨more, m, _, _⟩ := s
    obtain ⟨hll, hsound, hroots, hd⟩ := hs
    dsimp only at *
    cases more with
    | false =>
      rw [← hd rfl]
      refine GX.wR ?_; intros
      refine frz (some ⟨b5, 0, none⟩) ?_
      rw [← hll]
      refine GX.o (cl (list_spec (some ⟨b5, 0, none⟩) m.length m (by omega)) fun s => ?_)
      refine GX.wR ?_; intros
      exact rt1 s rfl
    | true =>
      clear hd
      refine GX.wR ?_; intros
      refine GX.loop (σ := RfS) (fun s => [(0, .slice ao f.length cap), (5, .slice (some ⟨b5, 0, none⟩) f.length f.length), (7, .bool s.more), (8, .int .i64 (s.i : Int))]) (fun _ => [])
        (fun s => [GX.Own 4 Ty.bool (some ⟨b5, 0, none⟩) f.length s.m]) (fun s => s.i ≤ f.length ∧ Ps f r (m.count false) s.more s.m s.i 0) (fun s => f.length - s.i)
        ⟨false, m, 0, 0⟩ ⟨rfl, rfl, rfl, rfl, trivial⟩ ⟨by simp, Ps.begin hll hsound hroots⟩ (fun s hs => ?_)
      obtain ⟨more, m2, i, _⟩ := s
      obtain ⟨hi, hP⟩ := hs
      dsimp only at *
      by_cases hlt : i < f.length
      · obtain ⟨l, hl⟩ := get_lt hlt
        refine GX.wR ?_; intros
        refine GX.loop (σ := RfS) (fun s => [(0, .slice ao f.length cap), (5, .slice (some ⟨b5, 0, none⟩) f.length f.length), (7, .bool s.more), (8, .int .i64 (i : Int)), (9, .int .i64 (s.j : Int))]) (fun _ => [])
          (fun s => [GX.Own 4 Ty.bool (some ⟨b5, 0, none⟩) f.length s.m]) (fun s => s.j ≤ l.length ∧ Ps f r (m.count false) s.more s.m i s.j) (fun s => l.length - s.j)
          ⟨more, m2, 0, 0⟩ ⟨rfl, rfl, rfl, rfl, rfl, trivial⟩ ⟨by simp, hP⟩ (fun s hs => ?_)
        clear hP
        obtain ⟨more, m2, _, j⟩ := s
        obtain ⟨hj, hP⟩ := hs
        dsimp only at *
        have hl2 := hP.len
        obtain ⟨v, hv⟩ := get_lt (show i < m2.length by omega)
        by_cases hjl : j < l.length
        · cases v with
          | false =>
            refine GX.wR ?_; intros
            exact again ⟨more, m2, i + 1, 0⟩ ⟨rfl, rfl, rfl, rfl, trivial⟩ ⟨by dsimp only; omega, hP.fin fun h => by rw [hv] at h; simp at h⟩ (by dsimp only; omega)
          | true =>
            obtain ⟨x, hx⟩ := get_lt hjl
            refine GX.wR ?_; intros
            refine GX.o (cl (below_spec x f.length) fun _ => ?_)
            by_cases hb : 0 ≤ x ∧ x < (f.length : Int)
            · obtain ⟨c, rfl⟩ := Int.eq_ofNat_of_zero_le hb.1
              obtain ⟨u, hu⟩ := get_lt (show c < m2.length by omega)
              cases u with
              | true =>
                refine GX.wR ?_; intros
                exact again ⟨more, m2, 0, j + 1⟩ ⟨rfl, rfl, rfl, rfl, rfl, trivial⟩ ⟨by dsimp only; omega, hP.old hl hx fun d hd _ => (show c = d by omega) ▸ hu⟩ (by dsimp only; omega)
              | false =>
                refine GX.wR ?_; intros
                exact again ⟨true, m2.set c true, 0, j + 1⟩ ⟨rfl, rfl, rfl, rfl, rfl, trivial⟩ ⟨by dsimp only; omega, hP.new hl hx hv hu⟩ (by dsimp only; omega)
            · refine GX.wR ?_; intros
              exact again ⟨more, m2, 0, j + 1⟩ ⟨rfl, rfl, rfl, rfl, rfl, trivial⟩ ⟨by dsimp only; omega, hP.old hl hx fun d hd h => absurd ⟨by omega, by omega⟩ hb⟩ (by dsimp only; omega)
        · refine GX.wR ?_; intros
          exact again ⟨more, m2, i + 1, 0⟩ ⟨rfl, rfl, rfl, rfl, trivial⟩ ⟨by dsimp only; omega, hP.fin fun _ k hk => by rw [hl] at hk; cases hk; omega⟩ (by dsimp only; omega)
      · have hil : i = f.length := by omega
        subst hil
        have hless := hP.less
        have hl2 := hP.len
        refine GX.wR ?_; intros
        refine again ⟨more, m2, 0, 0⟩ ⟨rfl, rfl, rfl, trivial⟩ ⟨hl2, hP.sound, hP.roots, fun e => ?_⟩ ?_
        · dsimp only at e; subst e; exact hP.done
        · dsimp only
          rw [if_pos rfl]
          split <;> rename_i e <;> simp only [e] at hless <;> simp at hless <;> omega
end Go.Proofs.YtomfpmbapdhbgaaGreat

/- The walks over package rt: Fields, Global, Out. -/
namespace Go.Proofs.YtomfpmbapdhbgaaGreat
open Go Go.RR Go.RX Go.GX Go.Api Go.RiseM Go.ReachM Go.RtM
attribute [local irreducible] wpList Code.wp wpPlan Exit.then Exit.inBlock bodyPost NoPanic Went GX.Post GX.Again GX.Meet GX.RowR GX.Own GX.Owns GX.Box GX.Sl GX.Pt GX.Ag GX.MapR GX.Kept GX.Pin wpT GoK AtEnd Both

theorem fields_spec (cs : List Value) (t : RTg) (hs : Small t) : Does Tryz.prog 26 [.agg cs.toArray] [Ag tyRTg cs t] []
    (fun s : Option Addr × Nat => .slice s.1 (flds t).length s.2) (fun s => [Sl (Ty.slice Ty.int) s.1 s.2 (flds t)]) (fun _ => []) := by
  have hc := hs.classes
  refine enter Tryz.func26 rfl Tryz.ntmps26 rfl fun b => ?_
  refine GX.wR ?_; intros
  refine GX.nmS 7 ?_; rintro aC cC rfl rfl
  refine ownNil 23 (Ty.slice Ty.int) ?_
  refine GX.loop (σ := Nat × Option Addr × Nat) (fun s => [(3, .slice s.2.1 ((flds t).take s.1).length s.2.2), (7, .slice aC t.classes.length cC), (8, .int .i64 (t.classes.length : Int)), (9, .int .i64 (s.1 : Int))]) (fun _ => [])
    (fun s => [GX.Own 23 (Ty.slice Ty.int) s.2.1 s.2.2 ((flds t).take s.1)]) (fun s => s.1 ≤ t.classes.length) (fun s => t.classes.length - s.1) (0, none, 0) ⟨rfl, rfl, rfl, rfl, trivial⟩ (by simp) (fun s hs2 => ?_)
  obtain ⟨i, aF, cF⟩ := s
  dsimp only at *
  have hfl := flds_len t
  have htl : ((flds t).take i).length = i := by rw [List.length_take]; omega
  by_cases hlt : i < t.classes.length
  · obtain ⟨L, hL⟩ := get_lt hlt
    have hr := hs.ref (List.mem_of_getElem? hL)
    have e : (flds t).take i ++ [L.refs] = (flds t).take (i + 1) := by
      rw [List.take_add_one]; unfold flds; rw [List.getElem?_map, hL]; rfl
    refine GX.wR ?_; intros
    refine GX.nmS 15 ?_; rintro aR cR rfl rfl
    refine GX.o (cl (clone_spec aR cR L.refs (by omega)) fun s => ?_)
    obtain ⟨aN, cN⟩ := s
    dsimp only
    refine frz aN ?_
    refine GX.wR ?_; intros
    rw [e]
    refine GX.nmS 18 ?_; rintro a3 c3 rfl rfl
    refine GX.wR ?_; intros
    exact again (i + 1, a3, c3) ⟨rfl, rfl, rfl, rfl, trivial⟩ (by dsimp only; omega) (by dsimp only; omega)
  · rw [List.take_of_length_le (by omega)]
    refine GX.wR ?_; intros
    refine frz aF ?_
    exact rt1 (aF, cF) rfl
theorem global_spec (cs : List Value) (t : RTg) (hs : Small t) : Does Tryz.prog 25 [.agg cs.toArray] [Ag tyRTg cs t] []
    (fun s : Option Addr × Nat => .slice s.1 (glob t).length s.2) (fun s => [Sl Ty.int s.1 s.2 (glob t)]) (fun _ => []) := by
  have hc := hs.classes
  have hg := hs.globals
  have hr := hs.refs
  have hfl := flds_len t
  refine enter Tryz.func25 rfl Tryz.ntmps25 rfl fun b => ?_
  refine GX.wR ?_; intros
  refine GX.drawn0  (fun j => !(List.contains [4] j)) [(0, true), (2, true), (3, true), (1, false), (4, false), (5, true)] rfl (by kernel_rfl) (by kernel_rfl) (by first | ((repeat (first | apply Go.GX.SelR.nil | apply Go.GX.SelR.cons | (with_reducible apply Go.GX.TakeR.head) | apply Go.GX.TakeR.tail)); done) | (repeat (first | apply Go.GX.SelR.nil | apply Go.GX.SelR.cons | apply Go.GX.TakeR.head | apply Go.GX.TakeR.tail))) ?_; intro wd F hW hR
  refine GX.wT ?_; intros
  refine GX.nmS 6 ?_; rintro aG cG rfl rfl
  refine GX.gow ?_
  refine (cl (fields_spec _ t hs) fun s => ?_)
  obtain ⟨aF, cF⟩ := s
  dsimp only
  refine GX.wT ?_; intros
  refine GX.gow ?_
  refine (cl (from_spec aF aG cF cG (flds t) t.globals (by omega) hr hg) fun s => ?_)
  obtain ⟨a2, c2⟩ := s
  dsimp only
  refine GX.wT ?_; intros
  refine GX.wR ?_; intros
  refine frz a2 ?_
  exact rt1 (a2, c2) rfl
theorem out1_spec (bl : Nat) (g : List Int) (n : Int) : Does Tryz.prog 50 [.int .i64 n, .pointer (some ⟨bl, 0, none⟩)] [Pt (Ty.slice Ty.int) bl 0 g] [] (fun _ : Unit => .bool (decide (n ∈ g))) (fun _ => []) (fun _ => []) := by
  refine enter Tryz.func50 rfl Tryz.ntmps50 rfl fun b => ?_
  refine GX.wR ?_; intros
  refine GX.nmS 4 ?_; rintro ao cap rfl rfl
  refine GX.o (cl (contains_spec ao cap g n) fun _ => ?_)
  refine GX.wR ?_; intros
  exact rt1 () rfl
theorem out_kept (t : RTg) (u : Unt) : kept (fun n => decide (n ∈ glob t)) (fromL (flds t) (roots u)) (fromL (flds t) (roots u)).length = outOf t u := by
  unfold kept outOf
  rw [List.take_length]
  exact List.filter_congr fun x _ => by by_cases h : x ∈ glob t <;> simp [h]
set_option maxHeartbeats 1000000 in
theorem out_spec (cs : List Value) (t : RTg) (hs : Small t) (k : Int) : Does Tryz.prog 24 [.agg cs.toArray, .int .i64 k] [Ag tyRTg cs t] []
    (fun s : Option Addr × Nat => .slice s.1 (out t k).length s.2) (fun s => [Sl Ty.int s.1 s.2 (out t k)]) (fun _ => []) := by
  by_cases h1 : k < 0
  · rw [out_none (.inl h1)]
    refine enter Tryz.func24 rfl Tryz.ntmps24 rfl fun b => ?_
    refine GX.wR ?_; intros
    refine slNil Ty.int ?_
    exact rt1 (none, 0) rfl
  by_cases h2 : (t.units.length : Int) ≤ k
  · rw [out_none (.inr h2)]
    refine enter Tryz.func24 rfl Tryz.ntmps24 rfl fun b => ?_
    refine GX.wR ?_; intros
    refine slNil Ty.int ?_
    exact rt1 (none, 0) rfl
  obtain ⟨k, rfl⟩ := Int.eq_ofNat_of_zero_le (show 0 ≤ k by omega)
  obtain ⟨u, hu⟩ := get_lt (show k < t.units.length by omega)
  rw [out_some hu]
  have hc := hs.classes
  have hr := hs.refs
  have hfl := flds_len t
  have hp := pars_le u
  have hul := (hs.unit u (List.mem_of_getElem? hu)).1
  have hpe : ((pars u : Nat) : Int) = min (max u.params 0) (u.vars.length : Int) := by unfold pars; omega
  have hrl := roots_len u
  have htk : (u.vars.take (min (max u.params 0) (u.vars.length : Int)).toNat).length ≤ 1073741824 := by rw [List.length_take]; omega
  have hro : u.vars.take (min (max u.params 0) (u.vars.length : Int)).toNat ++ [u.result] = roots u := rfl
  refine enter Tryz.func24 rfl Tryz.ntmps24 rfl fun b => ?_
  refine GX.wR ?_; intros
  refine GX.o (cl (global_spec _ t hs) fun s => ?_)
  obtain ⟨aG, cG⟩ := s
  dsimp only
  refine GX.wR ?_; intros
  refine GX.nmP 5 ?_; rintro b5 rfl
  refine GX.nmP 7 ?_; rintro b7 rfl
  refine frzB b5 ?_
  refine frzB b7 ?_
  refine GX.drawnT (fun j => !(List.contains [] j)) (.br [(0, true), (2, true), (3, true), (4, true), (5, true), (7, true), (8, true)] (.alt 1 (.br [] (.alt 6 (.lin [(9, false), (10, false), (11, false), (12, true)]) (.alt 9 (.lin [(6, false), (10, false), (11, false), (12, true)]) .nil))) (.alt 9 (.lin [(1, false), (6, false), (10, false), (11, false), (12, true)]) .nil))) (by kernel_rfl) (by kernel_rfl) ?_; intro wd F hW hR
  refine GX.wT ?_; intros
  refine GX.treeA ?_ ?_
  · refine GX.gok ?_
    refine (cl (fields_spec _ t hs) fun s => ?_)
    obtain ⟨aF, cF⟩ := s
    dsimp only
    refine GX.wT ?_; intros
    refine GX.treeA ?_ ?_
    · refine GX.gok ?_
      refine (cl (clone_spec _ _ (u.vars.take (min (max u.params 0) (u.vars.length : Int)).toNat) (by omega)) fun s => ?_)
      obtain ⟨aV, cV⟩ := s
      dsimp only
      refine GX.wT ?_; intros
      refine GX.nmS 42 ?_; rintro aL cL rfl rfl
      rw [hro]
      refine frz aL ?_
      refine GX.gow ?_
      refine (cl (from_spec aF aL cF cL (flds t) (roots u) (by omega) hr (by omega)) fun s => ?_)
      obtain ⟨aR, cR⟩ := s
      dsimp only
      refine GX.wT ?_; intros
      refine GX.wR ?_; intros
      refine GX.o (cl (deleteFunc_spec aR cR (fromL (flds t) (roots u)) 50 [.pointer (some ⟨b7, 0, none⟩)] [Pt (Ty.slice Ty.int) b7 0 (glob t)] [] (fun n => decide (n ∈ glob t)) (fun n _ => out1_spec b7 (glob t) n)) fun _ => ?_)
      rw [out_kept]
      refine GX.wR ?_; intros
      refine frz aR ?_
      exact rt1 (aR, cR) rfl
    · refine GX.wT ?_; intros
      refine GX.gow ?_
      refine (cl (clone_spec _ _ (u.vars.take (min (max u.params 0) (u.vars.length : Int)).toNat) (by omega)) fun s => ?_)
      obtain ⟨aV, cV⟩ := s
      dsimp only
      refine GX.wT ?_; intros
      refine GX.nmS 42 ?_; rintro aL cL rfl rfl
      rw [hro]
      refine frz aL ?_
      refine GX.gow ?_
      refine (cl (from_spec aF aL cF cL (flds t) (roots u) (by omega) hr (by omega)) fun s => ?_)
      obtain ⟨aR, cR⟩ := s
      dsimp only
      refine GX.wT ?_; intros
      refine GX.wR ?_; intros
      refine GX.o (cl (deleteFunc_spec aR cR (fromL (flds t) (roots u)) 50 [.pointer (some ⟨b7, 0, none⟩)] [Pt (Ty.slice Ty.int) b7 0 (glob t)] [] (fun n => decide (n ∈ glob t)) (fun n _ => out1_spec b7 (glob t) n)) fun _ => ?_)
      rw [out_kept]
      refine GX.wR ?_; intros
      refine frz aR ?_
      exact rt1 (aR, cR) rfl
  · refine GX.wT ?_; intros
    refine GX.gow ?_
    refine (cl (fields_spec _ t hs) fun s => ?_)
    obtain ⟨aF, cF⟩ := s
    dsimp only
    refine GX.wT ?_; intros
    refine GX.gow ?_
    refine (cl (clone_spec _ _ (u.vars.take (min (max u.params 0) (u.vars.length : Int)).toNat) (by omega)) fun s => ?_)
    obtain ⟨aV, cV⟩ := s
    dsimp only
    refine GX.wT ?_; intros
    refine GX.nmS 42 ?_; rintro aL cL rfl rfl
    rw [hro]
    refine frz aL ?_
    refine GX.gow ?_
    refine (cl (from_spec aF aL cF cL (flds t) (roots u) (by omega) hr (by omega)) fun s => ?_)
    obtain ⟨aR, cR⟩ := s
    dsimp only
    refine GX.wT ?_; intros
    refine GX.wR ?_; intros
    refine GX.o (cl (deleteFunc_spec aR cR (fromL (flds t) (roots u)) 50 [.pointer (some ⟨b7, 0, none⟩)] [Pt (Ty.slice Ty.int) b7 0 (glob t)] [] (fun n => decide (n ∈ glob t)) (fun n _ => out1_spec b7 (glob t) n)) fun _ => ?_)
    rw [out_kept]
    refine GX.wR ?_; intros
    refine frz aR ?_
    exact rt1 (aR, cR) rfl
end Go.Proofs.YtomfpmbapdhbgaaGreat

/- The walks over guard's seen, closed, call. -/
namespace Go.Proofs.YtomfpmbapdhbgaaGreat
open Go Go.RR Go.RX Go.GX Go.Api Go.RiseM Go.ReachM Go.RtM
attribute [local irreducible] wpList Code.wp wpPlan Exit.then Exit.inBlock bodyPost NoPanic Went GX.Post GX.Again GX.Meet GX.RowR GX.Own GX.Owns GX.Box GX.Sl GX.Pt GX.Ag GX.MapR GX.Kept GX.Pin wpT GoK AtEnd Both
/-- Where a guard's parts lie. -/
structure GV where
  aC : Option Addr
  cC : Nat
  aG : Option Addr
  cG : Nat
  aU : Option Addr
  cU : Nat
  aV : Option Addr
  cV : Nat
  aT : Option Addr
  cT : Nat
  aO : Option Addr
  cO : Nat
  aI : Option Addr
  cI : Nat
  aJ : Option Addr
  cJ : Nat
  aF : Option Addr
  cF : Nat
  aS : Option Addr
  cS : Nat
  aL : Option Addr
  cL : Nat
  aX : Option Addr
  cX : Nat
  st : Nat
  wt : Nat
noncomputable instance decSeen (t : RTg) (k : Int) (L : List Int) (c : Int) : Decidable (GuaM.Seen t k L c) := Classical.propDecidable _
noncomputable instance decClosed (t : RTg) (k : Int) (L : List Int) : Decidable (GuaM.Closed t k L) := Classical.propDecidable _
noncomputable instance decCallC (t : RTg) (k : Int) (u : Unt) (x : Ins) (L : List Int) : Decidable (GuaM.CallC t k u x L) := Classical.propDecidable _
noncomputable instance decCondL (t : RTg) (k : Int) (u : Unt) (x : Ins) (L : List Int) : Decidable (GuaM.CondL t k u x L) := Classical.propDecidable _
noncomputable instance decPasses (t : RTg) (k : Int) (u : Unt) (x : Ins) (s : Api.State) : Decidable (GuaM.Passes t k u x s) := Classical.propDecidable _
noncomputable def outs (t : RTg) : List (List Int) := (List.range t.units.length).map fun u : Nat => out t (u : Int)
theorem outs_get {t : RTg} {i : Nat} (h : i < t.units.length) : (outs t)[i]? = some (out t i) := by
  unfold outs
  rw [List.getElem?_map, List.getElem?_range h]; rfl
theorem seen_spec (bl : Nat) (v : GV) (t : RTg) (u : Unt) (k : Int) (w : Value) (a : Option Addr) (cp : Nat) (L : List Int) (c : Int) : Does Tryz.prog 121 [.pointer (some ⟨bl, 0, none⟩), .int .i64 c, .slice a L.length cp]
    [Sl Ty.int a cp L, Sl Ty.int v.aS v.cS (GuaM.both (glob t) (out t k))] [RowR bl 66 [.slice v.aC t.classes.length v.cC, .slice v.aG t.globals.length v.cG, .slice v.aU t.units.length v.cU, .int .i64 t.main, .int .i64 u.params, .slice v.aV u.vars.length v.cV, .int .i64 u.result, .slice v.aT u.takes.length v.cT, .slice v.aO u.owns.length v.cO, .slice v.aI u.ins.length v.cI, .slice v.aF (flds t).length v.cF, .slice v.aS (GuaM.both (glob t) (out t k)).length v.cS, .slice v.aL (glob t).length v.cL, .slice v.aX (outs t).length v.cX, .int .i64 0, .slice none 0 0, .bool false, .int .i64 0, .int .i64 0, .int .i64 0, .slice v.aJ u.ins.length v.cJ, .slice (some ⟨v.st, 0, none⟩) u.ins.length u.ins.length, w, .slice (some ⟨v.wt, 0, none⟩) u.ins.length u.ins.length]] (fun _ : Unit => .bool (decide (GuaM.Seen t k L c))) (fun _ => []) (fun _ => [RowR bl 66 [.slice v.aC t.classes.length v.cC, .slice v.aG t.globals.length v.cG, .slice v.aU t.units.length v.cU, .int .i64 t.main, .int .i64 u.params, .slice v.aV u.vars.length v.cV, .int .i64 u.result, .slice v.aT u.takes.length v.cT, .slice v.aO u.owns.length v.cO, .slice v.aI u.ins.length v.cI, .slice v.aF (flds t).length v.cF, .slice v.aS (GuaM.both (glob t) (out t k)).length v.cS, .slice v.aL (glob t).length v.cL, .slice v.aX (outs t).length v.cX, .int .i64 0, .slice none 0 0, .bool false, .int .i64 0, .int .i64 0, .int .i64 0, .slice v.aJ u.ins.length v.cJ, .slice (some ⟨v.st, 0, none⟩) u.ins.length u.ins.length, w, .slice (some ⟨v.wt, 0, none⟩) u.ins.length u.ins.length]]) := by
  refine enter Tryz.func121 rfl Tryz.ntmps121 rfl fun b => ?_
  refine GX.wR ?_; intros
  refine GX.o (cl (contains_spec v.aS v.cS (GuaM.both (glob t) (out t k)) c) fun _ => ?_)
  have e : GuaM.Seen t k L c ↔ c ∈ GuaM.both (glob t) (out t k) ∨ c ∈ L := by rw [GuaM.both_mem, or_assoc]; exact Iff.rfl
  by_cases h : c ∈ GuaM.both (glob t) (out t k)
  · refine GX.wR ?_; intros
    exact rt1 () (vY (e.2 (.inl h)))
  · refine GX.wR ?_; intros
    refine GX.o (cl (contains_spec a cp L c) fun _ => ?_)
    refine GX.wR ?_; intros
    exact rt1 () (vI ⟨fun h2 => (e.1 h2).elim (fun h3 => absurd h3 h) id, fun h2 => e.2 (.inr h2)⟩)
theorem closed1_spec (bl b2 b3 : Nat) (v : GV) (t : RTg) (u : Unt) (k : Int) (w : Value) (L : List Int) (c : Int) : Does Tryz.prog 120 [.int .i64 c, .pointer (some ⟨b2, 0, none⟩), .pointer (some ⟨b3, 0, none⟩)]
    [Pt (Ty.slice Ty.int) b3 0 L, Sl Ty.int v.aS v.cS (GuaM.both (glob t) (out t k))] [RowR b2 56 [.pointer (some ⟨bl, 0, none⟩)], RowR bl 66 [.slice v.aC t.classes.length v.cC, .slice v.aG t.globals.length v.cG, .slice v.aU t.units.length v.cU, .int .i64 t.main, .int .i64 u.params, .slice v.aV u.vars.length v.cV, .int .i64 u.result, .slice v.aT u.takes.length v.cT, .slice v.aO u.owns.length v.cO, .slice v.aI u.ins.length v.cI, .slice v.aF (flds t).length v.cF, .slice v.aS (GuaM.both (glob t) (out t k)).length v.cS, .slice v.aL (glob t).length v.cL, .slice v.aX (outs t).length v.cX, .int .i64 0, .slice none 0 0, .bool false, .int .i64 0, .int .i64 0, .int .i64 0, .slice v.aJ u.ins.length v.cJ, .slice (some ⟨v.st, 0, none⟩) u.ins.length u.ins.length, w, .slice (some ⟨v.wt, 0, none⟩) u.ins.length u.ins.length]] (fun _ : Unit => .bool (decide (¬ GuaM.Seen t k L c))) (fun _ => []) (fun _ => [RowR b2 56 [.pointer (some ⟨bl, 0, none⟩)], RowR bl 66 [.slice v.aC t.classes.length v.cC, .slice v.aG t.globals.length v.cG, .slice v.aU t.units.length v.cU, .int .i64 t.main, .int .i64 u.params, .slice v.aV u.vars.length v.cV, .int .i64 u.result, .slice v.aT u.takes.length v.cT, .slice v.aO u.owns.length v.cO, .slice v.aI u.ins.length v.cI, .slice v.aF (flds t).length v.cF, .slice v.aS (GuaM.both (glob t) (out t k)).length v.cS, .slice v.aL (glob t).length v.cL, .slice v.aX (outs t).length v.cX, .int .i64 0, .slice none 0 0, .bool false, .int .i64 0, .int .i64 0, .int .i64 0, .slice v.aJ u.ins.length v.cJ, .slice (some ⟨v.st, 0, none⟩) u.ins.length u.ins.length, w, .slice (some ⟨v.wt, 0, none⟩) u.ins.length u.ins.length]]) := by
  refine enter Tryz.func120 rfl Tryz.ntmps120 rfl fun b => ?_
  refine GX.wR ?_; intros
  refine GX.nmS 7 ?_; rintro a cp rfl rfl
  refine GX.o (cl (seen_spec bl v t u k w a cp L c) fun _ => ?_)
  refine GX.wR ?_; intros
  exact rt1 () rfl
theorem closed_spec (bl : Nat) (v : GV) (t : RTg) (u : Unt) (k : Int) (w : Value) (a : Option Addr) (cp : Nat) (L : List Int) (hs : Small t) (hL : L.length ≤ 1000000) : Does Tryz.prog 87 [.pointer (some ⟨bl, 0, none⟩), .slice a L.length cp]
    [Sl Ty.int a cp L, Sl Ty.int v.aS v.cS (GuaM.both (glob t) (out t k)), Sl (Ty.slice Ty.int) v.aF v.cF (flds t)] [RowR bl 66 [.slice v.aC t.classes.length v.cC, .slice v.aG t.globals.length v.cG, .slice v.aU t.units.length v.cU, .int .i64 t.main, .int .i64 u.params, .slice v.aV u.vars.length v.cV, .int .i64 u.result, .slice v.aT u.takes.length v.cT, .slice v.aO u.owns.length v.cO, .slice v.aI u.ins.length v.cI, .slice v.aF (flds t).length v.cF, .slice v.aS (GuaM.both (glob t) (out t k)).length v.cS, .slice v.aL (glob t).length v.cL, .slice v.aX (outs t).length v.cX, .int .i64 0, .slice none 0 0, .bool false, .int .i64 0, .int .i64 0, .int .i64 0, .slice v.aJ u.ins.length v.cJ, .slice (some ⟨v.st, 0, none⟩) u.ins.length u.ins.length, w, .slice (some ⟨v.wt, 0, none⟩) u.ins.length u.ins.length]] (fun _ : Unit => .bool (decide (GuaM.Closed t k L))) (fun _ => []) (fun _ => [RowR bl 66 [.slice v.aC t.classes.length v.cC, .slice v.aG t.globals.length v.cG, .slice v.aU t.units.length v.cU, .int .i64 t.main, .int .i64 u.params, .slice v.aV u.vars.length v.cV, .int .i64 u.result, .slice v.aT u.takes.length v.cT, .slice v.aO u.owns.length v.cO, .slice v.aI u.ins.length v.cI, .slice v.aF (flds t).length v.cF, .slice v.aS (GuaM.both (glob t) (out t k)).length v.cS, .slice v.aL (glob t).length v.cL, .slice v.aX (outs t).length v.cX, .int .i64 0, .slice none 0 0, .bool false, .int .i64 0, .int .i64 0, .int .i64 0, .slice v.aJ u.ins.length v.cJ, .slice (some ⟨v.st, 0, none⟩) u.ins.length u.ins.length, w, .slice (some ⟨v.wt, 0, none⟩) u.ins.length u.ins.length]]) := by
  refine enter Tryz.func87 rfl Tryz.ntmps87 rfl fun b => ?_
  refine GX.wR ?_; intros
  refine GX.nmP 2 ?_; rintro b2 rfl
  refine GX.nmP 3 ?_; rintro b3 rfl
  refine frzS b3 Ty.int L ?_
  refine GX.drawn2 (RowR b2 56 [.pointer (some ⟨bl, 0, none⟩)]) (RowR bl 66 [.slice v.aC t.classes.length v.cC, .slice v.aG t.globals.length v.cG, .slice v.aU t.units.length v.cU, .int .i64 t.main, .int .i64 u.params, .slice v.aV u.vars.length v.cV, .int .i64 u.result, .slice v.aT u.takes.length v.cT, .slice v.aO u.owns.length v.cO, .slice v.aI u.ins.length v.cI, .slice v.aF (flds t).length v.cF, .slice v.aS (GuaM.both (glob t) (out t k)).length v.cS, .slice v.aL (glob t).length v.cL, .slice v.aX (outs t).length v.cX, .int .i64 0, .slice none 0 0, .bool false, .int .i64 0, .int .i64 0, .int .i64 0, .slice v.aJ u.ins.length v.cJ, .slice (some ⟨v.st, 0, none⟩) u.ins.length u.ins.length, w, .slice (some ⟨v.wt, 0, none⟩) u.ins.length u.ins.length]) (fun j => !(List.contains [7] j)) [(0, true), (1, true), (2, true), (3, true), (4, true), (6, true), (5, false), (7, false), (8, true), (9, true)] rfl (by kernel_rfl) (by kernel_rfl) (by first | ((repeat (first | apply Go.GX.SelR.nil | apply Go.GX.SelR.cons | (with_reducible apply Go.GX.TakeR.head) | apply Go.GX.TakeR.tail)); done) | (repeat (first | apply Go.GX.SelR.nil | apply Go.GX.SelR.cons | apply Go.GX.TakeR.head | apply Go.GX.TakeR.tail))) ?_; intro wd F hW hR
  refine GX.wT ?_; intros
  refine GX.nmS 9 ?_; rintro a3 c3 rfl rfl
  have hc := hs.classes
  have hr := hs.refs
  have hfl := flds_len t
  refine GX.gow ?_
  refine (cl (from_spec v.aF a3 v.cF c3 (flds t) L (by omega) hr (by omega)) fun s => ?_)
  obtain ⟨a2, c2⟩ := s
  dsimp only
  refine frz a2 ?_
  refine GX.wT ?_; intros
  refine GX.unpin (RowR b2 56 [.pointer (some ⟨bl, 0, none⟩)]) ?_
  refine GX.unpin (RowR bl 66 [.slice v.aC t.classes.length v.cC, .slice v.aG t.globals.length v.cG, .slice v.aU t.units.length v.cU, .int .i64 t.main, .int .i64 u.params, .slice v.aV u.vars.length v.cV, .int .i64 u.result, .slice v.aT u.takes.length v.cT, .slice v.aO u.owns.length v.cO, .slice v.aI u.ins.length v.cI, .slice v.aF (flds t).length v.cF, .slice v.aS (GuaM.both (glob t) (out t k)).length v.cS, .slice v.aL (glob t).length v.cL, .slice v.aX (outs t).length v.cX, .int .i64 0, .slice none 0 0, .bool false, .int .i64 0, .int .i64 0, .int .i64 0, .slice v.aJ u.ins.length v.cJ, .slice (some ⟨v.st, 0, none⟩) u.ins.length u.ins.length, w, .slice (some ⟨v.wt, 0, none⟩) u.ins.length u.ins.length]) ?_
  refine GX.gow ?_
  refine (cl (containsFunc_spec a2 c2 (fromL (flds t) L) 120 [.pointer (some ⟨b2, 0, none⟩), .pointer (some ⟨b3, 0, none⟩)] [Pt (Ty.slice Ty.int) b3 0 L, Sl Ty.int v.aS v.cS (GuaM.both (glob t) (out t k))] [RowR b2 56 [.pointer (some ⟨bl, 0, none⟩)], RowR bl 66 [.slice v.aC t.classes.length v.cC, .slice v.aG t.globals.length v.cG, .slice v.aU t.units.length v.cU, .int .i64 t.main, .int .i64 u.params, .slice v.aV u.vars.length v.cV, .int .i64 u.result, .slice v.aT u.takes.length v.cT, .slice v.aO u.owns.length v.cO, .slice v.aI u.ins.length v.cI, .slice v.aF (flds t).length v.cF, .slice v.aS (GuaM.both (glob t) (out t k)).length v.cS, .slice v.aL (glob t).length v.cL, .slice v.aX (outs t).length v.cX, .int .i64 0, .slice none 0 0, .bool false, .int .i64 0, .int .i64 0, .int .i64 0, .slice v.aJ u.ins.length v.cJ, .slice (some ⟨v.st, 0, none⟩) u.ins.length u.ins.length, w, .slice (some ⟨v.wt, 0, none⟩) u.ins.length u.ins.length]] (fun n => decide (¬ GuaM.Seen t k L n)) (fun n _ => closed1_spec bl b2 b3 v t u k w L n)) fun _ => ?_)
  have e : ((fromL (flds t) L).any fun n => decide (¬ GuaM.Seen t k L n)) = decide (¬ GuaM.Closed t k L) := by
    rw [Bool.eq_iff_iff, List.any_eq_true]
    simp [GuaM.Closed]
  rw [e]
  refine GX.wT ?_; intros
  refine GX.wR ?_; intros
  exact rt1 () (vI Classical.not_not.symm)
set_option maxHeartbeats 1000000 in
theorem gcall_spec (bl : Nat) (v : GV) (t : RTg) (u : Unt) (k : Int) (w : Value) (a : Option Addr) (cp : Nat) (L : List Int) (cs : List Value) (x : Ins) (g : Unt) (j : Nat) (hj : x.c = (j : Int)) (hg : t.units[j]? = some g) (hL : L.length ≤ 400000) (hu : u.takes.length ≤ 400000) : Does Tryz.prog 90 [.pointer (some ⟨bl, 0, none⟩), .agg cs.toArray, .slice a L.length cp]
    [Ag tyIns cs x, Sl Ty.int a cp L, Sl tyUnt v.aU v.cU t.units, Sl Ty.int v.aV v.cV u.vars, Sl Ty.int v.aT v.cT u.takes, Sl tyIns v.aI v.cI u.ins, Sl tyIns v.aJ v.cJ u.ins, Sl (Ty.slice Ty.int) v.aF v.cF (flds t), Sl Ty.int v.aS v.cS (GuaM.both (glob t) (out t k)), Sl Ty.int v.aL v.cL (glob t), Sl (Ty.slice Ty.int) v.aX v.cX (outs t)] [RowR bl 66 [.slice v.aC t.classes.length v.cC, .slice v.aG t.globals.length v.cG, .slice v.aU t.units.length v.cU, .int .i64 t.main, .int .i64 u.params, .slice v.aV u.vars.length v.cV, .int .i64 u.result, .slice v.aT u.takes.length v.cT, .slice v.aO u.owns.length v.cO, .slice v.aI u.ins.length v.cI, .slice v.aF (flds t).length v.cF, .slice v.aS (GuaM.both (glob t) (out t k)).length v.cS, .slice v.aL (glob t).length v.cL, .slice v.aX (outs t).length v.cX, .int .i64 0, .slice none 0 0, .bool false, .int .i64 0, .int .i64 0, .int .i64 0, .slice v.aJ u.ins.length v.cJ, .slice (some ⟨v.st, 0, none⟩) u.ins.length u.ins.length, w, .slice (some ⟨v.wt, 0, none⟩) u.ins.length u.ins.length]] (fun _ : Unit => .bool (decide (GuaM.CallC t k u x L))) (fun _ => []) (fun _ => [RowR bl 66 [.slice v.aC t.classes.length v.cC, .slice v.aG t.globals.length v.cG, .slice v.aU t.units.length v.cU, .int .i64 t.main, .int .i64 u.params, .slice v.aV u.vars.length v.cV, .int .i64 u.result, .slice v.aT u.takes.length v.cT, .slice v.aO u.owns.length v.cO, .slice v.aI u.ins.length v.cI, .slice v.aF (flds t).length v.cF, .slice v.aS (GuaM.both (glob t) (out t k)).length v.cS, .slice v.aL (glob t).length v.cL, .slice v.aX (outs t).length v.cX, .int .i64 0, .slice none 0 0, .bool false, .int .i64 0, .int .i64 0, .int .i64 0, .slice v.aJ u.ins.length v.cJ, .slice (some ⟨v.st, 0, none⟩) u.ins.length u.ins.length, w, .slice (some ⟨v.wt, 0, none⟩) u.ins.length u.ins.length]]) := by
  refine enter Tryz.func90 rfl Tryz.ntmps90 rfl fun b => ?_
  have hjl := (List.getElem?_eq_some_iff.1 hg).1
  have ho := outs_get hjl
  refine GX.wR ?_; intros
  refine GX.drawn1 (RowR bl 66 [.slice v.aC t.classes.length v.cC, .slice v.aG t.globals.length v.cG, .slice v.aU t.units.length v.cU, .int .i64 t.main, .int .i64 u.params, .slice v.aV u.vars.length v.cV, .int .i64 u.result, .slice v.aT u.takes.length v.cT, .slice v.aO u.owns.length v.cO, .slice v.aI u.ins.length v.cI, .slice v.aF (flds t).length v.cF, .slice v.aS (GuaM.both (glob t) (out t k)).length v.cS, .slice v.aL (glob t).length v.cL, .slice v.aX (outs t).length v.cX, .int .i64 0, .slice none 0 0, .bool false, .int .i64 0, .int .i64 0, .int .i64 0, .slice v.aJ u.ins.length v.cJ, .slice (some ⟨v.st, 0, none⟩) u.ins.length u.ins.length, w, .slice (some ⟨v.wt, 0, none⟩) u.ins.length u.ins.length]) (fun j => !(List.contains [] j)) [(0, true), (1, true), (2, true), (3, true), (4, true), (5, true), (6, true), (7, true), (8, true), (9, true)] rfl (by kernel_rfl) (by kernel_rfl) (by first | ((repeat (first | apply Go.GX.SelR.nil | apply Go.GX.SelR.cons | (with_reducible apply Go.GX.TakeR.head) | apply Go.GX.TakeR.tail)); done) | (repeat (first | apply Go.GX.SelR.nil | apply Go.GX.SelR.cons | apply Go.GX.TakeR.head | apply Go.GX.TakeR.tail))) ?_; intro wd F hW hR
  refine GX.wT ?_; intros
  refine GX.nmP 4 ?_; rintro b4 rfl
  refine GX.nmS 16 ?_; rintro aQ cQ rfl rfl
  refine GX.unpin (RowR bl 66 [.slice v.aC t.classes.length v.cC, .slice v.aG t.globals.length v.cG, .slice v.aU t.units.length v.cU, .int .i64 t.main, .int .i64 u.params, .slice v.aV u.vars.length v.cV, .int .i64 u.result, .slice v.aT u.takes.length v.cT, .slice v.aO u.owns.length v.cO, .slice v.aI u.ins.length v.cI, .slice v.aF (flds t).length v.cF, .slice v.aS (GuaM.both (glob t) (out t k)).length v.cS, .slice v.aL (glob t).length v.cL, .slice v.aX (outs t).length v.cX, .int .i64 0, .slice none 0 0, .bool false, .int .i64 0, .int .i64 0, .int .i64 0, .slice v.aJ u.ins.length v.cJ, .slice (some ⟨v.st, 0, none⟩) u.ins.length u.ins.length, w, .slice (some ⟨v.wt, 0, none⟩) u.ins.length u.ins.length]) ?_
  refine GX.wR ?_; intros
  have hiff : GuaM.CallC t k u x L ↔ (∀ c ∈ out t (j : Int), GuaM.Seen t k L c) ∧ ∀ c ∈ g.takes, c ∈ L ∨ c ∈ u.takes := by
    unfold GuaM.CallC
    rw [hj]
    have hgt : gt t.units (j : Int) = some g := by rw [gt_nat]; exact hg
    constructor
    · rintro ⟨h1, h2⟩
      exact ⟨h1, h2 g hgt⟩
    · rintro ⟨h1, h2⟩
      refine ⟨h1, fun g' hg' => ?_⟩
      rw [hgt] at hg'
      cases hg'
      exact h2
  refine GX.loop (σ := Nat) (fun i => [(0, .pointer (some ⟨bl, 0, none⟩)), (2, .slice a L.length cp), (4, .pointer (some ⟨b4, 0, none⟩)), (16, .slice aQ (out t (j : Int)).length cQ), (17, .int .i64 ((out t (j : Int)).length : Int)), (18, .int .i64 (i : Int))]) (fun _ => []) (fun _ => [RowR bl 66 [.slice v.aC t.classes.length v.cC, .slice v.aG t.globals.length v.cG, .slice v.aU t.units.length v.cU, .int .i64 t.main, .int .i64 u.params, .slice v.aV u.vars.length v.cV, .int .i64 u.result, .slice v.aT u.takes.length v.cT, .slice v.aO u.owns.length v.cO, .slice v.aI u.ins.length v.cI, .slice v.aF (flds t).length v.cF, .slice v.aS (GuaM.both (glob t) (out t k)).length v.cS, .slice v.aL (glob t).length v.cL, .slice v.aX (outs t).length v.cX, .int .i64 0, .slice none 0 0, .bool false, .int .i64 0, .int .i64 0, .int .i64 0, .slice v.aJ u.ins.length v.cJ, .slice (some ⟨v.st, 0, none⟩) u.ins.length u.ins.length, w, .slice (some ⟨v.wt, 0, none⟩) u.ins.length u.ins.length]])
    (fun i => i ≤ (out t (j : Int)).length ∧ ∀ c ∈ (out t (j : Int)).take i, GuaM.Seen t k L c) (fun i => (out t (j : Int)).length - i) 0 ⟨rfl, rfl, rfl, rfl, rfl, rfl, trivial⟩ ⟨by omega, by simp⟩ (fun i hi => ?_)
  obtain ⟨hi, hn⟩ := hi
  by_cases hlt : i < (out t (j : Int)).length
  · obtain ⟨c, hc⟩ := get_lt hlt
    refine GX.wR ?_; intros
    refine GX.o (cl (seen_spec bl v t u k w a cp L c) fun _ => ?_)
    by_cases h : GuaM.Seen t k L c
    · have h' : ¬ ¬ GuaM.Seen t k L c := fun h2 => h2 h
      refine GX.wR ?_; intros
      refine again (i + 1) ⟨rfl, rfl, rfl, rfl, rfl, rfl, trivial⟩ ⟨by omega, fun y hy => ?_⟩ (by omega)
      rw [List.take_add_one, hc, List.mem_append] at hy
      rcases hy with hy | hy
      · exact hn y hy
      · simp at hy; rw [hy]; exact h
    · refine GX.wR ?_; intros
      exact rt1 () (vN fun h2 => h ((hiff.1 h2).1 c (List.mem_of_getElem? hc)))
  · have hil : i = (out t (j : Int)).length := by omega
    subst hil
    rw [List.take_length] at hn
    refine GX.wR ?_; intros
    refine GX.drawn1 (RowR bl 66 [.slice v.aC t.classes.length v.cC, .slice v.aG t.globals.length v.cG, .slice v.aU t.units.length v.cU, .int .i64 t.main, .int .i64 u.params, .slice v.aV u.vars.length v.cV, .int .i64 u.result, .slice v.aT u.takes.length v.cT, .slice v.aO u.owns.length v.cO, .slice v.aI u.ins.length v.cI, .slice v.aF (flds t).length v.cF, .slice v.aS (GuaM.both (glob t) (out t k)).length v.cS, .slice v.aL (glob t).length v.cL, .slice v.aX (outs t).length v.cX, .int .i64 0, .slice none 0 0, .bool false, .int .i64 0, .int .i64 0, .int .i64 0, .slice v.aJ u.ins.length v.cJ, .slice (some ⟨v.st, 0, none⟩) u.ins.length u.ins.length, w, .slice (some ⟨v.wt, 0, none⟩) u.ins.length u.ins.length]) (fun j => !(List.contains [17] j)) [(0, true), (1, true), (2, true), (3, true), (4, true), (5, true), (6, true), (7, true), (8, true), (9, true), (10, true), (11, true), (12, true), (13, true), (14, true), (15, true), (16, false), (17, false), (18, true)] rfl (by kernel_rfl) (by kernel_rfl) (by first | ((repeat (first | apply Go.GX.SelR.nil | apply Go.GX.SelR.cons | (with_reducible apply Go.GX.TakeR.head) | apply Go.GX.TakeR.tail)); done) | (repeat (first | apply Go.GX.SelR.nil | apply Go.GX.SelR.cons | apply Go.GX.TakeR.head | apply Go.GX.TakeR.tail))) ?_; intro wd F hW hR
    refine GX.wT ?_; intros
    refine GX.nmS 37 ?_; rintro aW cW rfl rfl
    refine GX.gow ?_
    refine (cl (both_spec a v.aT cp v.cT L u.takes hL hu) fun s => ?_)
    obtain ⟨a5, c5⟩ := s
    dsimp only
    refine GX.wT ?_; intros
    refine GX.gow ?_
    refine (cl (gall_spec aW a5 cW c5 g.takes (puts (L ++ u.takes))) fun _ => ?_)
    refine GX.wT ?_; intros
    refine GX.unpin (RowR bl 66 [.slice v.aC t.classes.length v.cC, .slice v.aG t.globals.length v.cG, .slice v.aU t.units.length v.cU, .int .i64 t.main, .int .i64 u.params, .slice v.aV u.vars.length v.cV, .int .i64 u.result, .slice v.aT u.takes.length v.cT, .slice v.aO u.owns.length v.cO, .slice v.aI u.ins.length v.cI, .slice v.aF (flds t).length v.cF, .slice v.aS (GuaM.both (glob t) (out t k)).length v.cS, .slice v.aL (glob t).length v.cL, .slice v.aX (outs t).length v.cX, .int .i64 0, .slice none 0 0, .bool false, .int .i64 0, .int .i64 0, .int .i64 0, .slice v.aJ u.ins.length v.cJ, .slice (some ⟨v.st, 0, none⟩) u.ins.length u.ins.length, w, .slice (some ⟨v.wt, 0, none⟩) u.ins.length u.ins.length]) ?_
    refine GX.wR ?_; intros
    refine rt1 () (vI ?_)
    rw [hiff]
    have e : ∀ c, c ∈ puts (L ++ u.takes) ↔ c ∈ L ∨ c ∈ u.takes := fun c => by rw [(puts_spec _).2, List.mem_append]
    exact ⟨fun h2 c hc => (e c).2 (h2.2 c hc), fun h2 => ⟨hn, fun c hc => (e c).1 (h2 c hc)⟩⟩
end Go.Proofs.YtomfpmbapdhbgaaGreat
