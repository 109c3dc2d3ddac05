import Derived.Test.YtomadjefdghliaaGreatW1
import Derived.Test.YtomadjefdghliaaGreatW12
import Derived.Test.YtomadjefdghliaaGreatW13
import Derived.Test.YtomadjefdghliaaGreatW16
import Derived.Test.YtomadjefdghliaaGreatW18
import Derived.Test.YtomadjefdghliaaGreatW27
/- The walks over From of package reach and of its reference. -/
namespace Go.Proofs.YtomadjefdghliaaGreat
open Go Go.RR Go.RX Go.GX Go.RiseM Go.ReachM
attribute [local irreducible] wpList Code.wp wpPlan Exit.then Exit.inBlock bodyPost NoPanic Went GX.Post GX.Again GX.Meet GX.RowR GX.Own GX.Owns GX.Box GX.Sl GX.Pt GX.Ag GX.MapR GX.Kept GX.Pin wpT GoK AtEnd Both

theorem isClassR_spec (ao : Option Addr) (cap : Nat) (f : List (List Int)) (c : Int) : Does Tryz.prog 99 [.slice ao f.length cap, .int .i64 c] [Sl (Ty.slice Ty.int) ao cap f] []
    (fun _ : Unit => .bool (decide (0 ≤ c ∧ c < f.length))) (fun _ => []) (fun _ => []) := by
  refine enter Tryz.func99 rfl Tryz.ntmps99 rfl fun b => ?_
  by_cases h1 : 0 ≤ c
  · have e : decide (0 ≤ c ∧ c < f.length) = decide (c < f.length) := decide_eq_decide.2 ⟨fun h => h.2, fun h => ⟨h1, h⟩⟩
    rw [e]
    refine GX.wR ?_; intros
    exact rt1 () rfl
  · have e : decide (0 ≤ c ∧ c < f.length) = false := decide_eq_false fun h => h1 h.1
    rw [e]
    refine GX.wR ?_; intros
    exact rt1 () rfl
theorem below_spec (v n : Int) : Does Tryz.prog 113 [.int .i64 v, .int .i64 n] [] []
    (fun _ : Unit => .bool (decide (0 ≤ v ∧ v < n))) (fun _ => []) (fun _ => []) := by
  refine enter Tryz.func113 rfl Tryz.ntmps113 rfl fun b => ?_
  by_cases h1 : 0 ≤ v
  · have e : decide (0 ≤ v ∧ v < n) = decide (v < n) := decide_eq_decide.2 ⟨fun h => h.2, fun h => ⟨h1, h⟩⟩
    rw [e]
    refine GX.wR ?_; intros
    exact rt1 () rfl
  · have e : decide (0 ≤ v ∧ v < n) = false := decide_eq_false fun h => h1 h.1
    rw [e]
    refine GX.wR ?_; intros
    exact rt1 () rfl

structure RcS where
  m : List Bool
  w : List Int
  ao : Option Addr
  cap : Nat
structure LiS where
  i : Nat
  ao : Option Addr
  cap : Nat
/-- How much there is in all. -/
def total (f : List (List Int)) : Nat := (f.map List.length).sum

set_option maxHeartbeats 1000000 in
theorem from_spec (ao ar : Option Addr) (cap car : Nat) (f : List (List Int)) (r : List Int) (hf : f.length ≤ 1073741824) (ht : total f ≤ 1073741824) (hr : r.length ≤ 1073741824) : Does Tryz.prog 41 [.slice ao f.length cap, .slice ar r.length car] [Sl (Ty.slice Ty.int) ao cap f, Sl Ty.int ar car r] []
    (fun s : Option Addr × Nat => .slice s.1 (fromL f r).length s.2) (fun _ => []) (fun s => [GX.Own 3 Ty.int s.1 s.2 (fromL f r)]) := by
  refine enter Tryz.func41 rfl Tryz.ntmps41 rfl fun b => ?_
  refine GX.wR ?_; intros
  refine GX.nmB 5 ?_; rintro b5 rfl
  refine GX.o (cl (clone_spec ar car r (by omega)) fun s => ?_)
  obtain ⟨a6, c6⟩ := s
  dsimp only
  refine GX.wR ?_; intros
  have hw0 := wt_rep f f.length
  refine GX.loop (σ := RcS) (fun s => [(0, .slice ao f.length cap), (5, .slice (some ⟨b5, 0, none⟩) f.length f.length), (6, .slice s.ao s.w.length s.cap)]) (fun _ => [])
    (fun s => [GX.Own 4 Ty.bool (some ⟨b5, 0, none⟩) f.length s.m, GX.Own 3 Ty.int s.ao s.cap s.w]) (fun s => Wk f r s.m s.w ∧ s.w.length + wt f s.m ≤ r.length + total f) (fun s => s.w.length + wt f s.m)
    ⟨List.replicate f.length false, r, a6, c6⟩ ⟨rfl, rfl, rfl, trivial⟩ ⟨Wk.first f r, by dsimp only [total]; omega⟩ (fun s hs => ?_)
  obtain ⟨m, w, aw, cw⟩ := s
  obtain ⟨hW, hc⟩ := hs
  dsimp only at *
  have hll := hW.len
  rcases List.eq_nil_or_concat w with rfl | ⟨w, x, rfl⟩
  · rw [← hW.done, List.length_nil]
    refine GX.wR ?_; intros
    refine ownNil 3 Ty.int ?_
    rw [hll]
    refine GX.loop (σ := LiS) (fun s => [(8, .slice s.ao (marked m s.i).length s.cap), (49, .slice (some ⟨b5, 0, none⟩) f.length f.length), (50, .int .i64 (f.length : Int)), (51, .int .i64 (s.i : Int))]) (fun _ => [])
      (fun s => [GX.Own 4 Ty.bool (some ⟨b5, 0, none⟩) f.length m, GX.Own 3 Ty.int s.ao s.cap (marked m s.i)]) (fun s => s.i ≤ f.length) (fun s => f.length - s.i) ⟨0, none, 0⟩ ⟨rfl, rfl, rfl, rfl, trivial⟩ (by simp) (fun s hs => ?_)
    obtain ⟨i, al, cl'⟩ := s
    dsimp only at *
    have hml := marked_len m i
    have hms := marked_succ m i
    by_cases hlt : i < f.length
    · obtain ⟨v, hv⟩ := get_lt (show i < m.length by omega)
      cases v with
      | true =>
        rw [if_pos hv] at hms
        refine GX.wR ?_; intros
        rw [← hms]
        refine GX.nmS 8 ?_; rintro a8 c8 rfl rfl
        refine GX.wR ?_; intros
        exact again ⟨i + 1, a8, c8⟩ ⟨rfl, rfl, rfl, rfl, trivial⟩ (by dsimp only; omega) (by dsimp only; omega)
      | false =>
        rw [if_neg (by rw [hv]; simp), List.append_nil] at hms
        refine GX.wR ?_; intros
        exact again ⟨i + 1, al, cl'⟩ ⟨by dsimp only; rw [hms]; rfl, rfl, rfl, rfl, trivial⟩ (by dsimp only; omega) (by dsimp only; omega) (h2 := by dsimp only; rw [hms]; first | ((repeat (first | apply Go.GX.SelR.nil | apply Go.GX.SelR.cons | (with_reducible apply Go.GX.TakeR.head) | apply Go.GX.TakeR.tail)); done) | (repeat (first | apply Go.GX.SelR.nil | apply Go.GX.SelR.cons | apply Go.GX.TakeR.head | apply Go.GX.TakeR.tail)))
    · have hil : i = f.length := by omega
      subst hil
      refine GX.wR ?_; intros
      exact rt1 (al, cl') rfl
  · rw [List.concat_eq_append] at *
    have hwl : (w ++ [x]).length = w.length + 1 := by simp
    have hxi : (w ++ [x])[w.length]? = some x := by simp
    refine GX.opn aw fun g1 g2 ha => ?_
    obtain ⟨h1, _⟩ | ⟨g, rfl⟩ := ha
    · simp at h1
    rw [hwl] at hc g1 ⊢
    refine GX.wR ?_; intros
    refine GX.o (oh ?_)
    refine ownTake (some ⟨g, 0, none⟩) w.length ?_
    rw [List.take_left' rfl]
    refine GX.wR ?_; intros
    refine GX.o (cl (isClassR_spec ao cap f x) fun _ => ?_)
    by_cases hx : 0 ≤ x ∧ x < f.length
    · obtain ⟨c, rfl⟩ := Int.eq_ofNat_of_zero_le hx.1
      obtain ⟨l, hl⟩ := get_lt (show c < f.length by omega)
      obtain ⟨v, hv⟩ := get_lt (show c < m.length by omega)
      cases v with
      | true =>
        refine GX.wR ?_; intros
        exact again ⟨m, w, some ⟨g, 0, none⟩, cw⟩ ⟨rfl, rfl, rfl, trivial⟩ ⟨hW.drop fun d hd _ => (show c = d by omega) ▸ hv, by dsimp only; omega⟩ (by dsimp only; omega)
      | false =>
        have hws := wt_set hl hv
        have hwl2 : (w ++ l).length = w.length + l.length := List.length_append
        have htl : total f ≤ 1073741824 := ht
        refine GX.wR ?_; intros
        refine GX.nmS 6 ?_; rintro a8 c8 rfl rfl
        exact again ⟨m.set c true, w ++ l, a8, c8⟩ ⟨rfl, rfl, rfl, trivial⟩ ⟨hW.mark hl, by dsimp only; omega⟩ (by dsimp only; omega)
    · refine GX.wR ?_; intros
      exact again ⟨m, w, some ⟨g, 0, none⟩, cw⟩ ⟨rfl, rfl, rfl, trivial⟩ ⟨hW.drop fun d hd h => absurd ⟨by omega, by omega⟩ hx, by dsimp only; omega⟩ (by dsimp only; omega)

theorem list_spec (ao : Option Addr) (cap : Nat) (m : List Bool) (hm : m.length ≤ 1073741824) : Does Tryz.prog 114 [.slice ao m.length cap] [Sl Ty.bool ao cap m] []
    (fun s : Option Addr × Nat => .slice s.1 (marked m m.length).length s.2) (fun _ => []) (fun s => [GX.Own 3 Ty.int s.1 s.2 (marked m m.length)]) := by
  refine enter Tryz.func114 rfl Tryz.ntmps114 rfl fun b => ?_
  refine GX.wR ?_; intros
  refine ownNil 3 Ty.int ?_
  refine GX.loop (σ := LiS) (fun s => [(0, .slice ao m.length cap), (3, .slice s.ao (marked m s.i).length s.cap), (4, .int .i64 (s.i : Int))]) (fun _ => [])
    (fun s => [GX.Own 3 Ty.int s.ao s.cap (marked m s.i)]) (fun s => s.i ≤ m.length) (fun s => m.length - s.i) ⟨0, none, 0⟩ ⟨rfl, rfl, rfl, trivial⟩ (by simp) (fun s hs => ?_)
  obtain ⟨i, al, cl'⟩ := s
  dsimp only at *
  have hml := marked_len m i
  have hms := marked_succ m i
  by_cases hlt : i < m.length
  · obtain ⟨v, hv⟩ := get_lt hlt
    cases v with
    | true =>
      rw [if_pos hv] at hms
      refine GX.wR ?_; intros
      rw [← hms]
      refine GX.nmS 3 ?_; rintro a8 c8 rfl rfl
      refine GX.wR ?_; intros
      exact again ⟨i + 1, a8, c8⟩ ⟨rfl, rfl, rfl, trivial⟩ (by dsimp only; omega) (by dsimp only; omega)
    | false =>
      rw [if_neg (by rw [hv]; simp), List.append_nil] at hms
      refine GX.wR ?_; intros
      exact again ⟨i + 1, al, cl'⟩ ⟨rfl, by dsimp only; rw [hms]; rfl, rfl, trivial⟩ (by dsimp only; omega) (by dsimp only; omega) (h2 := by dsimp only; rw [hms]; first | ((repeat (first | apply Go.GX.SelR.nil | apply Go.GX.SelR.cons | (with_reducible apply Go.GX.TakeR.head) | apply Go.GX.TakeR.tail)); done) | (repeat (first | apply Go.GX.SelR.nil | apply Go.GX.SelR.cons | apply Go.GX.TakeR.head | apply Go.GX.TakeR.tail)))
  · have hil : i = m.length := by omega
    subst hil
    refine GX.wR ?_; intros
    exact rt1 (al, cl') rfl

structure RfS where
  more : Bool
  m : List Bool
  i : Nat
  j : Nat
structure Rt0 (f : List (List Int)) (r : List Int) (m : List Bool) (i : Nat) : Prop where
  len : m.length = f.length
  sound : ∀ c : Nat, m[c]? = some true → RC f r c
  roots : ∀ c : Nat, (c : Int) ∈ r.take i → c < f.length → m[c]? = some true
set_option maxHeartbeats 1000000 in
theorem rfrom_spec (ao ar : Option Addr) (cap car : Nat) (f : List (List Int)) (r : List Int) (hf : f.length ≤ 1073741824) : Does Tryz.prog 68 [.slice ao f.length cap, .slice ar r.length car] [Sl (Ty.slice Ty.int) ao cap f, Sl Ty.int ar car r] []
    (fun s : Option Addr × Nat => .slice s.1 (fromL f r).length s.2) (fun _ => []) (fun s => [GX.Own 3 Ty.int s.1 s.2 (fromL f r)]) := by
  refine enter Tryz.func68 rfl Tryz.ntmps68 rfl fun b => ?_
  refine sln ar fun hr1 hr2 _ => ?_
  refine GX.wR ?_; intros
  refine GX.nmB 5 ?_; rintro b5 rfl
  refine GX.loop (σ := RfS) (fun s => [(0, .slice ao f.length cap), (1, .slice ar r.length car), (5, .slice (some ⟨b5, 0, none⟩) f.length f.length), (6, .int .i64 (s.i : Int))]) (fun _ => [])
    (fun s => [GX.Own 4 Ty.bool (some ⟨b5, 0, none⟩) f.length s.m]) (fun s => s.i ≤ r.length ∧ Rt0 f r s.m s.i) (fun s => r.length - s.i)
    ⟨false, List.replicate f.length false, 0, 0⟩ ⟨rfl, rfl, rfl, rfl, trivial⟩ ⟨by simp, by simp, fun c h => by rw [List.getElem?_replicate] at h; split at h <;> simp at h, fun c h => by simp at h⟩ (fun s hs => ?_)
  obtain ⟨_, m, i, _⟩ := s
  obtain ⟨hi, hR⟩ := hs
  dsimp only at *
  have hll := hR.len
  by_cases hlt : i < r.length
  · obtain ⟨x, hx⟩ := get_lt hlt
    refine GX.wR ?_; intros
    refine GX.o (cl (below_spec x f.length) fun _ => ?_)
    have hout : ∀ c : Nat, (c : Int) ∈ r.take (i + 1) → (c : Int) ∈ r.take i ∨ (c : Int) = x := fun c h => by
      rw [List.take_add_one, hx, List.mem_append] at h
      exact h.imp id (fun h => by simpa using h)
    by_cases hb : 0 ≤ x ∧ x < (f.length : Int)
    · obtain ⟨c, rfl⟩ := Int.eq_ofNat_of_zero_le hb.1
      have hcl : c < m.length := by omega
      refine GX.wR ?_; intros
      refine again ⟨false, m.set c true, i + 1, 0⟩ ⟨rfl, rfl, rfl, rfl, trivial⟩ ⟨by dsimp only; omega, by rw [List.length_set]; exact hll, fun d hd => ?_, fun d hd hdl => ?_⟩ (by dsimp only; omega)
      · rcases ReachM.set_back hd with rfl | hd
        · exact .root (List.mem_of_getElem? hx) (by omega)
        · exact hR.sound d hd
      · rcases hout d hd with h | h
        · exact set_true (hR.roots d h hdl)
        · obtain rfl : d = c := by omega
          dsimp only
          rw [List.getElem?_set_self hcl]
    · refine GX.wR ?_; intros
      refine again ⟨false, m, i + 1, 0⟩ ⟨rfl, rfl, rfl, rfl, trivial⟩ ⟨by dsimp only; omega, hll, hR.sound, fun d hd hdl => ?_⟩ (by dsimp only; omega)
      rcases hout d hd with h | h
      · exact hR.roots d h hdl
      · exact absurd ⟨by omega, by omega⟩ hb
  · have hil : i = r.length := by omega
    subst hil
    have hroots := hR.roots
    rw [List.take_length] at hroots
    have hsound := hR.sound
    clear hR hi hlt
    refine GX.wR ?_; intros
    refine GX.loop (σ := RfS) (fun s => [(0, .slice ao f.length cap), (5, .slice (some ⟨b5, 0, none⟩) f.length f.length), (7, .bool s.more)]) (fun _ => [])
      (fun s => [GX.Own 4 Ty.bool (some ⟨b5, 0, none⟩) f.length s.m]) (fun s => s.m.length = f.length ∧ (∀ c : Nat, s.m[c]? = some true → RC f r c) ∧ (∀ c : Nat, (c : Int) ∈ r → c < f.length → s.m[c]? = some true) ∧ (s.more = false → marked s.m s.m.length = fromL f r)) (fun s => 2 * s.m.count false + (if s.more = true then 1 else 0))
      ⟨true, m, 0, 0⟩ ⟨rfl, rfl, rfl, trivial⟩ ⟨hll, hsound, hroots, fun h => by simp at h⟩ (fun s hs => ?_)
    clear hll hsound hroots
    obtain ⟨more, m, _, _⟩ := s
    obtain ⟨hll, hsound, hroots, hd⟩ := hs
    dsimp only at *
    cases more with
    | false =>
      rw [← hd rfl]
      refine GX.wR ?_; intros
      refine frz (some ⟨b5, 0, none⟩) ?_
      rw [← hll]
      refine GX.o (cl (list_spec (some ⟨b5, 0, none⟩) m.length m (by omega)) fun s => ?_)
      refine GX.wR ?_; intros
      exact rt1 s rfl
    | true =>
      clear hd
      refine GX.wR ?_; intros
      refine GX.loop (σ := RfS) (fun s => [(0, .slice ao f.length cap), (5, .slice (some ⟨b5, 0, none⟩) f.length f.length), (7, .bool s.more), (8, .int .i64 (s.i : Int))]) (fun _ => [])
        (fun s => [GX.Own 4 Ty.bool (some ⟨b5, 0, none⟩) f.length s.m]) (fun s => s.i ≤ f.length ∧ Ps f r (m.count false) s.more s.m s.i 0) (fun s => f.length - s.i)
        ⟨false, m, 0, 0⟩ ⟨rfl, rfl, rfl, rfl, trivial⟩ ⟨by simp, Ps.begin hll hsound hroots⟩ (fun s hs => ?_)
      obtain ⟨more, m2, i, _⟩ := s
      obtain ⟨hi, hP⟩ := hs
      dsimp only at *
      by_cases hlt : i < f.length
      · obtain ⟨l, hl⟩ := get_lt hlt
        refine GX.wR ?_; intros
        refine GX.loop (σ := RfS) (fun s => [(0, .slice ao f.length cap), (5, .slice (some ⟨b5, 0, none⟩) f.length f.length), (7, .bool s.more), (8, .int .i64 (i : Int)), (9, .int .i64 (s.j : Int))]) (fun _ => [])
          (fun s => [GX.Own 4 Ty.bool (some ⟨b5, 0, none⟩) f.length s.m]) (fun s => s.j ≤ l.length ∧ Ps f r (m.count false) s.more s.m i s.j) (fun s => l.length - s.j)
          ⟨more, m2, 0, 0⟩ ⟨rfl, rfl, rfl, rfl, rfl, trivial⟩ ⟨by simp, hP⟩ (fun s hs => ?_)
        clear hP
        obtain ⟨more, m2, _, j⟩ := s
        obtain ⟨hj, hP⟩ := hs
        dsimp only at *
        have hl2 := hP.len
        obtain ⟨v, hv⟩ := get_lt (show i < m2.length by omega)
        by_cases hjl : j < l.length
        · cases v with
          | false =>
            refine GX.wR ?_; intros
            exact again ⟨more, m2, i + 1, 0⟩ ⟨rfl, rfl, rfl, rfl, trivial⟩ ⟨by dsimp only; omega, hP.fin fun h => by rw [hv] at h; simp at h⟩ (by dsimp only; omega)
          | true =>
            obtain ⟨x, hx⟩ := get_lt hjl
            refine GX.wR ?_; intros
            refine GX.o (cl (below_spec x f.length) fun _ => ?_)
            by_cases hb : 0 ≤ x ∧ x < (f.length : Int)
            · obtain ⟨c, rfl⟩ := Int.eq_ofNat_of_zero_le hb.1
              obtain ⟨u, hu⟩ := get_lt (show c < m2.length by omega)
              cases u with
              | true =>
                refine GX.wR ?_; intros
                exact again ⟨more, m2, 0, j + 1⟩ ⟨rfl, rfl, rfl, rfl, rfl, trivial⟩ ⟨by dsimp only; omega, hP.old hl hx fun d hd _ => (show c = d by omega) ▸ hu⟩ (by dsimp only; omega)
              | false =>
                refine GX.wR ?_; intros
                exact again ⟨true, m2.set c true, 0, j + 1⟩ ⟨rfl, rfl, rfl, rfl, rfl, trivial⟩ ⟨by dsimp only; omega, hP.new hl hx hv hu⟩ (by dsimp only; omega)
            · refine GX.wR ?_; intros
              exact again ⟨more, m2, 0, j + 1⟩ ⟨rfl, rfl, rfl, rfl, rfl, trivial⟩ ⟨by dsimp only; omega, hP.old hl hx fun d hd h => absurd ⟨by omega, by omega⟩ hb⟩ (by dsimp only; omega)
        · refine GX.wR ?_; intros
          exact again ⟨more, m2, i + 1, 0⟩ ⟨rfl, rfl, rfl, rfl, trivial⟩ ⟨by dsimp only; omega, hP.fin fun _ k hk => by rw [hl] at hk; cases hk; omega⟩ (by dsimp only; omega)
      · have hil : i = f.length := by omega
        subst hil
        have hless := hP.less
        have hl2 := hP.len
        refine GX.wR ?_; intros
        refine again ⟨more, m2, 0, 0⟩ ⟨rfl, rfl, rfl, trivial⟩ ⟨hl2, hP.sound, hP.roots, fun e => ?_⟩ ?_
        · dsimp only at e; subst e; exact hP.done
        · dsimp only
          rw [if_pos rfl]
          split <;> rename_i e <;> simp only [e] at hless <;> simp at hless <;> omega
end Go.Proofs.YtomadjefdghliaaGreat

/- slices.IndexFunc and slices.DeleteFunc over a list of ints of one's own. -/
namespace Go.Proofs.YtomadjefdghliaaGreat
open Go Go.RR Go.RX Go.GX
attribute [local irreducible] wpList Code.wp wpPlan Exit.then Exit.inBlock bodyPost NoPanic Went GX.Post GX.Again GX.Meet GX.RowR GX.Own GX.Owns GX.Box GX.Sl GX.Pt GX.Ag GX.MapR GX.Kept GX.Pin wpT GoK AtEnd Both

theorem indexFunc_own (ao : Option Addr) (cap : Nat) (xs : List Int) (fid : Nat) (caps : List Value) (psC : List Pf) (hpC : List Res) (p : Int → Bool) [UFunc Tryz.prog fid]
    (hf : ∀ x ∈ xs, Does Tryz.prog fid (.int .i64 x :: caps) psC hpC (fun _ : Unit => .bool (p x)) (fun _ => []) (fun _ => hpC)) :
    Does Tryz.prog 126 [.slice ao xs.length cap, .func (.func fid) #[] caps.toArray] psC (GX.Own 3 Ty.int ao cap xs :: hpC) (fun _ : Unit => .int .i64 (idxF p xs)) (fun _ => []) (fun _ => GX.Own 3 Ty.int ao cap xs :: hpC) := by
  refine enter Tryz.func126 rfl Tryz.ntmps126 rfl fun b => ?_
  refine GX.opn ao fun hl1 hl2 ha => ?_
  refine GX.wR ?_; intros
  refine GX.loop (σ := Nat) (fun i => [(0, .slice ao xs.length cap), (1, .func (.func fid) #[] caps.toArray), (7, .int .i64 (xs.length : Int)), (8, .int .i64 (i : Int))]) (fun _ => []) (fun _ => GX.Own 3 Ty.int ao cap xs :: hpC)
    (fun i => i ≤ xs.length ∧ ∀ y ∈ xs.take i, p y = false) (fun i => xs.length - i) 0 ⟨rfl, rfl, rfl, rfl, trivial⟩ ⟨by omega, by simp⟩ (fun i hi => ?_) (h2 := SelR.all _)
  obtain ⟨hi, hn⟩ := hi
  by_cases hlt : i < xs.length
  · obtain ⟨x, hx⟩ := get_lt hlt
    obtain ⟨h0, _⟩ | ⟨g, rfl⟩ := ha
    · subst h0; simp at hlt
    refine GX.wR ?_; intros
    refine GX.o (clvR (fs := []) (vs := [.int .i64 x]) (cs := caps) (hf x (List.mem_of_getElem? hx)) fun _ => ?_)
    by_cases hp : p x = true
    · refine GX.wR ?_; intros
      exact rt1 () (congrArg (Value.int .i64) (idxF_some hx hp hn)) (h2 := SelR.all _)
    · have hp : p x = false := by simpa using hp
      refine GX.wR ?_; intros
      exact again (i + 1) ⟨rfl, rfl, rfl, rfl, trivial⟩ ⟨by omega, take_all_succ hx hp hn⟩ (by omega) (h2 := SelR.all _)
  · have hil : i = xs.length := by omega
    subst hil
    refine GX.wR ?_; intros
    rw [List.take_length] at hn
    exact rt1 () (congrArg (Value.int .i64) (idxF_none hn)) (h2 := SelR.all _)

/-- What is kept of the first i. -/
def kept (p : Int → Bool) (xs : List Int) (i : Nat) : List Int := (xs.take i).filter fun x => !p x
theorem kept_succ {p : Int → Bool} {xs : List Int} {i : Nat} {x : Int} (hx : xs[i]? = some x) : kept p xs (i + 1) = kept p xs i ++ (if p x = true then [] else [x]) := by
  unfold kept
  rw [List.take_add_one, hx, List.filter_append]
  congr 1
  by_cases h : p x = true
  · simp [h]
  · have h : p x = false := by simpa using h
    simp [h]
theorem kept_len (p : Int → Bool) (xs : List Int) (i : Nat) (hi : i ≤ xs.length) : (kept p xs i).length ≤ i := by
  have := List.length_filter_le (fun x => !p x) (xs.take i)
  unfold kept
  rw [List.length_take] at this; omega
theorem deleteFunc_spec (ao : Option Addr) (cap : Nat) (xs : List Int) (fid : Nat) (caps : List Value) (psC : List Pf) (hpC : List Res) (p : Int → Bool) [UFunc Tryz.prog fid]
    (hf : ∀ x ∈ xs, Does Tryz.prog fid (.int .i64 x :: caps) psC hpC (fun _ : Unit => .bool (p x)) (fun _ => []) (fun _ => hpC)) :
    Does Tryz.prog 141 [.slice ao xs.length cap, .func (.func fid) #[] caps.toArray] psC (GX.Own 3 Ty.int ao cap xs :: hpC) (fun _ : Unit => .slice ao (kept p xs xs.length).length cap) (fun _ => []) (fun _ => GX.Own 3 Ty.int ao cap (kept p xs xs.length) :: hpC) := by
  refine enter Tryz.func141 rfl Tryz.ntmps141 rfl fun b => ?_
  refine GX.opn ao fun hl1 hl2 ha => ?_
  refine GX.wR ?_; intros
  refine GX.o (clR (indexFunc_own ao cap xs fid caps psC hpC p hf) fun _ => ?_)
  rcases hfi : xs.findIdx? p with _ | i0
  · have h1 : idxF p xs = -1 := by unfold idxF; rw [hfi]
    have h2 : kept p xs xs.length = xs := by
      unfold kept; rw [List.take_length, List.filter_eq_self]
      intro x hx; have := List.findIdx?_eq_none_iff.1 hfi x hx; simp [this]
    rw [h1, h2]
    refine GX.wR ?_; intros
    exact rt1 () rfl (h2 := SelR.all _)
  · have h1 : idxF p xs = (i0 : Int) := by unfold idxF; rw [hfi]
    obtain ⟨hl, hp0, hb0⟩ := List.findIdx?_eq_some_iff_getElem.1 hfi
    have hk0 : kept p xs (i0 + 1) = xs.take i0 := by
      rw [kept_succ (List.getElem?_eq_getElem hl), if_pos hp0, List.append_nil]
      unfold kept; rw [List.filter_eq_self]
      intro x hx
      obtain ⟨j, hj, rfl⟩ := List.mem_take_iff_getElem.1 hx
      have := hb0 j (by omega); simp [this]
    have hk0l : (kept p xs (i0 + 1)).length = i0 := by rw [hk0, List.length_take]; omega
    obtain ⟨h0, _⟩ | ⟨g, rfl⟩ := ha
    · subst h0; simp at hl
    rw [h1]
    refine GX.wR ?_; intros
    refine GX.loop (σ := Nat × List Int) (fun s => [(0, .slice (some ⟨g, 0, none⟩) xs.length cap), (1, .func (.func fid) #[] caps.toArray), (5, .int .i64 ((kept p xs s.1).length : Int)), (6, .int .i64 (s.1 : Int))]) (fun _ => []) (fun s => GX.Own 3 Ty.int (some ⟨g, 0, none⟩) cap s.2 :: hpC)
      (fun s => s.1 ≤ xs.length ∧ s.2.length = xs.length ∧ s.2.take (kept p xs s.1).length = kept p xs s.1 ∧ s.2.drop s.1 = xs.drop s.1) (fun s => xs.length - s.1) (i0 + 1, xs) ⟨rfl, rfl, by rw [hk0l]; rfl, rfl, trivial⟩ ⟨by dsimp only; omega, rfl, by dsimp only; rw [hk0l, hk0], rfl⟩ (fun s hs => ?_) (h2 := SelR.all _)
    obtain ⟨i, ys⟩ := s
    obtain ⟨hi, hyl, htk, hdr⟩ := hs
    dsimp only at *
    have hkl := kept_len p xs i hi
    by_cases hlt : i < xs.length
    · obtain ⟨x, hx⟩ := get_lt hlt
      have hy : ys[i]? = some x := by
        have := congrArg (·[0]?) hdr
        simpa [List.getElem?_drop, hx] using this
      have hks := kept_succ (p := p) hx
      refine GX.wR ?_; intros
      refine GX.o (clvR (fs := []) (vs := [.int .i64 x]) (cs := caps) (hf x (List.mem_of_getElem? hx)) fun _ => ?_)
      by_cases hp : p x = true
      · rw [if_pos hp, List.append_nil] at hks
        have hpn : (!p x) = false := by rw [hp]; rfl
        refine GX.wR ?_; intros
        refine again (i + 1, ys) ⟨rfl, rfl, by dsimp only; rw [hks]; rfl, rfl, trivial⟩ ⟨by dsimp only; omega, hyl, by dsimp only; rw [hks]; exact htk, ?_⟩ (by dsimp only; omega) (h2 := SelR.all _)
        dsimp only
        rw [← List.drop_drop, hdr, List.drop_drop]
      · have hp : p x = false := by simpa using hp
        rw [if_neg (by rw [hp]; simp)] at hks
        have hkl2 : (kept p xs (i + 1)).length = (kept p xs i).length + 1 := by rw [hks]; simp
        have hpn : (!p x) = true := by rw [hp]; rfl
        refine GX.wR ?_; intros
        refine again (i + 1, ys.set (kept p xs i).length x) ⟨rfl, rfl, by dsimp only; rw [hkl2]; rfl, rfl, trivial⟩ ⟨by dsimp only; omega, by simpa using hyl, ?_, ?_⟩ (by dsimp only; omega) (h2 := SelR.all _)
        · dsimp only
          rw [hkl2, List.take_add_one, List.getElem?_set_self (by omega), List.take_set_of_le (Nat.le_refl _), htk, hks]; rfl
        · dsimp only
          rw [List.drop_set_of_lt (by omega), ← List.drop_drop, hdr, List.drop_drop]
    · have hil : i = xs.length := by omega
      subst hil
      refine GX.wR ?_; intros
      refine GX.o (ol fun o2 ho2 => ?_)
      refine GX.o (clr (k0 := (kept p xs xs.length).length) (xs := ys) (fun zs hzl hzt => ?_) rfl rfl rfl rfl (by omega))
      refine GX.nil ?_
      refine ownTake (some ⟨g, 0, none⟩) (kept p xs xs.length).length ?_
      rw [hzt, htk]
      refine GX.wR ?_; intros
      refine GX.o (oh ?_)
      refine GX.wR ?_; intros
      exact rt1 () rfl (h2 := SelR.all _)
end Go.Proofs.YtomadjefdghliaaGreat

/- The walks over package rt: Fields, Global, Out. -/
namespace Go.Proofs.YtomadjefdghliaaGreat
open Go Go.RR Go.RX Go.GX Go.Api Go.RiseM Go.ReachM Go.RtM
attribute [local irreducible] wpList Code.wp wpPlan Exit.then Exit.inBlock bodyPost NoPanic Went GX.Post GX.Again GX.Meet GX.RowR GX.Own GX.Owns GX.Box GX.Sl GX.Pt GX.Ag GX.MapR GX.Kept GX.Pin wpT GoK AtEnd Both

theorem fields_spec (cs : List Value) (t : RTg) (hs : Small t) : Does Tryz.prog 42 [.agg cs.toArray] [Ag tyRTg cs t] []
    (fun s : Option Addr × Nat => .slice s.1 (flds t).length s.2) (fun s => [Sl (Ty.slice Ty.int) s.1 s.2 (flds t)]) (fun _ => []) := by
  have hc := hs.classes
  refine enter Tryz.func42 rfl Tryz.ntmps42 rfl fun b => ?_
  refine GX.wR ?_; intros
  refine GX.nmS 7 ?_; rintro aC cC rfl rfl
  refine ownNil 23 (Ty.slice Ty.int) ?_
  refine GX.loop (σ := Nat × Option Addr × Nat) (fun s => [(3, .slice s.2.1 ((flds t).take s.1).length s.2.2), (7, .slice aC t.classes.length cC), (8, .int .i64 (t.classes.length : Int)), (9, .int .i64 (s.1 : Int))]) (fun _ => [])
    (fun s => [GX.Own 23 (Ty.slice Ty.int) s.2.1 s.2.2 ((flds t).take s.1)]) (fun s => s.1 ≤ t.classes.length) (fun s => t.classes.length - s.1) (0, none, 0) ⟨rfl, rfl, rfl, rfl, trivial⟩ (by simp) (fun s hs2 => ?_)
  obtain ⟨i, aF, cF⟩ := s
  dsimp only at *
  have hfl := flds_len t
  have htl : ((flds t).take i).length = i := by rw [List.length_take]; omega
  by_cases hlt : i < t.classes.length
  · obtain ⟨L, hL⟩ := get_lt hlt
    have hr := hs.ref (List.mem_of_getElem? hL)
    have e : (flds t).take i ++ [L.refs] = (flds t).take (i + 1) := by
      rw [List.take_add_one]; unfold flds; rw [List.getElem?_map, hL]; rfl
    refine GX.wR ?_; intros
    refine GX.nmS 15 ?_; rintro aR cR rfl rfl
    refine GX.o (cl (clone_spec aR cR L.refs (by omega)) fun s => ?_)
    obtain ⟨aN, cN⟩ := s
    dsimp only
    refine frz aN ?_
    refine GX.wR ?_; intros
    rw [e]
    refine GX.nmS 18 ?_; rintro a3 c3 rfl rfl
    refine GX.wR ?_; intros
    exact again (i + 1, a3, c3) ⟨rfl, rfl, rfl, rfl, trivial⟩ (by dsimp only; omega) (by dsimp only; omega)
  · rw [List.take_of_length_le (by omega)]
    refine GX.wR ?_; intros
    refine frz aF ?_
    exact rt1 (aF, cF) rfl
theorem global_spec (cs : List Value) (t : RTg) (hs : Small t) : Does Tryz.prog 18 [.agg cs.toArray] [Ag tyRTg cs t] []
    (fun s : Option Addr × Nat => .slice s.1 (glob t).length s.2) (fun s => [Sl Ty.int s.1 s.2 (glob t)]) (fun _ => []) := by
  have hc := hs.classes
  have hg := hs.globals
  have hr := hs.refs
  have hfl := flds_len t
  refine enter Tryz.func18 rfl Tryz.ntmps18 rfl fun b => ?_
  refine GX.wR ?_; intros
  refine GX.drawn0  (fun j => !(List.contains [4] j)) [(0, true), (2, true), (3, true), (1, false), (4, false), (5, true)] rfl (by kernel_rfl) (by kernel_rfl) (by first | ((repeat (first | apply Go.GX.SelR.nil | apply Go.GX.SelR.cons | (with_reducible apply Go.GX.TakeR.head) | apply Go.GX.TakeR.tail)); done) | (repeat (first | apply Go.GX.SelR.nil | apply Go.GX.SelR.cons | apply Go.GX.TakeR.head | apply Go.GX.TakeR.tail))) ?_; intro wd F hW hR
  refine GX.wT ?_; intros
  refine GX.nmS 6 ?_; rintro aG cG rfl rfl
  refine GX.gow ?_
  refine (cl (fields_spec _ t hs) fun s => ?_)
  obtain ⟨aF, cF⟩ := s
  dsimp only
  refine GX.wT ?_; intros
  refine GX.gow ?_
  refine (cl (from_spec aF aG cF cG (flds t) t.globals (by omega) hr hg) fun s => ?_)
  obtain ⟨a2, c2⟩ := s
  dsimp only
  refine GX.wT ?_; intros
  refine GX.wR ?_; intros
  refine frz a2 ?_
  exact rt1 (a2, c2) rfl
theorem out1_spec (bl : Nat) (g : List Int) (n : Int) : Does Tryz.prog 142 [.int .i64 n, .pointer (some ⟨bl, 0, none⟩)] [Pt (Ty.slice Ty.int) bl 0 g] [] (fun _ : Unit => .bool (decide (n ∈ g))) (fun _ => []) (fun _ => []) := by
  refine enter Tryz.func142 rfl Tryz.ntmps142 rfl fun b => ?_
  refine GX.wR ?_; intros
  refine GX.nmS 4 ?_; rintro ao cap rfl rfl
  refine GX.o (cl (contains_spec ao cap g n) fun _ => ?_)
  refine GX.wR ?_; intros
  exact rt1 () rfl
theorem out_kept (t : RTg) (u : Unt) : kept (fun n => decide (n ∈ glob t)) (fromL (flds t) (roots u)) (fromL (flds t) (roots u)).length = outOf t u := by
  unfold kept outOf
  rw [List.take_length]
  exact List.filter_congr fun x _ => by by_cases h : x ∈ glob t <;> simp [h]
set_option maxHeartbeats 1000000 in
theorem out_spec (cs : List Value) (t : RTg) (hs : Small t) (k : Int) : Does Tryz.prog 128 [.agg cs.toArray, .int .i64 k] [Ag tyRTg cs t] []
    (fun s : Option Addr × Nat => .slice s.1 (out t k).length s.2) (fun s => [Sl Ty.int s.1 s.2 (out t k)]) (fun _ => []) := by
  by_cases h1 : k < 0
  · rw [out_none (.inl h1)]
    refine enter Tryz.func128 rfl Tryz.ntmps128 rfl fun b => ?_
    refine GX.wR ?_; intros
    refine slNil Ty.int ?_
    exact rt1 (none, 0) rfl
  by_cases h2 : (t.units.length : Int) ≤ k
  · rw [out_none (.inr h2)]
    refine enter Tryz.func128 rfl Tryz.ntmps128 rfl fun b => ?_
    refine GX.wR ?_; intros
    refine slNil Ty.int ?_
    exact rt1 (none, 0) rfl
  obtain ⟨k, rfl⟩ := Int.eq_ofNat_of_zero_le (show 0 ≤ k by omega)
  obtain ⟨u, hu⟩ := get_lt (show k < t.units.length by omega)
  rw [out_some hu]
  have hc := hs.classes
  have hr := hs.refs
  have hfl := flds_len t
  have hp := pars_le u
  have hul := (hs.unit u (List.mem_of_getElem? hu)).1
  have hpe : ((pars u : Nat) : Int) = min (max u.params 0) (u.vars.length : Int) := by unfold pars; omega
  have hrl := roots_len u
  have htk : (u.vars.take (min (max u.params 0) (u.vars.length : Int)).toNat).length ≤ 1073741824 := by rw [List.length_take]; omega
  have hro : u.vars.take (min (max u.params 0) (u.vars.length : Int)).toNat ++ [u.result] = roots u := rfl
  refine enter Tryz.func128 rfl Tryz.ntmps128 rfl fun b => ?_
  refine GX.wR ?_; intros
  refine GX.o (cl (global_spec _ t hs) fun s => ?_)
  obtain ⟨aG, cG⟩ := s
  dsimp only
  refine GX.wR ?_; intros
  refine GX.nmP 5 ?_; rintro b5 rfl
  refine GX.nmP 7 ?_; rintro b7 rfl
  refine frzB b5 ?_
  refine frzB b7 ?_
  refine GX.drawnT (fun j => !(List.contains [] j)) (.br [(0, true), (2, true), (3, true), (4, true), (5, true), (7, true), (8, true)] (.alt 1 (.br [] (.alt 6 (.lin [(9, false), (10, false), (11, false), (12, true)]) (.alt 9 (.lin [(6, false), (10, false), (11, false), (12, true)]) .nil))) (.alt 9 (.lin [(1, false), (6, false), (10, false), (11, false), (12, true)]) .nil))) (by kernel_rfl) (by kernel_rfl) ?_; intro wd F hW hR
  refine GX.wT ?_; intros
  refine GX.treeA ?_ ?_
  · refine GX.gok ?_
    refine (cl (fields_spec _ t hs) fun s => ?_)
    obtain ⟨aF, cF⟩ := s
    dsimp only
    refine GX.wT ?_; intros
    refine GX.treeA ?_ ?_
    · refine GX.gok ?_
      refine (cl (clone_spec _ _ (u.vars.take (min (max u.params 0) (u.vars.length : Int)).toNat) (by omega)) fun s => ?_)
      obtain ⟨aV, cV⟩ := s
      dsimp only
      refine GX.wT ?_; intros
      refine GX.nmS 42 ?_; rintro aL cL rfl rfl
      rw [hro]
      refine frz aL ?_
      refine GX.gow ?_
      refine (cl (from_spec aF aL cF cL (flds t) (roots u) (by omega) hr (by omega)) fun s => ?_)
      obtain ⟨aR, cR⟩ := s
      dsimp only
      refine GX.wT ?_; intros
      refine GX.wR ?_; intros
      refine GX.o (cl (deleteFunc_spec aR cR (fromL (flds t) (roots u)) 142 [.pointer (some ⟨b7, 0, none⟩)] [Pt (Ty.slice Ty.int) b7 0 (glob t)] [] (fun n => decide (n ∈ glob t)) (fun n _ => out1_spec b7 (glob t) n)) fun _ => ?_)
      rw [out_kept]
      refine GX.wR ?_; intros
      refine frz aR ?_
      exact rt1 (aR, cR) rfl
    · refine GX.wT ?_; intros
      refine GX.gow ?_
      refine (cl (clone_spec _ _ (u.vars.take (min (max u.params 0) (u.vars.length : Int)).toNat) (by omega)) fun s => ?_)
      obtain ⟨aV, cV⟩ := s
      dsimp only
      refine GX.wT ?_; intros
      refine GX.nmS 42 ?_; rintro aL cL rfl rfl
      rw [hro]
      refine frz aL ?_
      refine GX.gow ?_
      refine (cl (from_spec aF aL cF cL (flds t) (roots u) (by omega) hr (by omega)) fun s => ?_)
      obtain ⟨aR, cR⟩ := s
      dsimp only
      refine GX.wT ?_; intros
      refine GX.wR ?_; intros
      refine GX.o (cl (deleteFunc_spec aR cR (fromL (flds t) (roots u)) 142 [.pointer (some ⟨b7, 0, none⟩)] [Pt (Ty.slice Ty.int) b7 0 (glob t)] [] (fun n => decide (n ∈ glob t)) (fun n _ => out1_spec b7 (glob t) n)) fun _ => ?_)
      rw [out_kept]
      refine GX.wR ?_; intros
      refine frz aR ?_
      exact rt1 (aR, cR) rfl
  · refine GX.wT ?_; intros
    refine GX.gow ?_
    refine (cl (fields_spec _ t hs) fun s => ?_)
    obtain ⟨aF, cF⟩ := s
    dsimp only
    refine GX.wT ?_; intros
    refine GX.gow ?_
    refine (cl (clone_spec _ _ (u.vars.take (min (max u.params 0) (u.vars.length : Int)).toNat) (by omega)) fun s => ?_)
    obtain ⟨aV, cV⟩ := s
    dsimp only
    refine GX.wT ?_; intros
    refine GX.nmS 42 ?_; rintro aL cL rfl rfl
    rw [hro]
    refine frz aL ?_
    refine GX.gow ?_
    refine (cl (from_spec aF aL cF cL (flds t) (roots u) (by omega) hr (by omega)) fun s => ?_)
    obtain ⟨aR, cR⟩ := s
    dsimp only
    refine GX.wT ?_; intros
    refine GX.wR ?_; intros
    refine GX.o (cl (deleteFunc_spec aR cR (fromL (flds t) (roots u)) 142 [.pointer (some ⟨b7, 0, none⟩)] [Pt (Ty.slice Ty.int) b7 0 (glob t)] [] (fun n => decide (n ∈ glob t)) (fun n _ => out1_spec b7 (glob t) n)) fun _ => ?_)
    rw [out_kept]
    refine GX.wR ?_; intros
    refine frz aR ?_
    exact rt1 (aR, cR) rfl
end Go.Proofs.YtomadjefdghliaaGreat

/- How a view of package rt is built. -/
namespace Go.Proofs.YtomadjefdghliaaGreat
open Go Go.RowKit Go.RR Go.RX Go.GX Go.Api

theorem build_view (w : World) (a0 a1 a2 a3 b0 b1 b2 b3 b4 b5 c0 c1 c2 c3 c4 c5 : Value) :
    (Instr.build 131 #[(0, .agg #[a0, a1, a2, a3]), (1, .agg #[b0, b1, b2, b3, b4, b5]), (2, .agg #[c0, c1, c2, c3, c4, c5])]).run Tryz.prog w = .ok (.agg #[a0, a1, a2, a3, b0, b1, b2, b3, b4, b5, c0, c1, c2, c3, c4, c5]) w := by
  simp [Instr.build, Instr.fill, Value.cells] <;> rfl
theorem list4 {cs : List Value} (h : cs.length = 4) : ∃ a b c d, cs = [a, b, c, d] := by
  match cs, h with
  | [a, b, c, d], _ => exact ⟨a, b, c, d, rfl⟩
theorem list6 {cs : List Value} (h : cs.length = 6) : ∃ a b c d e f, cs = [a, b, c, d, e, f] := by
  match cs, h with
  | [a, b, c, d, e, f], _ => exact ⟨a, b, c, d, e, f, rfl⟩
theorem bdv {n : Nat} {env : Env} {b : Base} {ps : List Pf} {hp : List Res} {Q : Exit → Act → World → Prop} {K : Act → World → Prop} {d : Nat} {ty : TypeId} {pos : String} {aft : Array Edge} {gd : Option (Nat × Bool)} {x y z : Operand} {c1 c2 c3 : List Value} {t : RTg} {u : Unt} {i : Ins}
    (h : ∀ cs : List Value, G n ((d, .agg cs.toArray) :: env) b (Ag tyRtView cs ⟨t, u, i⟩ :: ps) hp K) (hx : ev env x = some (.agg c1.toArray) := by exact rfl) (hy : ev env y = some (.agg c2.toArray) := by exact rfl) (hz : ev env z = some (.agg c3.toArray) := by exact rfl)
    (f1 : FAg c1 ps tyRTg t := by exact inferInstance) (f2 : FAg c2 ps tyUnt u := by exact inferInstance) (f3 : FAg c3 ps tyIns i := by exact inferInstance) (hd : Nat.blt d n = true := by exact rfl) :
    GO Tryz.prog n env b ps hp ⟨some d, .build 131 [(0, x), (1, y), (2, z)].toArray, ty, pos, aft, gd⟩ K Q := by
  refine rd (ι := Unit) (val := fun _ => .agg (c1 ++ (c2 ++ c3)).toArray) (pf := fun _ => [Ag tyRtView (c1 ++ (c2 ++ c3)) ⟨t, u, i⟩]) ?_ hd (fun _ => h _)
  intro F w h1 _
  have r1 : tyRTg.rd F w c1 t := h1 _ f1.mem
  have r2 : tyUnt.rd F w c2 u := h1 _ f2.mem
  have r3 : tyIns.rd F w c3 i := h1 _ f3.mem
  refine ⟨(), one_p (co_rd (pair_rd rfl r1 (pair_rd rfl r2 (pair_rd (c2 := []) (by simp) r3 unit_rd)))), ?_⟩
  obtain ⟨a0, a1, a2, a3, rfl⟩ := list4 (tyRTg.len r1)
  obtain ⟨b0, b1, b2, b3, b4, b5, rfl⟩ := list6 (tyUnt.len r2)
  obtain ⟨e0, e1, e2, e3, e4, e5, rfl⟩ := list6 (tyIns.len r3)
  refine RX.build (pv := [(0, .agg #[a0, a1, a2, a3]), (1, .agg #[b0, b1, b2, b3, b4, b5]), (2, .agg #[e0, e1, e2, e3, e4, e5])]) ?_ (fun w' => build_view w' a0 a1 a2 a3 b0 b1 b2 b3 b4 b5 e0 e1 e2 e3 e4 e5)
  simp [RX.evp, hx, hy, hz]
end Go.Proofs.YtomadjefdghliaaGreat
