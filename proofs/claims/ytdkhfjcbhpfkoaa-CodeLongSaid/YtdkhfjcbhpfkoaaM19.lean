import Derived.Test.YtdkhfjcbhpfkoaaM14
import Derived.Test.YtdkhfjcbhpfkoaaM16
import Derived.Test.YtdkhfjcbhpfkoaaM18
/- The walks over From of package reach and of its reference. -/
namespace Go.Proofs.Ytdkhfjcbhpfkoaa
open Go Go.RR Go.RX Go.GX Go.RiseM Go.ReachM
attribute [local irreducible] wpList Code.wp wpPlan Exit.then Exit.inBlock bodyPost NoPanic Went GX.Post GX.Again GX.Meet GX.RowR GX.Own GX.Owns GX.Box GX.Sl GX.Pt GX.Ag GX.MapR GX.Kept GX.Pin wpT GoK AtEnd Both

theorem isClassR_spec (ao : Option Addr) (cap : Nat) (f : List (List Int)) (c : Int) : Does Try.prog 95 [.slice ao f.length cap, .int .i64 c] [Sl (Ty.slice Ty.int) ao cap f] []
    (fun _ : Unit => .bool (decide (0 ≤ c ∧ c < f.length))) (fun _ => []) (fun _ => []) := by
  refine enter Try.func95 rfl Try.ntmps95 rfl fun b => ?_
  by_cases h1 : 0 ≤ c
  · have e : decide (0 ≤ c ∧ c < f.length) = decide (c < f.length) := decide_eq_decide.2 ⟨fun h => h.2, fun h => ⟨h1, h⟩⟩
    rw [e]
    refine GX.wR ?_; intros
    exact rt1 () rfl
  · have e : decide (0 ≤ c ∧ c < f.length) = false := decide_eq_false fun h => h1 h.1
    rw [e]
    refine GX.wR ?_; intros
    exact rt1 () rfl
theorem below_spec (v n : Int) : Does Try.prog 76 [.int .i64 v, .int .i64 n] [] []
    (fun _ : Unit => .bool (decide (0 ≤ v ∧ v < n))) (fun _ => []) (fun _ => []) := by
  refine enter Try.func76 rfl Try.ntmps76 rfl fun b => ?_
  by_cases h1 : 0 ≤ v
  · have e : decide (0 ≤ v ∧ v < n) = decide (v < n) := decide_eq_decide.2 ⟨fun h => h.2, fun h => ⟨h1, h⟩⟩
    rw [e]
    refine GX.wR ?_; intros
    exact rt1 () rfl
  · have e : decide (0 ≤ v ∧ v < n) = false := decide_eq_false fun h => h1 h.1
    rw [e]
    refine GX.wR ?_; intros
    exact rt1 () rfl

structure RcS where
  m : List Bool
  w : List Int
  ao : Option Addr
  cap : Nat
structure LiS where
  i : Nat
  ao : Option Addr
  cap : Nat
/-- How much there is in all. -/
def total (f : List (List Int)) : Nat := (f.map List.length).sum

set_option maxHeartbeats 1000000 in
theorem from_spec (ao ar : Option Addr) (cap car : Nat) (f : List (List Int)) (r : List Int) (hf : f.length ≤ 1073741824) (ht : total f ≤ 1073741824) (hr : r.length ≤ 1073741824) : Does Try.prog 78 [.slice ao f.length cap, .slice ar r.length car] [Sl (Ty.slice Ty.int) ao cap f, Sl Ty.int ar car r] []
    (fun s : Option Addr × Nat => .slice s.1 (fromL f r).length s.2) (fun _ => []) (fun s => [Own 3 Ty.int s.1 s.2 (fromL f r)]) := by
  refine enter Try.func78 rfl Try.ntmps78 rfl fun b => ?_
  refine GX.wR ?_; intros
  refine GX.nmB 5 ?_; rintro b5 rfl
  refine GX.o (cl (clone_spec ar car r (by omega)) fun s => ?_)
  obtain ⟨a6, c6⟩ := s
  dsimp only
  refine GX.wR ?_; intros
  have hw0 := wt_rep f f.length
  refine GX.loop (σ := RcS) (fun s => [(0, .slice ao f.length cap), (5, .slice (some ⟨b5, 0, none⟩) f.length f.length), (6, .slice s.ao s.w.length s.cap)]) (fun _ => [])
    (fun s => [Own 4 Ty.bool (some ⟨b5, 0, none⟩) f.length s.m, Own 3 Ty.int s.ao s.cap s.w]) (fun s => Wk f r s.m s.w ∧ s.w.length + wt f s.m ≤ r.length + total f) (fun s => s.w.length + wt f s.m)
    ⟨List.replicate f.length false, r, a6, c6⟩ ⟨rfl, rfl, rfl, trivial⟩ ⟨Wk.first f r, by dsimp only [total]; omega⟩ (fun s hs => ?_)
  obtain ⟨m, w, aw, cw⟩ := s
  obtain ⟨hW, hc⟩ := hs
  dsimp only at *
  have hll := hW.len
  rcases List.eq_nil_or_concat w with rfl | ⟨w, x, rfl⟩
  · rw [← hW.done, List.length_nil]
    refine GX.wR ?_; intros
    refine ownNil 3 Ty.int ?_
    rw [hll]
    refine GX.loop (σ := LiS) (fun s => [(8, .slice s.ao (marked m s.i).length s.cap), (49, .slice (some ⟨b5, 0, none⟩) f.length f.length), (50, .int .i64 (f.length : Int)), (51, .int .i64 (s.i : Int))]) (fun _ => [])
      (fun s => [Own 4 Ty.bool (some ⟨b5, 0, none⟩) f.length m, Own 3 Ty.int s.ao s.cap (marked m s.i)]) (fun s => s.i ≤ f.length) (fun s => f.length - s.i) ⟨0, none, 0⟩ ⟨rfl, rfl, rfl, rfl, trivial⟩ (by simp) (fun s hs => ?_)
    obtain ⟨i, al, cl'⟩ := s
    dsimp only at *
    have hml := marked_len m i
    have hms := marked_succ m i
    by_cases hlt : i < f.length
    · obtain ⟨v, hv⟩ := get_lt (show i < m.length by omega)
      cases v with
      | true =>
        rw [if_pos hv] at hms
        refine GX.wR ?_; intros
        rw [← hms]
        refine GX.nmS 8 ?_; rintro a8 c8 rfl rfl
        refine GX.wR ?_; intros
        exact again ⟨i + 1, a8, c8⟩ ⟨rfl, rfl, rfl, rfl, trivial⟩ (by dsimp only; omega) (by dsimp only; omega)
      | false =>
        rw [if_neg (by rw [hv]; simp), List.append_nil] at hms
        refine GX.wR ?_; intros
        exact again ⟨i + 1, al, cl'⟩ ⟨by dsimp only; rw [hms]; rfl, rfl, rfl, rfl, trivial⟩ (by dsimp only; omega) (by dsimp only; omega) (h2 := by dsimp only; rw [hms]; first | ((repeat (first | apply Go.GX.SelR.nil | apply Go.GX.SelR.cons | (with_reducible apply Go.GX.TakeR.head) | apply Go.GX.TakeR.tail)); done) | (repeat (first | apply Go.GX.SelR.nil | apply Go.GX.SelR.cons | apply Go.GX.TakeR.head | apply Go.GX.TakeR.tail)))
    · have hil : i = f.length := by omega
      subst hil
      refine GX.wR ?_; intros
      exact rt1 (al, cl') rfl
  · rw [List.concat_eq_append] at *
    have hwl : (w ++ [x]).length = w.length + 1 := by simp
    have hxi : (w ++ [x])[w.length]? = some x := by simp
    refine opn aw fun g1 g2 ha => ?_
    obtain ⟨h1, _⟩ | ⟨g, rfl⟩ := ha
    · simp at h1
    rw [hwl] at hc g1 ⊢
    refine GX.wR ?_; intros
    refine GX.o (oh ?_)
    refine ownTake (some ⟨g, 0, none⟩) w.length ?_
    rw [List.take_left' rfl]
    refine GX.wR ?_; intros
    refine GX.o (cl (isClassR_spec ao cap f x) fun _ => ?_)
    by_cases hx : 0 ≤ x ∧ x < f.length
    · obtain ⟨c, rfl⟩ := Int.eq_ofNat_of_zero_le hx.1
      obtain ⟨l, hl⟩ := get_lt (show c < f.length by omega)
      obtain ⟨v, hv⟩ := get_lt (show c < m.length by omega)
      cases v with
      | true =>
        refine GX.wR ?_; intros
        exact again ⟨m, w, some ⟨g, 0, none⟩, cw⟩ ⟨rfl, rfl, rfl, trivial⟩ ⟨hW.drop fun d hd _ => (show c = d by omega) ▸ hv, by dsimp only; omega⟩ (by dsimp only; omega)
      | false =>
        have hws := wt_set hl hv
        have hwl2 : (w ++ l).length = w.length + l.length := List.length_append
        have htl : total f ≤ 1073741824 := ht
        refine GX.wR ?_; intros
        refine GX.nmS 6 ?_; rintro a8 c8 rfl rfl
        exact again ⟨m.set c true, w ++ l, a8, c8⟩ ⟨rfl, rfl, rfl, trivial⟩ ⟨hW.mark hl, by dsimp only; omega⟩ (by dsimp only; omega)
    · refine GX.wR ?_; intros
      exact again ⟨m, w, some ⟨g, 0, none⟩, cw⟩ ⟨rfl, rfl, rfl, trivial⟩ ⟨hW.drop fun d hd h => absurd ⟨by omega, by omega⟩ hx, by dsimp only; omega⟩ (by dsimp only; omega)

theorem list_spec (ao : Option Addr) (cap : Nat) (m : List Bool) (hm : m.length ≤ 1073741824) : Does Try.prog 77 [.slice ao m.length cap] [Sl Ty.bool ao cap m] []
    (fun s : Option Addr × Nat => .slice s.1 (marked m m.length).length s.2) (fun _ => []) (fun s => [Own 3 Ty.int s.1 s.2 (marked m m.length)]) := by
  refine enter Try.func77 rfl Try.ntmps77 rfl fun b => ?_
  refine GX.wR ?_; intros
  refine ownNil 3 Ty.int ?_
  refine GX.loop (σ := LiS) (fun s => [(0, .slice ao m.length cap), (3, .slice s.ao (marked m s.i).length s.cap), (4, .int .i64 (s.i : Int))]) (fun _ => [])
    (fun s => [Own 3 Ty.int s.ao s.cap (marked m s.i)]) (fun s => s.i ≤ m.length) (fun s => m.length - s.i) ⟨0, none, 0⟩ ⟨rfl, rfl, rfl, trivial⟩ (by simp) (fun s hs => ?_)
  obtain ⟨i, al, cl'⟩ := s
  dsimp only at *
  have hml := marked_len m i
  have hms := marked_succ m i
  by_cases hlt : i < m.length
  · obtain ⟨v, hv⟩ := get_lt hlt
    cases v with
    | true =>
      rw [if_pos hv] at hms
      refine GX.wR ?_; intros
      rw [← hms]
      refine GX.nmS 3 ?_; rintro a8 c8 rfl rfl
      refine GX.wR ?_; intros
      exact again ⟨i + 1, a8, c8⟩ ⟨rfl, rfl, rfl, trivial⟩ (by dsimp only; omega) (by dsimp only; omega)
    | false =>
      rw [if_neg (by rw [hv]; simp), List.append_nil] at hms
      refine GX.wR ?_; intros
      exact again ⟨i + 1, al, cl'⟩ ⟨rfl, by dsimp only; rw [hms]; rfl, rfl, trivial⟩ (by dsimp only; omega) (by dsimp only; omega) (h2 := by dsimp only; rw [hms]; first | ((repeat (first | apply Go.GX.SelR.nil | apply Go.GX.SelR.cons | (with_reducible apply Go.GX.TakeR.head) | apply Go.GX.TakeR.tail)); done) | (repeat (first | apply Go.GX.SelR.nil | apply Go.GX.SelR.cons | apply Go.GX.TakeR.head | apply Go.GX.TakeR.tail)))
  · have hil : i = m.length := by omega
    subst hil
    refine GX.wR ?_; intros
    exact rt1 (al, cl') rfl

structure RfS where
  more : Bool
  m : List Bool
  i : Nat
  j : Nat
structure Rt0 (f : List (List Int)) (r : List Int) (m : List Bool) (i : Nat) : Prop where
  len : m.length = f.length
  sound : ∀ c : Nat, m[c]? = some true → RC f r c
  roots : ∀ c : Nat, (c : Int) ∈ r.take i → c < f.length → m[c]? = some true
set_option maxHeartbeats 1000000 in
theorem rfrom_spec (ao ar : Option Addr) (cap car : Nat) (f : List (List Int)) (r : List Int) (hf : f.length ≤ 1073741824) : Does Try.prog 64 [.slice ao f.length cap, .slice ar r.length car] [Sl (Ty.slice Ty.int) ao cap f, Sl Ty.int ar car r] []
    (fun s : Option Addr × Nat => .slice s.1 (fromL f r).length s.2) (fun _ => []) (fun s => [Own 3 Ty.int s.1 s.2 (fromL f r)]) := by
  refine enter Try.func64 rfl Try.ntmps64 rfl fun b => ?_
  refine sln ar fun hr1 hr2 _ => ?_
  refine GX.wR ?_; intros
  refine GX.nmB 5 ?_; rintro b5 rfl
  refine GX.loop (σ := RfS) (fun s => [(0, .slice ao f.length cap), (1, .slice ar r.length car), (5, .slice (some ⟨b5, 0, none⟩) f.length f.length), (6, .int .i64 (s.i : Int))]) (fun _ => [])
    (fun s => [Own 4 Ty.bool (some ⟨b5, 0, none⟩) f.length s.m]) (fun s => s.i ≤ r.length ∧ Rt0 f r s.m s.i) (fun s => r.length - s.i)
    ⟨false, List.replicate f.length false, 0, 0⟩ ⟨rfl, rfl, rfl, rfl, trivial⟩ ⟨by simp, by simp, fun c h => by rw [List.getElem?_replicate] at h; split at h <;> simp at h, fun c h => by simp at h⟩ (fun s hs => ?_)
  obtain ⟨_, m, i, _⟩ := s
  obtain ⟨hi, hR⟩ := hs
  dsimp only at *
  have hll := hR.len
  by_cases hlt : i < r.length
  · obtain ⟨x, hx⟩ := get_lt hlt
    refine GX.wR ?_; intros
    refine GX.o (cl (below_spec x f.length) fun _ => ?_)
    have hout : ∀ c : Nat, (c : Int) ∈ r.take (i + 1) → (c : Int) ∈ r.take i ∨ (c : Int) = x := fun c h => by
      rw [List.take_add_one, hx, List.mem_append] at h
      exact h.imp id (fun h => by simpa using h)
    by_cases hb : 0 ≤ x ∧ x < (f.length : Int)
    · obtain ⟨c, rfl⟩ := Int.eq_ofNat_of_zero_le hb.1
      have hcl : c < m.length := by omega
      refine GX.wR ?_; intros
      refine again ⟨false, m.set c true, i + 1, 0⟩ ⟨rfl, rfl, rfl, rfl, trivial⟩ ⟨by dsimp only; omega, by rw [List.length_set]; exact hll, fun d hd => ?_, fun d hd hdl => ?_⟩ (by dsimp only; omega)
      · rcases ReachM.set_back hd with rfl | hd
        · exact .root (List.mem_of_getElem? hx) (by omega)
        · exact hR.sound d hd
      · rcases hout d hd with h | h
        · exact set_true (hR.roots d h hdl)
        · obtain rfl : d = c := by omega
          dsimp only
          rw [List.getElem?_set_self hcl]
    · refine GX.wR ?_; intros
      refine again ⟨false, m, i + 1, 0⟩ ⟨rfl, rfl, rfl, rfl, trivial⟩ ⟨by dsimp only; omega, hll, hR.sound, fun d hd hdl => ?_⟩ (by dsimp only; omega)
      rcases hout d hd with h | h
      · exact hR.roots d h hdl
      · exact absurd ⟨by omega, by omega⟩ hb
  · have hil : i = r.length := by omega
    subst hil
    have hroots := hR.roots
    rw [List.take_length] at hroots
    have hsound := hR.sound
    clear hR hi hlt
    refine GX.wR ?_; intros
    refine GX.loop (σ := RfS) (fun s => [(0, .slice ao f.length cap), (5, .slice (some ⟨b5, 0, none⟩) f.length f.length), (7, .bool s.more)]) (fun _ => [])
      (fun s => [Own 4 Ty.bool (some ⟨b5, 0, none⟩) f.length s.m]) (fun s => s.m.length = f.length ∧ (∀ c : Nat, s.m[c]? = some true → RC f r c) ∧ (∀ c : Nat, (c : Int) ∈ r → c < f.length → s.m[c]? = some true) ∧ (s.more = false → marked s.m s.m.length = fromL f r)) (fun s => 2 * s.m.count false + (if s.more = true then 1 else 0))
      ⟨true, m, 0, 0⟩ ⟨rfl, rfl, rfl, trivial⟩ ⟨hll, hsound, hroots, fun h => by simp at h⟩ (fun s hs => ?_)
    clear hll hsound hroots
    obtain ⟨more, m, _, _⟩ := s
    obtain ⟨hll, hsound, hroots, hd⟩ := hs
    dsimp only at *
    cases more with
    | false =>
      rw [← hd rfl]
      refine GX.wR ?_; intros
      refine frz (some ⟨b5, 0, none⟩) ?_
      rw [← hll]
      refine GX.o (cl (list_spec (some ⟨b5, 0, none⟩) m.length m (by omega)) fun s => ?_)
      refine GX.wR ?_; intros
      exact rt1 s rfl
    | true =>
      clear hd
      refine GX.wR ?_; intros
      refine GX.loop (σ := RfS) (fun s => [(0, .slice ao f.length cap), (5, .slice (some ⟨b5, 0, none⟩) f.length f.length), (7, .bool s.more), (8, .int .i64 (s.i : Int))]) (fun _ => [])
        (fun s => [Own 4 Ty.bool (some ⟨b5, 0, none⟩) f.length s.m]) (fun s => s.i ≤ f.length ∧ Ps f r (m.count false) s.more s.m s.i 0) (fun s => f.length - s.i)
        ⟨false, m, 0, 0⟩ ⟨rfl, rfl, rfl, rfl, trivial⟩ ⟨by simp, Ps.begin hll hsound hroots⟩ (fun s hs => ?_)
      obtain ⟨more, m2, i, _⟩ := s
      obtain ⟨hi, hP⟩ := hs
      dsimp only at *
      by_cases hlt : i < f.length
      · obtain ⟨l, hl⟩ := get_lt hlt
        refine GX.wR ?_; intros
        refine GX.loop (σ := RfS) (fun s => [(0, .slice ao f.length cap), (5, .slice (some ⟨b5, 0, none⟩) f.length f.length), (7, .bool s.more), (8, .int .i64 (i : Int)), (9, .int .i64 (s.j : Int))]) (fun _ => [])
          (fun s => [Own 4 Ty.bool (some ⟨b5, 0, none⟩) f.length s.m]) (fun s => s.j ≤ l.length ∧ Ps f r (m.count false) s.more s.m i s.j) (fun s => l.length - s.j)
          ⟨more, m2, 0, 0⟩ ⟨rfl, rfl, rfl, rfl, rfl, trivial⟩ ⟨by simp, hP⟩ (fun s hs => ?_)
        clear hP
        obtain ⟨more, m2, _, j⟩ := s
        obtain ⟨hj, hP⟩ := hs
        dsimp only at *
        have hl2 := hP.len
        obtain ⟨v, hv⟩ := get_lt (show i < m2.length by omega)
        by_cases hjl : j < l.length
        · cases v with
          | false =>
            refine GX.wR ?_; intros
            exact again ⟨more, m2, i + 1, 0⟩ ⟨rfl, rfl, rfl, rfl, trivial⟩ ⟨by dsimp only; omega, hP.fin fun h => by rw [hv] at h; simp at h⟩ (by dsimp only; omega)
          | true =>
            obtain ⟨x, hx⟩ := get_lt hjl
            refine GX.wR ?_; intros
            refine GX.o (cl (below_spec x f.length) fun _ => ?_)
            by_cases hb : 0 ≤ x ∧ x < (f.length : Int)
            · obtain ⟨c, rfl⟩ := Int.eq_ofNat_of_zero_le hb.1
              obtain ⟨u, hu⟩ := get_lt (show c < m2.length by omega)
              cases u with
              | true =>
                refine GX.wR ?_; intros
                exact again ⟨more, m2, 0, j + 1⟩ ⟨rfl, rfl, rfl, rfl, rfl, trivial⟩ ⟨by dsimp only; omega, hP.old hl hx fun d hd _ => (show c = d by omega) ▸ hu⟩ (by dsimp only; omega)
              | false =>
                refine GX.wR ?_; intros
                exact again ⟨true, m2.set c true, 0, j + 1⟩ ⟨rfl, rfl, rfl, rfl, rfl, trivial⟩ ⟨by dsimp only; omega, hP.new hl hx hv hu⟩ (by dsimp only; omega)
            · refine GX.wR ?_; intros
              exact again ⟨more, m2, 0, j + 1⟩ ⟨rfl, rfl, rfl, rfl, rfl, trivial⟩ ⟨by dsimp only; omega, hP.old hl hx fun d hd h => absurd ⟨by omega, by omega⟩ hb⟩ (by dsimp only; omega)
        · refine GX.wR ?_; intros
          exact again ⟨more, m2, i + 1, 0⟩ ⟨rfl, rfl, rfl, rfl, trivial⟩ ⟨by dsimp only; omega, hP.fin fun _ k hk => by rw [hl] at hk; cases hk; omega⟩ (by dsimp only; omega)
      · have hil : i = f.length := by omega
        subst hil
        have hless := hP.less
        have hl2 := hP.len
        refine GX.wR ?_; intros
        refine again ⟨more, m2, 0, 0⟩ ⟨rfl, rfl, rfl, trivial⟩ ⟨hl2, hP.sound, hP.roots, fun e => ?_⟩ ?_
        · dsimp only at e; subst e; exact hP.done
        · dsimp only
          rw [if_pos rfl]
          split <;> rename_i e <;> simp only [e] at hless <;> simp at hless <;> omega
end Go.Proofs.Ytdkhfjcbhpfkoaa
