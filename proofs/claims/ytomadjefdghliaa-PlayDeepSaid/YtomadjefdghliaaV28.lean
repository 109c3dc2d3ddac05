import Derived.Test.YtomadjefdghliaaV1
import Derived.Test.YtomadjefdghliaaV9
import Derived.Test.YtomadjefdghliaaV12
import Derived.Test.YtomadjefdghliaaV13
import Derived.Test.YtomadjefdghliaaV16
import Derived.Test.YtomadjefdghliaaV18
import Derived.Test.YtomadjefdghliaaV27
import Derived.ProofKit
import Derived.Deep.Slices
import Derived.OpenShut
/- The walks over From of package reach and of its reference. -/
namespace Go.Proofs.Ytomadjefdghliaa
open Go Go.RR Go.RX Go.GX Go.RiseM Go.ReachM
attribute [local irreducible] wpList Code.wp wpPlan Exit.then Exit.inBlock bodyPost NoPanic Went GX.Post GX.Again GX.Meet GX.RowR GX.Own GX.Owns GX.Box GX.Sl GX.Pt GX.Ag GX.MapR GX.Kept GX.Pin wpT GoK AtEnd Both

theorem isClassR_spec (ao : Option Addr) (cap : Nat) (f : List (List Int)) (c : Int) : Does Try.prog 55 [.slice ao f.length cap, .int .i64 c] [Sl (Ty.slice Ty.int) ao cap f] []
    (fun _ : Unit => .bool (decide (0 ≤ c ∧ c < f.length))) (fun _ => []) (fun _ => []) := by
  refine enter Try.func55 rfl Try.ntmps55 rfl fun b => ?_
  by_cases h1 : 0 ≤ c
  · have e : decide (0 ≤ c ∧ c < f.length) = decide (c < f.length) := decide_eq_decide.2 ⟨fun h => h.2, fun h => ⟨h1, h⟩⟩
    rw [e]
    refine GX.wR ?_; intros
    exact rt1 () rfl
  · have e : decide (0 ≤ c ∧ c < f.length) = false := decide_eq_false fun h => h1 h.1
    rw [e]
    refine GX.wR ?_; intros
    exact rt1 () rfl
structure RcS where
  m : List Bool
  w : List Int
  ao : Option Addr
  cap : Nat
/-- How much there is in all. -/
def total (f : List (List Int)) : Nat := (f.map List.length).sum

set_option maxHeartbeats 1000000 in
structure LiS where
  i : Nat
  ao : Option Addr
  cap : Nat
theorem from_spec (ao ar : Option Addr) (cap car : Nat) (f : List (List Int)) (r : List Int) (hf : f.length ≤ 1073741824) (ht : total f ≤ 1073741824) (hr : r.length ≤ 1073741824) : Does Try.prog 23 [.slice ao f.length cap, .slice ar r.length car] [Sl (Ty.slice Ty.int) ao cap f, Sl Ty.int ar car r] []
    (fun s : Option Addr × Nat => .slice s.1 (fromL f r).length s.2) (fun _ => []) (fun s => [GX.Own 3 Ty.int s.1 s.2 (fromL f r)]) := by
  refine enter Try.func23 rfl Try.ntmps23 rfl fun b => ?_
  refine GX.wR ?_; intros
  refine GX.nmB 5 ?_; rintro b5 rfl
  refine GX.o (cl (clone_spec ar car r (by omega)) fun s => ?_)
  obtain ⟨a6, c6⟩ := s
  dsimp only
  refine GX.wR ?_; intros
  have hw0 := wt_rep f f.length
  refine GX.loop (σ := RcS) (fun s => [(0, .slice ao f.length cap), (5, .slice (some ⟨b5, 0, none⟩) f.length f.length), (6, .slice s.ao s.w.length s.cap)]) (fun _ => [])
    (fun s => [GX.Own 4 Ty.bool (some ⟨b5, 0, none⟩) f.length s.m, GX.Own 3 Ty.int s.ao s.cap s.w]) (fun s => Wk f r s.m s.w ∧ s.w.length + wt f s.m ≤ r.length + total f) (fun s => s.w.length + wt f s.m)
    ⟨List.replicate f.length false, r, a6, c6⟩ ⟨rfl, rfl, rfl, trivial⟩ ⟨Wk.first f r, by dsimp only [total]; omega⟩ (fun s hs => ?_)
  obtain ⟨m, w, aw, cw⟩ := s
  obtain ⟨hW, hc⟩ := hs
  dsimp only at *
  have hll := hW.len
  rcases List.eq_nil_or_concat w with rfl | ⟨w, x, rfl⟩
  · rw [← hW.done, List.length_nil]
    refine GX.wR ?_; intros
    refine ownNil 3 Ty.int ?_
    rw [hll]
    refine GX.loop (σ := LiS) (fun s => [(8, .slice s.ao (marked m s.i).length s.cap), (49, .slice (some ⟨b5, 0, none⟩) f.length f.length), (50, .int .i64 (f.length : Int)), (51, .int .i64 (s.i : Int))]) (fun _ => [])
      (fun s => [GX.Own 4 Ty.bool (some ⟨b5, 0, none⟩) f.length m, GX.Own 3 Ty.int s.ao s.cap (marked m s.i)]) (fun s => s.i ≤ f.length) (fun s => f.length - s.i) ⟨0, none, 0⟩ ⟨rfl, rfl, rfl, rfl, trivial⟩ (by simp) (fun s hs => ?_)
    obtain ⟨i, al, cl'⟩ := s
    dsimp only at *
    have hml := marked_len m i
    have hms := marked_succ m i
    by_cases hlt : i < f.length
    · obtain ⟨v, hv⟩ := get_lt (show i < m.length by omega)
      cases v with
      | true =>
        rw [if_pos hv] at hms
        refine GX.wR ?_; intros
        rw [← hms]
        refine GX.nmS 8 ?_; rintro a8 c8 rfl rfl
        refine GX.wR ?_; intros
        exact again ⟨i + 1, a8, c8⟩ ⟨rfl, rfl, rfl, rfl, trivial⟩ (by dsimp only; omega) (by dsimp only; omega)
      | false =>
        rw [if_neg (by rw [hv]; simp), List.append_nil] at hms
        refine GX.wR ?_; intros
        exact again ⟨i + 1, al, cl'⟩ ⟨by dsimp only; rw [hms]; rfl, rfl, rfl, rfl, trivial⟩ (by dsimp only; omega) (by dsimp only; omega) (h2 := by dsimp only; rw [hms]; first | ((repeat (first | apply Go.GX.SelR.nil | apply Go.GX.SelR.cons | (with_reducible apply Go.GX.TakeR.head) | apply Go.GX.TakeR.tail)); done) | (repeat (first | apply Go.GX.SelR.nil | apply Go.GX.SelR.cons | apply Go.GX.TakeR.head | apply Go.GX.TakeR.tail)))
    · have hil : i = f.length := by omega
      subst hil
      refine GX.wR ?_; intros
      exact rt1 (al, cl') rfl
  · rw [List.concat_eq_append] at *
    have hwl : (w ++ [x]).length = w.length + 1 := by simp
    have hxi : (w ++ [x])[w.length]? = some x := by simp
    refine GX.opn aw fun g1 g2 ha => ?_
    obtain ⟨h1, _⟩ | ⟨g, rfl⟩ := ha
    · simp at h1
    rw [hwl] at hc g1 ⊢
    refine GX.wR ?_; intros
    refine GX.o (oh ?_)
    refine ownTake (some ⟨g, 0, none⟩) w.length ?_
    rw [List.take_left' rfl]
    refine GX.wR ?_; intros
    refine GX.o (cl (isClassR_spec ao cap f x) fun _ => ?_)
    by_cases hx : 0 ≤ x ∧ x < f.length
    · obtain ⟨c, rfl⟩ := Int.eq_ofNat_of_zero_le hx.1
      obtain ⟨l, hl⟩ := get_lt (show c < f.length by omega)
      obtain ⟨v, hv⟩ := get_lt (show c < m.length by omega)
      cases v with
      | true =>
        refine GX.wR ?_; intros
        exact again ⟨m, w, some ⟨g, 0, none⟩, cw⟩ ⟨rfl, rfl, rfl, trivial⟩ ⟨hW.drop fun d hd _ => (show c = d by omega) ▸ hv, by dsimp only; omega⟩ (by dsimp only; omega)
      | false =>
        have hws := wt_set hl hv
        have hwl2 : (w ++ l).length = w.length + l.length := List.length_append
        have htl : total f ≤ 1073741824 := ht
        refine GX.wR ?_; intros
        refine GX.nmS 6 ?_; rintro a8 c8 rfl rfl
        exact again ⟨m.set c true, w ++ l, a8, c8⟩ ⟨rfl, rfl, rfl, trivial⟩ ⟨hW.mark hl, by dsimp only; omega⟩ (by dsimp only; omega)
    · refine GX.wR ?_; intros
      exact again ⟨m, w, some ⟨g, 0, none⟩, cw⟩ ⟨rfl, rfl, rfl, trivial⟩ ⟨hW.drop fun d hd h => absurd ⟨by omega, by omega⟩ hx, by dsimp only; omega⟩ (by dsimp only; omega)

end Go.Proofs.Ytomadjefdghliaa

/- slices.IndexFunc and slices.DeleteFunc over a list of ints of one's own. -/
namespace Go.Proofs.Ytomadjefdghliaa
open Go Go.RR Go.RX Go.GX
attribute [local irreducible] wpList Code.wp wpPlan Exit.then Exit.inBlock bodyPost NoPanic Went GX.Post GX.Again GX.Meet GX.RowR GX.Own GX.Owns GX.Box GX.Sl GX.Pt GX.Ag GX.MapR GX.Kept GX.Pin wpT GoK AtEnd Both

theorem indexFunc_own (ao : Option Addr) (cap : Nat) (xs : List Int) (fid : Nat) (caps : List Value) (psC : List Pf) (hpC : List Res) (p : Int → Bool) [UFunc Try.prog fid]
    (hf : ∀ x ∈ xs, Does Try.prog fid (.int .i64 x :: caps) psC hpC (fun _ : Unit => .bool (p x)) (fun _ => []) (fun _ => hpC)) :
    Does Try.prog 69 [.slice ao xs.length cap, .func (.func fid) #[] caps.toArray] psC (GX.Own 3 Ty.int ao cap xs :: hpC) (fun _ : Unit => .int .i64 (idxF p xs)) (fun _ => []) (fun _ => GX.Own 3 Ty.int ao cap xs :: hpC) := by
  refine enter Try.func69 rfl Try.ntmps69 rfl fun b => ?_
  refine GX.opn ao fun hl1 hl2 ha => ?_
  refine GX.wR ?_; intros
  refine GX.loop (σ := Nat) (fun i => [(0, .slice ao xs.length cap), (1, .func (.func fid) #[] caps.toArray), (7, .int .i64 (xs.length : Int)), (8, .int .i64 (i : Int))]) (fun _ => []) (fun _ => GX.Own 3 Ty.int ao cap xs :: hpC)
    (fun i => i ≤ xs.length ∧ ∀ y ∈ xs.take i, p y = false) (fun i => xs.length - i) 0 ⟨rfl, rfl, rfl, rfl, trivial⟩ ⟨by omega, by simp⟩ (fun i hi => ?_) (h2 := SelR.all _)
  obtain ⟨hi, hn⟩ := hi
  by_cases hlt : i < xs.length
  · obtain ⟨x, hx⟩ := get_lt hlt
    obtain ⟨h0, _⟩ | ⟨g, rfl⟩ := ha
    · subst h0; simp at hlt
    refine GX.wR ?_; intros
    refine GX.o (clvR (fs := []) (vs := [.int .i64 x]) (cs := caps) (hf x (List.mem_of_getElem? hx)) fun _ => ?_)
    by_cases hp : p x = true
    · refine GX.wR ?_; intros
      exact rt1 () (congrArg (Value.int .i64) (idxF_some hx hp hn)) (h2 := SelR.all _)
    · have hp : p x = false := by simpa using hp
      refine GX.wR ?_; intros
      exact again (i + 1) ⟨rfl, rfl, rfl, rfl, trivial⟩ ⟨by omega, take_all_succ hx hp hn⟩ (by omega) (h2 := SelR.all _)
  · have hil : i = xs.length := by omega
    subst hil
    refine GX.wR ?_; intros
    rw [List.take_length] at hn
    exact rt1 () (congrArg (Value.int .i64) (idxF_none hn)) (h2 := SelR.all _)

/-- What is kept of the first i. -/
def kept (p : Int → Bool) (xs : List Int) (i : Nat) : List Int := (xs.take i).filter fun x => !p x
theorem kept_succ {p : Int → Bool} {xs : List Int} {i : Nat} {x : Int} (hx : xs[i]? = some x) : kept p xs (i + 1) = kept p xs i ++ (if p x = true then [] else [x]) := by
  unfold kept
  rw [List.take_add_one, hx, List.filter_append]
  congr 1
  by_cases h : p x = true
  · simp [h]
  · have h : p x = false := by simpa using h
    simp [h]
theorem kept_len (p : Int → Bool) (xs : List Int) (i : Nat) (hi : i ≤ xs.length) : (kept p xs i).length ≤ i := by
  have := List.length_filter_le (fun x => !p x) (xs.take i)
  unfold kept
  rw [List.length_take] at this; omega
theorem deleteFunc_spec (ao : Option Addr) (cap : Nat) (xs : List Int) (fid : Nat) (caps : List Value) (psC : List Pf) (hpC : List Res) (p : Int → Bool) [UFunc Try.prog fid]
    (hf : ∀ x ∈ xs, Does Try.prog fid (.int .i64 x :: caps) psC hpC (fun _ : Unit => .bool (p x)) (fun _ => []) (fun _ => hpC)) :
    Does Try.prog 83 [.slice ao xs.length cap, .func (.func fid) #[] caps.toArray] psC (GX.Own 3 Ty.int ao cap xs :: hpC) (fun _ : Unit => .slice ao (kept p xs xs.length).length cap) (fun _ => []) (fun _ => GX.Own 3 Ty.int ao cap (kept p xs xs.length) :: hpC) := by
  refine enter Try.func83 rfl Try.ntmps83 rfl fun b => ?_
  refine GX.opn ao fun hl1 hl2 ha => ?_
  refine GX.wR ?_; intros
  refine GX.o (clR (indexFunc_own ao cap xs fid caps psC hpC p hf) fun _ => ?_)
  rcases hfi : xs.findIdx? p with _ | i0
  · have h1 : idxF p xs = -1 := by unfold idxF; rw [hfi]
    have h2 : kept p xs xs.length = xs := by
      unfold kept; rw [List.take_length, List.filter_eq_self]
      intro x hx; have := List.findIdx?_eq_none_iff.1 hfi x hx; simp [this]
    rw [h1, h2]
    refine GX.wR ?_; intros
    exact rt1 () rfl (h2 := SelR.all _)
  · have h1 : idxF p xs = (i0 : Int) := by unfold idxF; rw [hfi]
    obtain ⟨hl, hp0, hb0⟩ := List.findIdx?_eq_some_iff_getElem.1 hfi
    have hk0 : kept p xs (i0 + 1) = xs.take i0 := by
      rw [kept_succ (List.getElem?_eq_getElem hl), if_pos hp0, List.append_nil]
      unfold kept; rw [List.filter_eq_self]
      intro x hx
      obtain ⟨j, hj, rfl⟩ := List.mem_take_iff_getElem.1 hx
      have := hb0 j (by omega); simp [this]
    have hk0l : (kept p xs (i0 + 1)).length = i0 := by rw [hk0, List.length_take]; omega
    obtain ⟨h0, _⟩ | ⟨g, rfl⟩ := ha
    · subst h0; simp at hl
    rw [h1]
    refine GX.wR ?_; intros
    refine GX.loop (σ := Nat × List Int) (fun s => [(0, .slice (some ⟨g, 0, none⟩) xs.length cap), (1, .func (.func fid) #[] caps.toArray), (5, .int .i64 ((kept p xs s.1).length : Int)), (6, .int .i64 (s.1 : Int))]) (fun _ => []) (fun s => GX.Own 3 Ty.int (some ⟨g, 0, none⟩) cap s.2 :: hpC)
      (fun s => s.1 ≤ xs.length ∧ s.2.length = xs.length ∧ s.2.take (kept p xs s.1).length = kept p xs s.1 ∧ s.2.drop s.1 = xs.drop s.1) (fun s => xs.length - s.1) (i0 + 1, xs) ⟨rfl, rfl, by rw [hk0l]; rfl, rfl, trivial⟩ ⟨by dsimp only; omega, rfl, by dsimp only; rw [hk0l, hk0], rfl⟩ (fun s hs => ?_) (h2 := SelR.all _)
    obtain ⟨i, ys⟩ := s
    obtain ⟨hi, hyl, htk, hdr⟩ := hs
    dsimp only at *
    have hkl := kept_len p xs i hi
    by_cases hlt : i < xs.length
    · obtain ⟨x, hx⟩ := get_lt hlt
      have hy : ys[i]? = some x := by
        have := congrArg (·[0]?) hdr
        simpa [List.getElem?_drop, hx] using this
      have hks := kept_succ (p := p) hx
      refine GX.wR ?_; intros
      refine GX.o (clvR (fs := []) (vs := [.int .i64 x]) (cs := caps) (hf x (List.mem_of_getElem? hx)) fun _ => ?_)
      by_cases hp : p x = true
      · rw [if_pos hp, List.append_nil] at hks
        have hpn : (!p x) = false := by rw [hp]; rfl
        refine GX.wR ?_; intros
        refine again (i + 1, ys) ⟨rfl, rfl, by dsimp only; rw [hks]; rfl, rfl, trivial⟩ ⟨by dsimp only; omega, hyl, by dsimp only; rw [hks]; exact htk, ?_⟩ (by dsimp only; omega) (h2 := SelR.all _)
        dsimp only
        rw [← List.drop_drop, hdr, List.drop_drop]
      · have hp : p x = false := by simpa using hp
        rw [if_neg (by rw [hp]; simp)] at hks
        have hkl2 : (kept p xs (i + 1)).length = (kept p xs i).length + 1 := by rw [hks]; simp
        have hpn : (!p x) = true := by rw [hp]; rfl
        refine GX.wR ?_; intros
        refine again (i + 1, ys.set (kept p xs i).length x) ⟨rfl, rfl, by dsimp only; rw [hkl2]; rfl, rfl, trivial⟩ ⟨by dsimp only; omega, by simpa using hyl, ?_, ?_⟩ (by dsimp only; omega) (h2 := SelR.all _)
        · dsimp only
          rw [hkl2, List.take_add_one, List.getElem?_set_self (by omega), List.take_set_of_le (Nat.le_refl _), htk, hks]; rfl
        · dsimp only
          rw [List.drop_set_of_lt (by omega), ← List.drop_drop, hdr, List.drop_drop]
    · have hil : i = xs.length := by omega
      subst hil
      refine GX.wR ?_; intros
      refine GX.o (ol fun o2 ho2 => ?_)
      refine GX.o (clr (k0 := (kept p xs xs.length).length) (xs := ys) (fun zs hzl hzt => ?_) rfl rfl rfl rfl (by omega))
      refine GX.nil ?_
      refine ownTake (some ⟨g, 0, none⟩) (kept p xs xs.length).length ?_
      rw [hzt, htk]
      refine GX.wR ?_; intros
      refine GX.o (oh ?_)
      refine GX.wR ?_; intros
      exact rt1 () rfl (h2 := SelR.all _)
end Go.Proofs.Ytomadjefdghliaa

/- The walks over package rt: Fields, Global, Out. -/
namespace Go.Proofs.Ytomadjefdghliaa
open Go Go.RR Go.RX Go.GX Go.Api Go.RiseM Go.ReachM Go.RtM
attribute [local irreducible] wpList Code.wp wpPlan Exit.then Exit.inBlock bodyPost NoPanic Went GX.Post GX.Again GX.Meet GX.RowR GX.Own GX.Owns GX.Box GX.Sl GX.Pt GX.Ag GX.MapR GX.Kept GX.Pin wpT GoK AtEnd Both

theorem fields_spec (cs : List Value) (t : RTg) (hs : Small t) : Does Try.prog 24 [.agg cs.toArray] [Ag tyRTg cs t] []
    (fun s : Option Addr × Nat => .slice s.1 (flds t).length s.2) (fun s => [Sl (Ty.slice Ty.int) s.1 s.2 (flds t)]) (fun _ => []) := by
  have hc := hs.classes
  refine enter Try.func24 rfl Try.ntmps24 rfl fun b => ?_
  refine GX.wR ?_; intros
  refine GX.nmS 7 ?_; rintro aC cC rfl rfl
  refine ownNil 22 (Ty.slice Ty.int) ?_
  refine GX.loop (σ := Nat × Option Addr × Nat) (fun s => [(3, .slice s.2.1 ((flds t).take s.1).length s.2.2), (7, .slice aC t.classes.length cC), (8, .int .i64 (t.classes.length : Int)), (9, .int .i64 (s.1 : Int))]) (fun _ => [])
    (fun s => [GX.Own 22 (Ty.slice Ty.int) s.2.1 s.2.2 ((flds t).take s.1)]) (fun s => s.1 ≤ t.classes.length) (fun s => t.classes.length - s.1) (0, none, 0) ⟨rfl, rfl, rfl, rfl, trivial⟩ (by simp) (fun s hs2 => ?_)
  obtain ⟨i, aF, cF⟩ := s
  dsimp only at *
  have hfl := flds_len t
  have htl : ((flds t).take i).length = i := by rw [List.length_take]; omega
  by_cases hlt : i < t.classes.length
  · obtain ⟨L, hL⟩ := get_lt hlt
    have hr := hs.ref (List.mem_of_getElem? hL)
    have e : (flds t).take i ++ [L.refs] = (flds t).take (i + 1) := by
      rw [List.take_add_one]; unfold flds; rw [List.getElem?_map, hL]; rfl
    refine GX.wR ?_; intros
    refine GX.nmS 15 ?_; rintro aR cR rfl rfl
    refine GX.o (cl (clone_spec aR cR L.refs (by omega)) fun s => ?_)
    obtain ⟨aN, cN⟩ := s
    dsimp only
    refine frz aN ?_
    refine GX.wR ?_; intros
    rw [e]
    refine GX.nmS 18 ?_; rintro a3 c3 rfl rfl
    refine GX.wR ?_; intros
    exact again (i + 1, a3, c3) ⟨rfl, rfl, rfl, rfl, trivial⟩ (by dsimp only; omega) (by dsimp only; omega)
  · rw [List.take_of_length_le (by omega)]
    refine GX.wR ?_; intros
    refine frz aF ?_
    exact rt1 (aF, cF) rfl
theorem global_spec (cs : List Value) (t : RTg) (hs : Small t) : Does Try.prog 8 [.agg cs.toArray] [Ag tyRTg cs t] []
    (fun s : Option Addr × Nat => .slice s.1 (glob t).length s.2) (fun s => [Sl Ty.int s.1 s.2 (glob t)]) (fun _ => []) := by
  have hc := hs.classes
  have hg := hs.globals
  have hr := hs.refs
  have hfl := flds_len t
  refine enter Try.func8 rfl Try.ntmps8 rfl fun b => ?_
  refine GX.wR ?_; intros
  refine GX.drawn0  (fun j => !(List.contains [4] j)) [(0, true), (2, true), (3, true), (1, false), (4, false), (5, true)] rfl (by kernel_rfl) (by kernel_rfl) (by first | ((repeat (first | apply Go.GX.SelR.nil | apply Go.GX.SelR.cons | (with_reducible apply Go.GX.TakeR.head) | apply Go.GX.TakeR.tail)); done) | (repeat (first | apply Go.GX.SelR.nil | apply Go.GX.SelR.cons | apply Go.GX.TakeR.head | apply Go.GX.TakeR.tail))) ?_; intro wd F hW hR
  refine GX.wT ?_; intros
  refine GX.nmS 6 ?_; rintro aG cG rfl rfl
  refine GX.gow ?_
  refine (cl (fields_spec _ t hs) fun s => ?_)
  obtain ⟨aF, cF⟩ := s
  dsimp only
  refine GX.wT ?_; intros
  refine GX.gow ?_
  refine (cl (from_spec aF aG cF cG (flds t) t.globals (by omega) hr hg) fun s => ?_)
  obtain ⟨a2, c2⟩ := s
  dsimp only
  refine GX.wT ?_; intros
  refine GX.wR ?_; intros
  refine frz a2 ?_
  exact rt1 (a2, c2) rfl
theorem out1_spec (bl : Nat) (g : List Int) (n : Int) : Does Try.prog 84 [.int .i64 n, .pointer (some ⟨bl, 0, none⟩)] [Pt (Ty.slice Ty.int) bl 0 g] [] (fun _ : Unit => .bool (decide (n ∈ g))) (fun _ => []) (fun _ => []) := by
  refine enter Try.func84 rfl Try.ntmps84 rfl fun b => ?_
  refine GX.wR ?_; intros
  refine GX.nmS 4 ?_; rintro ao cap rfl rfl
  refine GX.o (cl (contains_spec ao cap g n) fun _ => ?_)
  refine GX.wR ?_; intros
  exact rt1 () rfl
theorem out_kept (t : RTg) (u : Unt) : kept (fun n => decide (n ∈ glob t)) (fromL (flds t) (roots u)) (fromL (flds t) (roots u)).length = outOf t u := by
  unfold kept outOf
  rw [List.take_length]
  exact List.filter_congr fun x _ => by by_cases h : x ∈ glob t <;> simp [h]
set_option maxHeartbeats 1000000 in
theorem out_spec (cs : List Value) (t : RTg) (hs : Small t) (k : Int) : Does Try.prog 71 [.agg cs.toArray, .int .i64 k] [Ag tyRTg cs t] []
    (fun s : Option Addr × Nat => .slice s.1 (out t k).length s.2) (fun s => [Sl Ty.int s.1 s.2 (out t k)]) (fun _ => []) := by
  by_cases h1 : k < 0
  · rw [out_none (.inl h1)]
    refine enter Try.func71 rfl Try.ntmps71 rfl fun b => ?_
    refine GX.wR ?_; intros
    refine slNil Ty.int ?_
    exact rt1 (none, 0) rfl
  by_cases h2 : (t.units.length : Int) ≤ k
  · rw [out_none (.inr h2)]
    refine enter Try.func71 rfl Try.ntmps71 rfl fun b => ?_
    refine GX.wR ?_; intros
    refine slNil Ty.int ?_
    exact rt1 (none, 0) rfl
  obtain ⟨k, rfl⟩ := Int.eq_ofNat_of_zero_le (show 0 ≤ k by omega)
  obtain ⟨u, hu⟩ := get_lt (show k < t.units.length by omega)
  rw [out_some hu]
  have hc := hs.classes
  have hr := hs.refs
  have hfl := flds_len t
  have hp := pars_le u
  have hul := (hs.unit u (List.mem_of_getElem? hu)).1
  have hpe : ((pars u : Nat) : Int) = min (max u.params 0) (u.vars.length : Int) := by unfold pars; omega
  have hrl := roots_len u
  have htk : (u.vars.take (min (max u.params 0) (u.vars.length : Int)).toNat).length ≤ 1073741824 := by rw [List.length_take]; omega
  have hro : u.vars.take (min (max u.params 0) (u.vars.length : Int)).toNat ++ [u.result] = roots u := rfl
  refine enter Try.func71 rfl Try.ntmps71 rfl fun b => ?_
  refine GX.wR ?_; intros
  refine GX.o (cl (global_spec _ t hs) fun s => ?_)
  obtain ⟨aG, cG⟩ := s
  dsimp only
  refine GX.wR ?_; intros
  refine GX.nmP 5 ?_; rintro b5 rfl
  refine GX.nmP 7 ?_; rintro b7 rfl
  refine frzB b5 ?_
  refine frzB b7 ?_
  refine GX.drawnT (fun j => !(List.contains [] j)) (.br [(0, true), (2, true), (3, true), (4, true), (5, true), (7, true), (8, true)] (.alt 1 (.br [] (.alt 6 (.lin [(9, false), (10, false), (11, false), (12, true)]) (.alt 9 (.lin [(6, false), (10, false), (11, false), (12, true)]) .nil))) (.alt 9 (.lin [(1, false), (6, false), (10, false), (11, false), (12, true)]) .nil))) (by kernel_rfl) (by kernel_rfl) ?_; intro wd F hW hR
  refine GX.wT ?_; intros
  refine GX.treeA ?_ ?_
  · refine GX.gok ?_
    refine (cl (fields_spec _ t hs) fun s => ?_)
    obtain ⟨aF, cF⟩ := s
    dsimp only
    refine GX.wT ?_; intros
    refine GX.treeA ?_ ?_
    · refine GX.gok ?_
      refine (cl (clone_spec _ _ (u.vars.take (min (max u.params 0) (u.vars.length : Int)).toNat) (by omega)) fun s => ?_)
      obtain ⟨aV, cV⟩ := s
      dsimp only
      refine GX.wT ?_; intros
      refine GX.nmS 42 ?_; rintro aL cL rfl rfl
      rw [hro]
      refine frz aL ?_
      refine GX.gow ?_
      refine (cl (from_spec aF aL cF cL (flds t) (roots u) (by omega) hr (by omega)) fun s => ?_)
      obtain ⟨aR, cR⟩ := s
      dsimp only
      refine GX.wT ?_; intros
      refine GX.wR ?_; intros
      refine GX.o (cl (deleteFunc_spec aR cR (fromL (flds t) (roots u)) 84 [.pointer (some ⟨b7, 0, none⟩)] [Pt (Ty.slice Ty.int) b7 0 (glob t)] [] (fun n => decide (n ∈ glob t)) (fun n _ => out1_spec b7 (glob t) n)) fun _ => ?_)
      rw [out_kept]
      refine GX.wR ?_; intros
      refine frz aR ?_
      exact rt1 (aR, cR) rfl
    · refine GX.wT ?_; intros
      refine GX.gow ?_
      refine (cl (clone_spec _ _ (u.vars.take (min (max u.params 0) (u.vars.length : Int)).toNat) (by omega)) fun s => ?_)
      obtain ⟨aV, cV⟩ := s
      dsimp only
      refine GX.wT ?_; intros
      refine GX.nmS 42 ?_; rintro aL cL rfl rfl
      rw [hro]
      refine frz aL ?_
      refine GX.gow ?_
      refine (cl (from_spec aF aL cF cL (flds t) (roots u) (by omega) hr (by omega)) fun s => ?_)
      obtain ⟨aR, cR⟩ := s
      dsimp only
      refine GX.wT ?_; intros
      refine GX.wR ?_; intros
      refine GX.o (cl (deleteFunc_spec aR cR (fromL (flds t) (roots u)) 84 [.pointer (some ⟨b7, 0, none⟩)] [Pt (Ty.slice Ty.int) b7 0 (glob t)] [] (fun n => decide (n ∈ glob t)) (fun n _ => out1_spec b7 (glob t) n)) fun _ => ?_)
      rw [out_kept]
      refine GX.wR ?_; intros
      refine frz aR ?_
      exact rt1 (aR, cR) rfl
  · refine GX.wT ?_; intros
    refine GX.gow ?_
    refine (cl (fields_spec _ t hs) fun s => ?_)
    obtain ⟨aF, cF⟩ := s
    dsimp only
    refine GX.wT ?_; intros
    refine GX.gow ?_
    refine (cl (clone_spec _ _ (u.vars.take (min (max u.params 0) (u.vars.length : Int)).toNat) (by omega)) fun s => ?_)
    obtain ⟨aV, cV⟩ := s
    dsimp only
    refine GX.wT ?_; intros
    refine GX.nmS 42 ?_; rintro aL cL rfl rfl
    rw [hro]
    refine frz aL ?_
    refine GX.gow ?_
    refine (cl (from_spec aF aL cF cL (flds t) (roots u) (by omega) hr (by omega)) fun s => ?_)
    obtain ⟨aR, cR⟩ := s
    dsimp only
    refine GX.wT ?_; intros
    refine GX.wR ?_; intros
    refine GX.o (cl (deleteFunc_spec aR cR (fromL (flds t) (roots u)) 84 [.pointer (some ⟨b7, 0, none⟩)] [Pt (Ty.slice Ty.int) b7 0 (glob t)] [] (fun n => decide (n ∈ glob t)) (fun n _ => out1_spec b7 (glob t) n)) fun _ => ?_)
    rw [out_kept]
    refine GX.wR ?_; intros
    refine frz aR ?_
    exact rt1 (aR, cR) rfl
end Go.Proofs.Ytomadjefdghliaa

/- How a view of package rt is built. -/
namespace Go.Proofs.Ytomadjefdghliaa
open Go Go.RowKit Go.RR Go.RX Go.GX Go.Api

theorem build_view (w : World) (a0 a1 a2 a3 b0 b1 b2 b3 b4 b5 c0 c1 c2 c3 c4 c5 : Value) :
    (Instr.build 99 #[(0, .agg #[a0, a1, a2, a3]), (1, .agg #[b0, b1, b2, b3, b4, b5]), (2, .agg #[c0, c1, c2, c3, c4, c5])]).run Try.prog w = .ok (.agg #[a0, a1, a2, a3, b0, b1, b2, b3, b4, b5, c0, c1, c2, c3, c4, c5]) w := by
  simp [Instr.build, Instr.fill, Value.cells] <;> rfl
theorem list4 {cs : List Value} (h : cs.length = 4) : ∃ a b c d, cs = [a, b, c, d] := by
  match cs, h with
  | [a, b, c, d], _ => exact ⟨a, b, c, d, rfl⟩
theorem list6 {cs : List Value} (h : cs.length = 6) : ∃ a b c d e f, cs = [a, b, c, d, e, f] := by
  match cs, h with
  | [a, b, c, d, e, f], _ => exact ⟨a, b, c, d, e, f, rfl⟩
theorem bdv {n : Nat} {env : Env} {b : Base} {ps : List Pf} {hp : List Res} {Q : Exit → Act → World → Prop} {K : Act → World → Prop} {d : Nat} {ty : TypeId} {pos : String} {aft : Array Edge} {gd : Option (Nat × Bool)} {x y z : Operand} {c1 c2 c3 : List Value} {t : RTg} {u : Unt} {i : Ins}
    (h : ∀ cs : List Value, G n ((d, .agg cs.toArray) :: env) b (Ag tyRtView cs ⟨t, u, i⟩ :: ps) hp K) (hx : ev env x = some (.agg c1.toArray) := by exact rfl) (hy : ev env y = some (.agg c2.toArray) := by exact rfl) (hz : ev env z = some (.agg c3.toArray) := by exact rfl)
    (f1 : FAg c1 ps tyRTg t := by exact inferInstance) (f2 : FAg c2 ps tyUnt u := by exact inferInstance) (f3 : FAg c3 ps tyIns i := by exact inferInstance) (hd : Nat.blt d n = true := by exact rfl) :
    GO Try.prog n env b ps hp ⟨some d, .build 99 [(0, x), (1, y), (2, z)].toArray, ty, pos, aft, gd⟩ K Q := by
  refine rd (ι := Unit) (val := fun _ => .agg (c1 ++ (c2 ++ c3)).toArray) (pf := fun _ => [Ag tyRtView (c1 ++ (c2 ++ c3)) ⟨t, u, i⟩]) ?_ hd (fun _ => h _)
  intro F w h1 _
  have r1 : tyRTg.rd F w c1 t := h1 _ f1.mem
  have r2 : tyUnt.rd F w c2 u := h1 _ f2.mem
  have r3 : tyIns.rd F w c3 i := h1 _ f3.mem
  refine ⟨(), one_p (co_rd (pair_rd rfl r1 (pair_rd rfl r2 (pair_rd (c2 := []) (by simp) r3 unit_rd)))), ?_⟩
  obtain ⟨a0, a1, a2, a3, rfl⟩ := list4 (tyRTg.len r1)
  obtain ⟨b0, b1, b2, b3, b4, b5, rfl⟩ := list6 (tyUnt.len r2)
  obtain ⟨e0, e1, e2, e3, e4, e5, rfl⟩ := list6 (tyIns.len r3)
  refine RX.build (pv := [(0, .agg #[a0, a1, a2, a3]), (1, .agg #[b0, b1, b2, b3, b4, b5]), (2, .agg #[e0, e1, e2, e3, e4, e5])]) ?_ (fun w' => build_view w' a0 a1 a2 a3 b0 b1 b2 b3 b4 b5 e0 e1 e2 e3 e4 e5)
  simp [RX.evp, hx, hy, hz]
end Go.Proofs.Ytomadjefdghliaa

/- The walks over package rt: layouts, unit, units, Right. -/
namespace Go.Proofs.Ytomadjefdghliaa
open Go Go.RR Go.RX Go.GX Go.Api Go.RiseM Go.ReachM Go.RtM
attribute [local irreducible] wpList Code.wp wpPlan Exit.then Exit.inBlock bodyPost NoPanic Went GX.Post GX.Again GX.Meet GX.RowR GX.Own GX.Owns GX.Box GX.Sl GX.Pt GX.Ag GX.MapR GX.Kept GX.Pin wpT GoK AtEnd Both

theorem unit1_spec (bl : Nat) (g : List Int) (n : Int) : Does Try.prog 73 [.int .i64 n, .pointer (some ⟨bl, 0, none⟩)] [Pt (Ty.slice Ty.int) bl 0 g] [] (fun _ : Unit => .bool (decide (n ∈ g))) (fun _ => []) (fun _ => []) := by
  refine enter Try.func73 rfl Try.ntmps73 rfl fun b => ?_
  refine GX.wR ?_; intros
  refine GX.nmS 4 ?_; rintro ao cap rfl rfl
  refine GX.o (cl (contains_spec ao cap g n) fun _ => ?_)
  refine GX.wR ?_; intros
  exact rt1 () rfl
theorem unit2_spec (bt bo bg : Nat) (t : RTg) (o g : List Int) (n : Int) : Does Try.prog 75 [.int .i64 n, .pointer (some ⟨bt, 0, none⟩), .pointer (some ⟨bo, 0, none⟩), .pointer (some ⟨bg, 0, none⟩)] [Pt tyRTg bt 0 t, Pt (Ty.slice Ty.int) bo 0 o, Pt (Ty.slice Ty.int) bg 0 g] [] (fun _ : Unit => .bool (decide (IsClass t n ∧ n ∉ o ∧ n ∉ g))) (fun _ => []) (fun _ => []) := by
  refine enter Try.func75 rfl Try.ntmps75 rfl fun b => ?_
  refine GX.wR ?_; intros
  refine GX.o (cl (isClass_spec _ t n) fun _ => ?_)
  by_cases h1 : IsClass t n
  · refine GX.wR ?_; intros
    refine GX.nmS 10 ?_; rintro ao cap rfl rfl
    refine GX.o (cl (contains_spec ao cap o n) fun _ => ?_)
    by_cases h2 : n ∈ o
    · have h2' := Classical.not_not.2 h2
      refine GX.wR ?_; intros
      exact rt1 () (vN fun h => h.2.1 h2)
    · refine GX.wR ?_; intros
      refine GX.nmS 16 ?_; rintro ag cag rfl rfl
      refine GX.o (cl (contains_spec ag cag g n) fun _ => ?_)
      refine GX.wR ?_; intros
      exact rt1 () (vI ⟨fun h => h.2.2, fun h => ⟨h1, h2, h⟩⟩)
  · refine GX.wR ?_; intros
    exact rt1 () (vN fun h => h1 h.1)

theorem layouts_spec (cs : List Value) (t : RTg) : Does Try.prog 20 [.agg cs.toArray] [Ag tyRTg cs t] [] (fun _ : Unit => .bool (decide (∀ L ∈ t.classes, LayoutOk t L))) (fun _ => []) (fun _ => []) := by
  refine enter Try.func20 rfl Try.ntmps20 rfl fun b => ?_
  refine GX.wR ?_; intros
  refine GX.nmP 1 ?_; rintro b1 rfl
  refine GX.nmS 6 ?_; rintro aC cC rfl rfl
  refine GX.loop (σ := Nat) (fun i => [(1, .pointer (some ⟨b1, 0, none⟩)), (6, .slice aC t.classes.length cC), (7, .int .i64 (t.classes.length : Int)), (8, .int .i64 (i : Int))]) (fun _ => []) (fun _ => [])
    (fun i => i ≤ t.classes.length ∧ ∀ L ∈ t.classes.take i, LayoutOk t L) (fun i => t.classes.length - i) 0 ⟨rfl, rfl, rfl, rfl, trivial⟩ ⟨by omega, by simp⟩ (fun i hi => ?_)
  obtain ⟨hi, hA⟩ := hi
  by_cases hlt : i < t.classes.length
  · obtain ⟨L, hL⟩ := get_lt hlt
    have hm := List.mem_of_getElem? hL
    have next : LayoutOk t L → ∀ K ∈ t.classes.take (i + 1), LayoutOk t K := fun h K hK => by
      rw [List.take_add_one, hL, List.mem_append] at hK
      rcases hK with hK | hK
      · exact hA K hK
      · simp at hK; subst hK; exact h
    by_cases h1 : 8 < (L.refs.length : Int)
    · refine GX.wR ?_; intros
      exact rt1 () (vN fun h => by have := (h L hm).1; omega)
    by_cases h2 : L.arr = true
    · by_cases h3 : (L.refs.length : Int) = 1
      · have h3' := Classical.not_not.2 h3
        refine GX.wR ?_; intros
        refine GX.nmS 29 ?_; rintro aR cR rfl rfl
        refine GX.o (cl (entries_spec _ t aR cR L.refs) fun _ => ?_)
        by_cases h4 : Entries t L.refs
        · have h4' := Classical.not_not.2 h4
          refine GX.wR ?_; intros
          exact again (i + 1) ⟨rfl, rfl, rfl, rfl, trivial⟩ ⟨by omega, next ⟨by omega, fun _ => by omega, h4⟩⟩ (by omega)
        · refine GX.wR ?_; intros
          exact rt1 () (vN fun h => h4 (h L hm).2.2)
      · refine GX.wR ?_; intros
        exact rt1 () (vN fun h => h3 (by have := (h L hm).2.1 h2; omega))
    · have h2' : L.arr = false := by simpa using h2
      refine GX.wR ?_; intros
      refine GX.nmS 29 ?_; rintro aR cR rfl rfl
      refine GX.o (cl (entries_spec _ t aR cR L.refs) fun _ => ?_)
      by_cases h4 : Entries t L.refs
      · have h4' := Classical.not_not.2 h4
        refine GX.wR ?_; intros
        exact again (i + 1) ⟨rfl, rfl, rfl, rfl, trivial⟩ ⟨by omega, next ⟨by omega, fun h => absurd h h2, h4⟩⟩ (by omega)
      · refine GX.wR ?_; intros
        exact rt1 () (vN fun h => h4 (h L hm).2.2)
  · have hil : i = t.classes.length := by omega
    subst hil
    rw [List.take_length] at hA
    refine GX.wR ?_; intros
    exact rt1 () (vY hA)

theorem upP_dec {Q : Int → Prop} [DecidablePred Q] (l : List Int) : UpP (fun n => decide (Q n)) l ↔ Rise l ∧ ∀ n ∈ l, Q n := by simp [UpP]
/-- What a unit's head asks, but for takes and owns. -/
def HdA (t : RTg) (u : Unt) : Prop := (0 ≤ u.params ∧ u.params ≤ 6 ∧ u.params ≤ (u.vars.length : Int) ∧ u.vars.length ≤ 4000) ∧ Entries t u.vars ∧ (u.result = -3 ∨ IsEntry t u.result) ∧ u.ins ≠ []
instance (t : RTg) (u : Unt) : Decidable (HdA t u) := by unfold HdA; infer_instance
theorem outU_spec (cs : List Value) (t : RTg) (hs : Small t) (k : Nat) (u : Unt) (hu : t.units[k]? = some u) : Does Try.prog 71 [.agg cs.toArray, .int .i64 (k : Int)] [Ag tyRTg cs t] []
    (fun s : Option Addr × Nat => .slice s.1 (outOf t u).length s.2) (fun s => [Sl Ty.int s.1 s.2 (outOf t u)]) (fun _ => []) := by
  have := out_spec cs t hs k
  rw [out_some hu] at this
  exact this
structure UnS where
  b6 : Nat
  b7 : Nat
set_option maxHeartbeats 2000000 in
theorem unit_spec (cs : List Value) (t : RTg) (hs : Small t) (k : Nat) (u : Unt) (hu : t.units[k]? = some u) : Does Try.prog 53 [.agg cs.toArray, .int .i64 (k : Int)] [Ag tyRTg cs t] [] (fun _ : Unit => .bool (decide (UnitOk t u))) (fun _ => []) (fun _ => []) := by
  refine enter Try.func53 rfl Try.ntmps53 rfl fun b => ?_
  have hkl := (List.getElem?_eq_some_iff.1 hu).1
  have hur := hs.unit u (List.mem_of_getElem? hu)
  refine GX.wRN ?_; intros
  apply GX.region
  refine GX.wRN ?_; intros
  apply GX.region
  refine GX.wRN ?_; intros
  refine GX.nmP 2 ?_; rintro b2 rfl
  refine GX.nmP 5 ?_; rintro b5 rfl
  refine frzB b5 ?_
  refine GX.cut (σ := Bool) (fun p => [(1, .int .i64 (k : Int)), (2, .pointer (some ⟨b2, 0, none⟩)), (5, .pointer (some ⟨b5, 0, none⟩)), (64, .bool p)]) (fun _ => []) (fun _ => []) (fun p => p = decide (¬ HdA t u)) ?_ (fun p hp => ?_)
  · by_cases h1 : u.params < 0
    · refine GX.wR ?_; intros
      exact meet true ⟨rfl, rfl, rfl, rfl, trivial⟩ (decide_eq_true (show ¬ HdA t u from fun h => by have := h.1.1; omega)).symm
    by_cases h2 : 6 < u.params
    · refine GX.wR ?_; intros
      exact meet true ⟨rfl, rfl, rfl, rfl, trivial⟩ (decide_eq_true (show ¬ HdA t u from fun h => by have := h.1.2.1; omega)).symm
    by_cases h3 : (u.vars.length : Int) < u.params
    · refine GX.wR ?_; intros
      exact meet true ⟨rfl, rfl, rfl, rfl, trivial⟩ (decide_eq_true (show ¬ HdA t u from fun h => by have := h.1.2.2.1; omega)).symm
    by_cases h4 : 4000 < (u.vars.length : Int)
    · refine GX.wR ?_; intros
      exact meet true ⟨rfl, rfl, rfl, rfl, trivial⟩ (decide_eq_true (show ¬ HdA t u from fun h => by have := h.1.2.2.2; omega)).symm
    refine GX.wR ?_; intros
    refine GX.nmS 43 ?_; rintro aV cV rfl rfl
    refine GX.o (cl (entries_spec _ t aV cV u.vars) fun _ => ?_)
    by_cases h5 : Entries t u.vars
    · have h5' := Classical.not_not.2 h5
      have ei : (u.ins.length : Int) = 0 ↔ u.ins = [] := by rw [← List.length_eq_zero_iff]; omega
      by_cases h6 : u.result = -3
      · have h6' := Classical.not_not.2 h6
        refine GX.wR ?_; intros
        refine meet _ ⟨rfl, rfl, rfl, rfl, trivial⟩ (decide_eq_decide.2 (ei.trans ⟨fun h7 h => h.2.2.2 h7, fun h => Classical.byContradiction fun h7 => h ⟨by omega, h5, .inl h6, h7⟩⟩))
      · refine GX.wR ?_; intros
        refine GX.o (cl (isEntry_spec _ t u.result) fun _ => ?_)
        by_cases h7 : IsEntry t u.result
        · have h7' := Classical.not_not.2 h7
          refine GX.wR ?_; intros
          refine meet _ ⟨rfl, rfl, rfl, rfl, trivial⟩ (decide_eq_decide.2 (ei.trans ⟨fun h7 h => h.2.2.2 h7, fun h => Classical.byContradiction fun h8 => h ⟨by omega, h5, .inr h7, h8⟩⟩))
        · refine GX.wR ?_; intros
          exact meet true ⟨rfl, rfl, rfl, rfl, trivial⟩ (decide_eq_true (show ¬ HdA t u from fun h => h.2.2.1.elim h6 h7)).symm
    · refine GX.wR ?_; intros
      exact meet true ⟨rfl, rfl, rfl, rfl, trivial⟩ (decide_eq_true (show ¬ HdA t u from fun h => h5 h.2.1)).symm
  refine GX.csb (fun hpt => ?_) (fun hpf => ?_)
  · have hH : ¬ HdA t u := of_decide_eq_true (hp.symm.trans hpt)
    refine GX.wR ?_; intros
    exact rt1 () (vN fun h => hH ⟨h.1.1, h.1.2.1, h.1.2.2.1, h.1.2.2.2.1⟩)
  have hH : HdA t u := Classical.not_not.1 (of_decide_eq_false (hp.symm.trans hpf))
  refine GX.wRN ?_; intros
  refine GX.cut (σ := UnS) (fun s => [(1, .int .i64 (k : Int)), (2, .pointer (some ⟨b2, 0, none⟩)), (5, .pointer (some ⟨b5, 0, none⟩)), (6, .pointer (some ⟨s.b6, 0, none⟩)), (7, .pointer (some ⟨s.b7, 0, none⟩))]) (fun _ => [])
    (fun s => [Box 22 (Ty.slice Ty.int) s.b6 (outOf t u), Box 22 (Ty.slice Ty.int) s.b7 (glob t)]) (fun _ => True) ?_ (fun s _ => ?_)
  · refine GX.drawnT (fun j => !(List.contains [4, 7, 8] j)) (.br [(0, true), (1, true), (3, true)] (.alt 2 (.br [] (.alt 4 (.br [] (.alt 5 (.lin [(6, false), (7, false), (8, false)]) (.alt 6 (.lin [(5, false), (7, false), (8, false)]) .nil))) (.alt 5 (.br [] (.alt 4 (.lin [(6, false), (7, false), (8, false)]) (.alt 6 (.lin [(4, false), (7, false), (8, false)]) .nil))) (.alt 6 (.br [] (.alt 4 (.lin [(5, false), (7, false), (8, false)]) (.alt 5 (.lin [(4, false), (7, false), (8, false)]) .nil))) .nil)))) (.alt 5 (.br [] (.alt 2 (.br [] (.alt 4 (.lin [(6, false), (7, false), (8, false)]) (.alt 6 (.lin [(4, false), (7, false), (8, false)]) .nil))) (.alt 6 (.lin [(2, false), (4, false), (7, false), (8, false)]) .nil))) (.alt 6 (.br [] (.alt 2 (.br [] (.alt 4 (.lin [(5, false), (7, false), (8, false)]) (.alt 5 (.lin [(4, false), (7, false), (8, false)]) .nil))) (.alt 5 (.lin [(2, false), (4, false), (7, false), (8, false)]) .nil))) .nil)))) (by kernel_rfl) (by kernel_rfl) ?_; intro wd F hW hR
    refine GX.wT ?_; intros
    repeat' first
      | (refine GX.treeA ?_ ?_ <;> (refine GX.wT ?_; intros))
      | (refine GX.gok ?_; refine (cl (outU_spec _ t hs k u hu) fun s => ?_); refine GX.wT ?_; intros)
      | (refine GX.gok ?_; refine (cl (global_spec _ t hs) fun s => ?_); refine GX.wT ?_; intros)
      | (refine GX.gow ?_; refine (cl (outU_spec _ t hs k u hu) fun s => ?_); refine GX.wT ?_; intros)
      | (refine GX.gow ?_; refine (cl (global_spec _ t hs) fun s => ?_); refine GX.wT ?_; intros)
      | (refine GX.wR ?_; intros; exact meet ⟨_, _⟩ ⟨rfl, rfl, rfl, rfl, rfl, trivial⟩ trivial)
  obtain ⟨b6, b7⟩ := s
  dsimp only
  refine frzB b6 ?_
  refine frzB b7 ?_
  refine GX.wR ?_; intros
  refine GX.nmS 71 ?_; rintro aT cT rfl rfl
  refine GX.o (cl (rising_spec aT cT u.takes 73 [.pointer (some ⟨b6, 0, none⟩)] [Pt (Ty.slice Ty.int) b6 0 (outOf t u)] [] (fun n => decide (n ∈ outOf t u)) (fun n _ => unit1_spec b6 (outOf t u) n)) fun _ => ?_)
  refine GX.wR ?_; intros
  refine GX.nmS 75 ?_; rintro aO cO rfl rfl
  refine GX.o (cl (rising_spec aO cO u.owns 75 [.pointer (some ⟨b2, 0, none⟩), .pointer (some ⟨b6, 0, none⟩), .pointer (some ⟨b7, 0, none⟩)] [Pt tyRTg b2 0 t, Pt (Ty.slice Ty.int) b6 0 (outOf t u), Pt (Ty.slice Ty.int) b7 0 (glob t)] [] (fun n => decide (IsClass t n ∧ n ∉ outOf t u ∧ n ∉ glob t)) (fun n _ => unit2_spec b2 b6 b7 t (outOf t u) (glob t) n)) fun _ => ?_)
  have e1 := upP_dec (Q := fun n => n ∈ outOf t u) u.takes
  have e2 := upP_dec (Q := fun n => IsClass t n ∧ n ∉ outOf t u ∧ n ∉ glob t) u.owns
  by_cases h1 : UpP (fun n => decide (n ∈ outOf t u)) u.takes
  · have h1' := Classical.not_not.2 h1
    by_cases h2 : UpP (fun n => decide (IsClass t n ∧ n ∉ outOf t u ∧ n ∉ glob t)) u.owns
    · have h2' := Classical.not_not.2 h2
      refine GX.wR ?_; intros
      refine GX.nmS 85 ?_; rintro aI cI rfl rfl
      refine GX.loop (σ := Nat) (fun i => [(2, .pointer (some ⟨b2, 0, none⟩)), (5, .pointer (some ⟨b5, 0, none⟩)), (85, .slice aI u.ins.length cI), (86, .int .i64 (u.ins.length : Int)), (87, .int .i64 (i : Int))]) (fun _ => []) (fun _ => [])
        (fun i => i ≤ u.ins.length ∧ ∀ x ∈ u.ins.take i, Bare x ∧ Fits t u x) (fun i => u.ins.length - i) 0 ⟨rfl, rfl, rfl, rfl, rfl, trivial⟩ ⟨by omega, by simp⟩ (fun i hi => ?_)
      obtain ⟨hi, hA⟩ := hi
      by_cases hlt : i < u.ins.length
      · obtain ⟨x, hx⟩ := get_lt hlt
        refine GX.wR ?_; intros
        refine GX.o (cl (bare_spec _ x) fun _ => ?_)
        by_cases h3 : Bare x
        · have h3' := Classical.not_not.2 h3
          refine GX.wR ?_; intros
          refine GX.o (bdv fun cv => ?_)
          refine GX.wR ?_; intros
          refine GX.o (cl (fits_spec cv ⟨t, u, x⟩) fun _ => ?_)
          by_cases h4 : Fits t u x
          · have h4' := Classical.not_not.2 h4
            refine GX.wR ?_; intros
            refine again (i + 1) ⟨rfl, rfl, rfl, rfl, rfl, trivial⟩ ⟨by omega, fun y hy => ?_⟩ (by omega)
            rw [List.take_add_one, hx, List.mem_append] at hy
            rcases hy with hy | hy
            · exact hA y hy
            · simp at hy; subst hy; exact ⟨h3, h4⟩
          · refine GX.wR ?_; intros
            exact rt1 () (vN fun h => h4 (h.2 x (List.mem_of_getElem? hx)).2)
        · refine GX.wR ?_; intros
          exact rt1 () (vN fun h => h3 (h.2 x (List.mem_of_getElem? hx)).1)
      · rw [List.take_of_length_le (by omega)] at hA
        have hne : u.ins.length ≠ 0 := fun h => hH.2.2.2 (List.length_eq_zero_iff.1 h)
        obtain ⟨m, hm⟩ : ∃ m, u.ins.length = m + 1 := ⟨u.ins.length - 1, by omega⟩
        obtain ⟨x, hx⟩ := get_lt (show m < u.ins.length by omega)
        have hlo : lastOp u = x.op := by unfold lastOp; rw [hm, Nat.add_sub_cancel, hx]
        have all : (x.op = 16 ∨ x.op = 17 ∨ x.op = 18) ↔ UnitOk t u := ⟨fun h => ⟨⟨hH.1, hH.2.1, hH.2.2.1, hH.2.2.2, e1.1 h1, e2.1 h2, by rw [hlo]; exact h⟩, hA⟩, fun h => by rw [← hlo]; exact h.1.2.2.2.2.2.2⟩
        by_cases g1 : x.op = 16
        · refine GX.wR ?_; intros
          exact rt1 () (vY (all.1 (.inl g1)))
        · by_cases g2 : x.op = 17
          · refine GX.wR ?_; intros
            exact rt1 () (vY (all.1 (.inr (.inl g2))))
          · refine GX.wR ?_; intros
            exact rt1 () (vI (all.symm.trans ⟨fun h => h.elim (fun h => absurd h g1) fun h => h.elim (fun h => absurd h g2) id, fun h => .inr (.inr h)⟩))
    · refine GX.wR ?_; intros
      exact rt1 () (vN fun h => h2 (e2.2 h.1.2.2.2.2.2.1))
  · refine GX.wR ?_; intros
    exact rt1 () (vN fun h => h1 (e1.2 h.1.2.2.2.2.1))

theorem units_spec (cs : List Value) (t : RTg) (hs : Small t) : Does Try.prog 22 [.agg cs.toArray] [Ag tyRTg cs t] [] (fun _ : Unit => .bool (decide (UnitsOk t))) (fun _ => []) (fun _ => []) := by
  refine enter Try.func22 rfl Try.ntmps22 rfl fun b => ?_
  refine GX.wR ?_; intros
  refine GX.nmP 1 ?_; rintro b1 rfl
  refine GX.nmS 7 ?_; rintro aU cU rfl rfl
  refine GX.loop (σ := Nat) (fun i => [(1, .pointer (some ⟨b1, 0, none⟩)), (3, .int .i64 ((insOf (t.units.take i) : Nat) : Int)), (7, .slice aU t.units.length cU), (8, .int .i64 (t.units.length : Int)), (9, .int .i64 (i : Int))]) (fun _ => []) (fun _ => [])
    (fun i => i ≤ t.units.length ∧ insOf (t.units.take i) ≤ 16000 ∧ ∀ u ∈ t.units.take i, UnitOk t u) (fun i => t.units.length - i) 0 ⟨rfl, rfl, rfl, rfl, rfl, trivial⟩ ⟨by omega, by simp [insOf], by simp⟩ (fun i hi => ?_)
  obtain ⟨hi, hn, hA⟩ := hi
  by_cases hlt : i < t.units.length
  · obtain ⟨u, hu⟩ := get_lt hlt
    have hm := List.mem_of_getElem? hu
    have hul := (hs.unit u hm).2
    have ht : t.units.take (i + 1) = t.units.take i ++ [u] := by rw [List.take_add_one, hu]; rfl
    have hsn : ((insOf (t.units.take i) : Nat) : Int) + (u.ins.length : Int) = ((insOf (t.units.take (i + 1)) : Nat) : Int) := by rw [ht, insOf_snoc]; omega
    have hle := insOf_take t.units (i + 1)
    refine GX.wR ?_; intros
    rw [hsn]
    by_cases h1 : 16000 < ((insOf (t.units.take (i + 1)) : Nat) : Int)
    · refine GX.wR ?_; intros
      exact rt1 () (vN fun h => by have := h.1; omega)
    · refine GX.wR ?_; intros
      refine GX.o (cl (unit_spec _ t hs i u hu) fun _ => ?_)
      by_cases h2 : UnitOk t u
      · have h2' := Classical.not_not.2 h2
        refine GX.wR ?_; intros
        refine again (i + 1) ⟨rfl, rfl, rfl, rfl, rfl, trivial⟩ ⟨by omega, by omega, fun x hx => ?_⟩ (by omega)
        rw [ht, List.mem_append, List.mem_singleton] at hx
        rcases hx with hx | hx
        · exact hA x hx
        · subst hx; exact h2
      · refine GX.wR ?_; intros
        exact rt1 () (vN fun h => h2 (h.2 u hm))
  · have hil : i = t.units.length := by omega
    subst hil
    rw [List.take_length] at hA hn
    refine GX.wR ?_; intros
    exact rt1 () (vY ⟨hn, hA⟩)

theorem right_spec (cs : List Value) (t : RTg) (hs : Small t) : Does Try.prog 7 [.agg cs.toArray] [Ag tyRTg cs t] [] (fun _ : Unit => .bool (decide (RightP t))) (fun _ => []) (fun _ => []) := by
  refine enter Try.func7 rfl Try.ntmps7 rfl fun b => ?_
  by_cases h1 : 60 < (t.classes.length : Int)
  · refine GX.wR ?_; intros
    exact rt1 () (vN fun h => by have := h.1.1; omega)
  by_cases h2 : 8 < (t.globals.length : Int)
  · refine GX.wR ?_; intros
    exact rt1 () (vN fun h => by have := h.1.2.1; omega)
  by_cases h3 : (t.units.length : Int) = 0
  · refine GX.wR ?_; intros
    exact rt1 () (vN fun h => by have := h.1.2.2.1; omega)
  by_cases h4 : 16 < (t.units.length : Int)
  · refine GX.wR ?_; intros
    exact rt1 () (vN fun h => by have := h.1.2.2.2; omega)
  by_cases h5 : t.main < 0
  · have e : ¬ MainOk t := by unfold MainOk; rw [gt_out (.inl h5)]; exact id
    refine GX.wR ?_; intros
    exact rt1 () (vN fun h => e h.2.1)
  by_cases h6 : (t.units.length : Int) ≤ t.main
  · have e : ¬ MainOk t := by unfold MainOk; rw [gt_out (.inr h6)]; exact id
    refine GX.wR ?_; intros
    exact rt1 () (vN fun h => e h.2.1)
  obtain ⟨u, hu, k, hk, hkl, hu2⟩ := gt_in (l := t.units) (n := t.main) ⟨by omega, by omega⟩
  have e : MainOk t ↔ u.params = 0 ∧ u.result = -3 := by unfold MainOk; rw [hu]
  by_cases h7 : u.params = 0
  · by_cases h8 : u.result = -3
    · refine GX.wR ?_; intros
      refine GX.o (cl (layouts_spec _ t) fun _ => ?_)
      by_cases h9 : ∀ L ∈ t.classes, LayoutOk t L
      · refine GX.wR ?_; intros
        refine GX.nmS 60 ?_; rintro aG cG rfl rfl
        refine GX.o (cl (entries_spec _ t aG cG t.globals) fun _ => ?_)
        by_cases h10 : Entries t t.globals
        · refine GX.wR ?_; intros
          refine GX.o (cl (units_spec _ t hs) fun _ => ?_)
          refine GX.wR ?_; intros
          exact rt1 () (vI ⟨fun h => h.2.2.2.2, fun h => ⟨⟨by omega, by omega, by omega, by omega⟩, e.2 ⟨h7, h8⟩, h9, h10, h⟩⟩)
        · refine GX.wR ?_; intros
          exact rt1 () (vN fun h => h10 h.2.2.2.1)
      · refine GX.wR ?_; intros
        exact rt1 () (vN fun h => h9 h.2.2.1)
    · refine GX.wR ?_; intros
      exact rt1 () (vN fun h => h8 (e.1 h.2.1).2)
  · refine GX.wR ?_; intros
    exact rt1 () (vN fun h => h7 (e.1 h.2.1).1)
end Go.Proofs.Ytomadjefdghliaa

/- Structs' cells: how many, stored over a row, one part otherwise. No program in sight. -/
namespace Go.GX
open Go Go.RowKit Go.RR Go.RX
section
variable {P : Program} {n : Nat} {env : Env} {b : Base} {ps : List Pf} {hp : List Res} {Q : Exit → Act → World → Prop} {K : Act → World → Prop}
end
end Go.GX

/- From the form's own reading of what comes in to the readings of this walk. No program in sight. -/
namespace Go.GX
open Go Go.RowKit Go.RR Go.RX Go.Api

section
variable {P : Program}
/-- What the form reads at type t reads so, and is such. -/
def Conv (P : Program) (t : TypeId) {α : Type} (e : Ty α) (ok : α → Prop) : Prop :=
  ∀ {H : Type} (enc : TypeId × Value → H) (w : World) (spare : Nat → Bool) (held : Bool) (fuel : Nat) (cs : List Value) (x : DataW H × List MemPlace),
    DataW.trod enc P w 0 spare held fuel t cs = some x → ∃ y, e.rd (fun k => k < w.heap.size) w cs y ∧ ok y

theorem wf_i64 {a : Int} (h : (Lit.int .i64 a).wf = true) : -9223372036854775808 ≤ a ∧ a ≤ 9223372036854775807 := by
  simp only [Lit.wf, Bool.and_eq_true, decide_eq_true_eq] at h
  exact h
/-- The fields of a struct, one after the other. -/
def ConvF (P : Program) (fs : List Field) (off : Nat) {α : Type} (r : Ty α) (ok : α → Prop) : Prop :=
  ∀ {H : Type} (enc : TypeId × Value → H) (w : World) (spare : Nat → Bool) (held : Bool) (fuel : Nat) (cs : List Value) (xs : List (DataW H × List MemPlace)),
    off + r.size = cs.length → fs.mapM (fun f => DataW.trod enc P w 0 spare held fuel f.type ((cs.drop f.offset).take (P.cellsOf f.type))) = some xs → ∃ y, r.rd (fun k => k < w.heap.size) w (cs.drop off) y ∧ ok y
/-! From a walk of a law to what its row asks. -/
theorem Does.calls {f : FuncId} {args : List Value} {ps : List Pf} (h : Does P f args ps [] (fun _ : Unit => .bool true) (fun _ => []) (fun _ => [])) (w : World) (hps : AllP (fun k => k < w.heap.size) w ps) :
    Calls P f args.toArray w fun e w' => e = .returned (.bool true) ∧ Upd (fun _ => False) w w' := by
  refine (h.run w (fun k => k < w.heap.size) ⟨w, fun _ => False, fun k => k < w.heap.size⟩ ⟨Upd.refl _ _, fun _ h => h, fun k h _ => .inl h, hps, no_r, by simp, by simp, by simp⟩).mono ?_
  rintro e w' ⟨_, he, F', s⟩
  exact ⟨he, s.upd.mono (fun k _ hk => absurd hk feet_nil)⟩
theorem all_nil {F : Nat → Prop} {w : World} : AllP F w [] := no_p
end
end Go.GX

/- How what comes in reads, for this seat's structs. Written by wip/api.py. -/
namespace Go.Proofs.Ytomadjefdghliaa
open Go Go.RowKit Go.RR Go.RX Go.GX Go.Api
end Go.Proofs.Ytomadjefdghliaa
