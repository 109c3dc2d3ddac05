/- The walks over Both and Closed of the reference of chapter 19. -/
import Derived.Test.YtfhbainbmipddaaRRt2
import Derived.Test.YtfhbainbmipddaaRtPut
import Derived.Test.YtfhbainbmipddaaRtClo
namespace Go.Proofs.Ytfhbainbmipddaa
open Go Go.RR Go.RX Go.GX Go.RiseM Go.ReachM Go.RtM
attribute [local irreducible] wpList Code.wp wpPlan Exit.then Exit.inBlock bodyPost NoPanic Went GX.Post GX.Again GX.Meet GX.RowR GX.Own GX.Owns GX.Box GX.Sl GX.Pt GX.Ag GX.MapR GX.Kept GX.Pin wpT GoK AtEnd Both

theorem closed_spec (a1 a2 : Option Addr) (c1 c2 : Nat) (f : List (List Int)) (l : List Int) (hf : f.length ≤ 1073741824) : Does Try.prog 27 [.slice a1 f.length c1, .slice a2 l.length c2] [Sl (Ty.slice Ty.int) a1 c1 f, Sl Ty.int a2 c2 l] []
    (fun _ : Unit => .bool (decide (Clo f l))) (fun _ => []) (fun _ => []) := by
  refine enter Try.func27 rfl Try.ntmps27 rfl fun b => ?_
  refine GX.wR ?_; intros
  refine GX.o (cl (rfrom_spec a1 a2 c1 c2 f l hf) fun s => ?_)
  obtain ⟨a7, c7⟩ := s
  dsimp only
  refine frz a7 ?_
  refine GX.wR ?_; intros
  refine GX.o (cl (all_spec a7 a2 c7 c2 (fromL f l) l) fun _ => ?_)
  have e : decide (∀ x ∈ fromL f l, x ∈ l) = decide (Clo f l) := by unfold Clo; congr
  rw [e]
  refine GX.wR ?_; intros
  exact rt1 () rfl

theorem puts_len (l : List Int) : (puts l).length ≤ l.length := by
  have h1 : (puts l).Nodup := Rise.nodup (puts_spec l).1
  have h2 : ∀ {a b : List Int}, a.Nodup → (∀ x ∈ a, x ∈ b) → a.length ≤ b.length := by
    intro a
    induction a with
    | nil => intro b _ _; simp
    | cons y a ih =>
      intro b hn hs
      rw [List.nodup_cons] at hn
      have hy := hs y (by simp)
      have := ih (b := b.erase y) hn.2 fun x hx => (List.mem_erase_of_ne (by rintro rfl; exact hn.1 hx)).2 (hs x (by simp [hx]))
      rw [List.length_erase_of_mem hy] at this
      have := List.length_pos_of_mem hy
      rw [List.length_cons]; omega
  exact h2 h1 fun x hx => ((puts_spec l).2 x).1 hx
def putsTo (l m : List Int) (j : Nat) : List Int := (m.take j).foldl put (puts l)
theorem putsTo_eq (l m : List Int) (j : Nat) : putsTo l m j = puts (l ++ m.take j) := by simp [putsTo, puts, List.foldl_append]
structure BoS where
  i : Nat
  ao : Option Addr
  cap : Nat

theorem both_spec (a1 a2 : Option Addr) (c1 c2 : Nat) (l m : List Int) (hl : l.length ≤ 50000) (hm : m.length ≤ 50000) : Does Try.prog 26 [.slice a1 l.length c1, .slice a2 m.length c2] [Sl Ty.int a1 c1 l, Sl Ty.int a2 c2 m] []
    (fun s : Option Addr × Nat => .slice s.1 (both l m).length s.2) (fun s => [Sl Ty.int s.1 s.2 (both l m)]) (fun _ => []) := by
  refine enter Try.func26 rfl Try.ntmps26 rfl fun b => ?_
  refine GX.wR ?_; intros
  refine slNil Ty.int ?_
  refine GX.loop (σ := BoS) (fun s => [(0, .slice a1 l.length c1), (1, .slice a2 m.length c2), (5, .slice s.ao (puts (l.take s.i)).length s.cap), (6, .int .i64 (s.i : Int))]) (fun s => [Sl Ty.int s.ao s.cap (puts (l.take s.i))]) (fun _ => [])
    (fun s => s.i ≤ l.length) (fun s => l.length - s.i) ⟨0, none, 0⟩ ⟨rfl, rfl, rfl, rfl, trivial⟩ (by simp) (fun s hi => ?_)
  obtain ⟨i, ao, cap⟩ := s
  dsimp only at *
  by_cases hlt : i < l.length
  · obtain ⟨x, hx⟩ := get_lt hlt
    have hq : (puts (l.take i)).length ≤ 100000 := by have := puts_len (l.take i); rw [List.length_take] at this; omega
    have e : put (puts (l.take i)) x = puts (l.take (i + 1)) := by rw [← puts_snoc, List.take_add_one, hx]; rfl
    refine GX.wR ?_; intros
    refine GX.o (cl (putw_spec ao cap (puts (l.take i)) x (puts_spec _).1 hq) fun s => ?_)
    obtain ⟨ao', cap'⟩ := s
    dsimp only
    rw [e]
    refine GX.wR ?_; intros
    exact again ⟨i + 1, ao', cap'⟩ ⟨rfl, rfl, rfl, rfl, trivial⟩ (by dsimp only; omega) (by dsimp only; omega)
  have hil : l.take i = l := List.take_of_length_le (by omega)
  rw [hil]
  refine GX.wR ?_; intros
  refine GX.loop (σ := BoS) (fun s => [(0, .slice a1 l.length c1), (1, .slice a2 m.length c2), (5, .slice s.ao (putsTo l m s.i).length s.cap), (7, .int .i64 (s.i : Int))]) (fun s => [Sl Ty.int s.ao s.cap (putsTo l m s.i)]) (fun _ => [])
    (fun s => s.i ≤ m.length) (fun s => m.length - s.i) ⟨0, ao, cap⟩ ⟨rfl, rfl, rfl, rfl, trivial⟩ (by simp) (fun s hi => ?_)
  obtain ⟨j, ao2, cap2⟩ := s
  dsimp only at *
  by_cases hlt : j < m.length
  · obtain ⟨x, hx⟩ := get_lt hlt
    have hr : Rise (putsTo l m j) := by rw [putsTo_eq]; exact (puts_spec _).1
    have hq : (putsTo l m j).length ≤ 100000 := by have := puts_len (l ++ m.take j); rw [← putsTo_eq, List.length_append, List.length_take] at this; omega
    have e : put (putsTo l m j) x = putsTo l m (j + 1) := by rw [putsTo_eq, putsTo_eq, ← puts_snoc, List.take_add_one, hx, List.append_assoc]; rfl
    refine GX.wR ?_; intros
    refine GX.o (cl (putw_spec ao2 cap2 (putsTo l m j) x hr hq) fun s => ?_)
    obtain ⟨ao', cap'⟩ := s
    dsimp only
    rw [e]
    refine GX.wR ?_; intros
    exact again ⟨j + 1, ao', cap'⟩ ⟨rfl, rfl, rfl, rfl, trivial⟩ (by dsimp only; omega) (by dsimp only; omega)
  have e : putsTo l m j = both l m := by rw [putsTo_eq, List.take_of_length_le (by omega)]; rfl
  rw [e]
  refine GX.wR ?_; intros
  exact rt1 (ao2, cap2) rfl

end Go.Proofs.Ytfhbainbmipddaa
