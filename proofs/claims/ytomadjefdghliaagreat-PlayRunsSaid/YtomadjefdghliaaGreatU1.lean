import Derived.Lib.SlicesCompact
import Derived.WalkKit
import Derived.ProofKit
import Derived.WalkSpells
import Derived.Orders
import Derived.Deep.LoopGhost
import Derived.Deep.RegionHeld3
import Derived.KernelRfl
namespace Go.RiseM
open Go
def Rise (l : List Int) : Prop := l.Pairwise (· < ·)
instance (l : List Int) : Decidable (Rise l) := by unfold Rise; infer_instance
theorem Rise.eq : ∀ {l m : List Int}, Rise l → Rise m → (∀ x, x ∈ l ↔ x ∈ m) → l = m
 | [], [], _, _, _ => rfl
 | [], y :: m, _, _, h => absurd ((h y).2 (by simp)) (by simp)
 | x :: l, [], _, _, h => absurd ((h x).1 (by simp)) (by simp)
 | x :: l, y :: m, h1, h2, h => by
  have a1 := List.pairwise_cons.1 h1
  have a2 := List.pairwise_cons.1 h2
  have e : x = y := by
   rcases List.mem_cons.1 ((h x).1 (by simp)) with c | c
   ·exact c
   ·rcases List.mem_cons.1 ((h y).2 (by simp)) with d | d
    ·exact d.symm
    ·have := a2.1 x c; have := a1.1 y d; omega
  subst e
  congr 1
  refine Rise.eq a1.2 a2.2 fun z => ⟨fun hz => ?_, fun hz => ?_⟩
  ·rcases List.mem_cons.1 ((h z).1 (List.mem_cons_of_mem _ hz)) with c | c
   ·subst c; have := a1.1 z hz; omega
   ·exact c
  ·rcases List.mem_cons.1 ((h z).2 (List.mem_cons_of_mem _ hz)) with c | c
   ·subst c; have := a2.1 z hz; omega
   ·exact c
def put (l : List Int) (v : Int) : List Int := if v ∈ l then l else l.filter (· < v) ++ v :: l.filter (v < ·)
theorem Rise.put {l : List Int} (h : Rise l) (v : Int) : Rise (put l v) := by
 unfold RiseM.put
 split
 ·exact h
 ·refine List.pairwise_append.2 ⟨h.filter _, List.pairwise_cons.2 ⟨fun x hx => ?_, h.filter _⟩, fun a ha c hc => ?_⟩
  ·simpa using (List.mem_filter.1 hx).2
  ·have h1 : a < v := by simpa using (List.mem_filter.1 ha).2
   rcases List.mem_cons.1 hc with rfl | hc
   ·exact h1
   ·have h2 : v < c := by simpa using (List.mem_filter.1 hc).2
    omega
def puts (l : List Int) : List Int := l.foldl put []
end Go.RiseM
namespace Go.ReachM
open Go.RiseM
inductive RC (f : List (List Int)) (roots : List Int) : Nat → Prop where
 | root {c : Nat} : (c : Int) ∈ roots → c < f.length → RC f roots c
 | step {c d : Nat} {l : List Int} : RC f roots c → f[c]? = some l → (d : Int) ∈ l → d < f.length → RC f roots d
theorem RC.lt {f : List (List Int)} {r : List Int} {c : Nat} (h : RC f r c) : c < f.length := by
 cases h with
 | root _ h => exact h
 | step _ _ _ h => exact h
theorem RC.sub {f : List (List Int)} {r s : List Int} {c : Nat} (h : RC f r c) (hs : ∀ x ∈ r, x ∈ s) : RC f s c := by
 induction h with
 | root h1 h2 => exact .root (hs _ h1) h2
 | step _ h2 h3 h4 ih => exact .step ih h2 h3 h4
def marked (m : List Bool) (i : Nat) : List Int := ((List.range i).filter fun c => decide (m[c]? = some true)).map fun c : Nat => (c : Int)
theorem marked_succ (m : List Bool) (i : Nat) : marked m (i + 1) = marked m i ++ (if m[i]? = some true then [(i : Int)] else []) := by
 unfold marked
 rw [List.range_succ, List.filter_append, List.map_append]
 congr 1
 by_cases h : m[i]? = some true <;> simp [h]
theorem marked_len (m : List Bool) (i : Nat) : (marked m i).length ≤ i := by
 have := List.length_filter_le (fun c => decide (m[c]? = some true)) (List.range i)
 unfold marked; rw [List.length_map]; rw [List.length_range] at this; exact this
open Classical in
noncomputable def fromL (f : List (List Int)) (r : List Int) : List Int := ((List.range f.length).filter fun c => decide (RC f r c)).map fun c : Nat => (c : Int)
theorem fromL_mem {f : List (List Int)} {r : List Int} {x : Int} : x ∈ fromL f r ↔ ∃ c : Nat, x = c ∧ RC f r c := by
 unfold fromL
 simp only [List.mem_map, List.mem_filter, List.mem_range, decide_eq_true_eq]
 constructor
 ·rintro ⟨c, ⟨_, h⟩, rfl⟩; exact ⟨c, rfl, h⟩
 ·rintro ⟨c, rfl, h⟩; exact ⟨c, ⟨h.lt, h⟩, rfl⟩
theorem rise_range {p : Nat → Bool} (n : Nat) : Rise (((List.range n).filter p).map fun c : Nat => (c : Int)) := by
 unfold Rise
 rw [List.pairwise_map]
 exact (List.Pairwise.filter p List.pairwise_lt_range).imp (by intro a b h; omega)
theorem fromL_rise (f : List (List Int)) (r : List Int) : Rise (fromL f r) := rise_range _
theorem fromL_len (f : List (List Int)) (r : List Int) : (fromL f r).length ≤ f.length := by
 unfold fromL
 rw [List.length_map]
 have := List.length_filter_le (fun c => @decide (RC f r c) (Classical.propDecidable _)) (List.range f.length)
 rw [List.length_range] at this; exact this
theorem fromL_in {f : List (List Int)} {r : List Int} {x : Int} (h : x ∈ fromL f r) : 0 ≤ x ∧ x < f.length := by
 obtain ⟨c, rfl, h2⟩ := fromL_mem.1 h
 have := h2.lt; omega
theorem fromL_congr {f : List (List Int)} {r s : List Int} (h : ∀ x, x ∈ r ↔ x ∈ s) : fromL f r = fromL f s := by
 refine Rise.eq (fromL_rise _ _) (fromL_rise _ _) fun x => ?_
 rw [fromL_mem, fromL_mem]
 exact ⟨fun ⟨c, e, hc⟩ => ⟨c, e, hc.sub fun y hy => (h y).1 hy⟩, fun ⟨c, e, hc⟩ => ⟨c, e, hc.sub fun y hy => (h y).2 hy⟩⟩
theorem fromL_nil {f : List (List Int)} {r : List Int} (h : ∀ x ∈ r, ¬ (0 ≤ x ∧ x < f.length)) : fromL f r = [] := by
 have key : ∀ c, ¬ RC f r c := by
  intro c hc
  induction hc with
  | root h1 h2 => exact h _ h1 ⟨by omega, by omega⟩
  | step _ _ _ _ ih => exact ih
 refine Rise.eq (fromL_rise _ _) List.Pairwise.nil fun x => ?_
 rw [fromL_mem]
 constructor
 ·rintro ⟨c, _, hc⟩; exact absurd hc (key c)
 ·intro h; simp at h
theorem marked_from {f : List (List Int)} {r : List Int} {m : List Bool} (hl : m.length = f.length) (h : ∀ c, m[c]? = some true ↔ RC f r c) : marked m m.length = fromL f r := by
 refine Rise.eq (rise_range _) (fromL_rise _ _) fun x => ?_
 rw [fromL_mem]
 unfold marked
 simp only [List.mem_map, List.mem_filter, List.mem_range, decide_eq_true_eq]
 constructor
 ·rintro ⟨c, ⟨_, h1⟩, rfl⟩; exact ⟨c, rfl, (h c).1 h1⟩
 ·rintro ⟨c, rfl, h1⟩; exact ⟨c, ⟨by rw [hl]; exact h1.lt, (h c).2 h1⟩, rfl⟩
def wt : List (List Int) → List Bool → Nat
 | l :: f, b :: m => (if b = true then 0 else l.length) + wt f m
 | _, _ => 0
theorem wt_set : ∀ {f : List (List Int)} {m : List Bool} {c : Nat} {l : List Int}, f[c]? = some l → m[c]? = some false → wt f (m.set c true) + l.length = wt f m
 | [], _, _, _, h, _ => by simp at h
 | _ :: _, [], _, _, _, h => by simp at h
 | k :: f, b :: m, 0, l, h1, h2 => by
  simp at h1 h2; subst h1; subst h2
  simp [wt]; omega
 | k :: f, b :: m, c + 1, l, h1, h2 => by
  have := wt_set (f := f) (m := m) (c := c) (l := l) (by simpa using h1) (by simpa using h2)
  simp only [List.set_cons_succ, wt]; omega
theorem wt_rep (f : List (List Int)) (n : Nat) : wt f (List.replicate n false) ≤ (f.map List.length).sum := by
 induction f generalizing n with
 | nil => simp [wt]
 | cons l f ih =>
  cases n with
  | zero => simp [wt]
  | succ n => rw [List.replicate_succ, wt, List.map_cons, List.sum_cons]; have := ih n; simp; omega
theorem cnt_set : ∀ {m : List Bool} {k : Nat}, m[k]? = some false → (m.set k true).count false + 1 = m.count false
 | [], _, h => by simp at h
 | b :: m, 0, h => by simp at h; subst h; simp
 | b :: m, k + 1, h => by
  have := cnt_set (m := m) (k := k) (by simpa using h)
  rw [List.set_cons_succ, List.count_cons, List.count_cons]; omega
theorem set_true {m : List Bool} {y k : Nat} (h : m[k]? = some true) : (m.set y true)[k]? = some true := by
 by_cases e : k = y
 ·subst e; rw [List.getElem?_set_self (List.getElem?_eq_some_iff.1 h).1]
 ·rw [List.getElem?_set_ne (by omega)]; exact h
theorem set_back {m : List Bool} {y k : Nat} (h : (m.set y true)[k]? = some true) : k = y ∨ m[k]? = some true := by
 by_cases e : k = y
 ·exact .inl e
 ·rw [List.getElem?_set_ne (by omega)] at h; exact .inr h
structure Wk (f : List (List Int)) (r : List Int) (m : List Bool) (w : List Int) : Prop where
 len : m.length = f.length
 sound : ∀ c : Nat, m[c]? = some true → RC f r c
 work : ∀ c : Nat, (c : Int) ∈ w → c < f.length → RC f r c
 roots : ∀ c : Nat, (c : Int) ∈ r → c < f.length → m[c]? = some true ∨ (c : Int) ∈ w
 closed : ∀ (c d : Nat) (l : List Int), m[c]? = some true → f[c]? = some l → (d : Int) ∈ l → d < f.length → m[d]? = some true ∨ (d : Int) ∈ w
theorem Wk.first (f : List (List Int)) (r : List Int) : Wk f r (List.replicate f.length false) r where
 len := by simp
 sound c h := by rw [List.getElem?_replicate] at h; split at h <;> simp at h
 work c h1 h2 := .root h1 h2
 roots c h1 _ := .inr h1
 closed c d l h := by rw [List.getElem?_replicate] at h; split at h <;> simp at h
theorem Wk.drop {f : List (List Int)} {r : List Int} {m : List Bool} {w : List Int} {x : Int} (h : Wk f r m (w ++ [x])) (hx : ∀ c : Nat, x = c → c < f.length → m[c]? = some true) : Wk f r m w where
 len := h.len
 sound := h.sound
 work c h1 := h.work c (by simp [h1])
 roots c h1 h2 := by
  rcases h.roots c h1 h2 with h3 | h3
  ·exact .inl h3
  ·rw [List.mem_append, List.mem_singleton] at h3
   exact h3.elim .inr fun e => .inl (hx c e.symm h2)
 closed c d l h1 h2 h3 h4 := by
  rcases h.closed c d l h1 h2 h3 h4 with h5 | h5
  ·exact .inl h5
  ·rw [List.mem_append, List.mem_singleton] at h5
   exact h5.elim .inr fun e => .inl (hx d e.symm h4)
theorem Wk.mark {f : List (List Int)} {r : List Int} {m : List Bool} {w : List Int} {c : Nat} {l : List Int} (h : Wk f r m (w ++ [(c : Int)])) (hl : f[c]? = some l) : Wk f r (m.set c true) (w ++ l) := by
 have hc : c < f.length := (List.getElem?_eq_some_iff.1 hl).1
 have hs : (m.set c true)[c]? = some true := by rw [List.getElem?_set_self (by rw [h.len]; exact hc)]
 have hrc : RC f r c := h.work c (by simp) hc
 have key : ∀ d : Nat, (m[d]? = some true ∨ (d : Int) ∈ w ++ [(c : Int)]) → (m.set c true)[d]? = some true ∨ (d : Int) ∈ w ++ l := fun d hd => by
  rw [List.mem_append, List.mem_singleton] at hd
  rcases hd with h1 | h1 | h1
  ·exact .inl (set_true h1)
  ·exact .inr (by simp [h1])
  ·obtain rfl : d = c := by omega
   exact .inl hs
 refine ⟨by rw [List.length_set]; exact h.len, fun d hd => ?_, fun d hd hdl => ?_, fun d h1 h2 => key d (h.roots d h1 h2), fun d e k h1 h2 h3 h4 => ?_⟩
 ·rcases set_back hd with rfl | hd
  ·exact hrc
  ·exact h.sound d hd
 ·rw [List.mem_append] at hd
  rcases hd with hd | hd
  ·exact h.work d (by simp [hd]) hdl
  ·exact .step hrc hl hd hdl
 ·rcases set_back h1 with rfl | h1
  ·rw [hl] at h2; cases h2; exact .inr (by simp [h3])
  ·exact key e (h.closed d e k h1 h2 h3 h4)
theorem Wk.done {f : List (List Int)} {r : List Int} {m : List Bool} (h : Wk f r m []) : marked m m.length = fromL f r := by
 refine marked_from h.len fun c => ⟨h.sound c, fun hc => ?_⟩
 induction hc with
 | root h1 h2 => exact (h.roots _ h1 h2).elim id (fun h => by simp at h)
 | step _ h2 h3 h4 ih => exact (h.closed _ _ _ ih h2 h3 h4).elim id (fun h => by simp at h)
structure Ps (f : List (List Int)) (r : List Int) (c0 : Nat) (more : Bool) (m : List Bool) (c k : Nat) : Prop where
 len : m.length = f.length
 sound : ∀ c : Nat, m[c]? = some true → RC f r c
 roots : ∀ c : Nat, (c : Int) ∈ r → c < f.length → m[c]? = some true
 shut : more = false → (∀ (a d : Nat) (l : List Int), a < c → m[a]? = some true → f[a]? = some l → (d : Int) ∈ l → d < f.length → m[d]? = some true) ∧
  ∀ (d : Nat) (l : List Int), m[c]? = some true → f[c]? = some l → (d : Int) ∈ l.take k → d < f.length → m[d]? = some true
 less : if more = true then m.count false < c0 else m.count false = c0
theorem Ps.begin {f : List (List Int)} {r : List Int} {m : List Bool} (h1 : m.length = f.length) (h2 : ∀ c : Nat, m[c]? = some true → RC f r c) (h3 : ∀ c : Nat, (c : Int) ∈ r → c < f.length → m[c]? = some true) : Ps f r (m.count false) false m 0 0 :=
 ⟨h1, h2, h3, fun _ => ⟨fun a d l h => by omega, fun d l _ _ h => by simp at h⟩, by simp⟩
theorem Ps.fin {f : List (List Int)} {r : List Int} {c0 : Nat} {more : Bool} {m : List Bool} {c k : Nat} (h : Ps f r c0 more m c k) (hk : m[c]? = some true → ∀ l, f[c]? = some l → l.length ≤ k) : Ps f r c0 more m (c + 1) 0 :=
 ⟨h.len, h.sound, h.roots, fun e => ⟨fun a d l h1 h2 h3 h4 h5 => by
  by_cases e2 : a = c
  ·subst e2
   refine (h.shut e).2 d l h2 h3 ?_ h5
   rw [List.take_of_length_le (hk h2 l h3)]; exact h4
  ·exact (h.shut e).1 a d l (by omega) h2 h3 h4 h5, fun d l _ _ h => by simp at h⟩, h.less⟩
theorem Ps.old {f : List (List Int)} {r : List Int} {c0 : Nat} {more : Bool} {m : List Bool} {c k : Nat} {l : List Int} {x : Int} (h : Ps f r c0 more m c k) (hl : f[c]? = some l) (hx : l[k]? = some x) (hm : ∀ d : Nat, x = d → d < f.length → m[d]? = some true) : Ps f r c0 more m c (k + 1) :=
 ⟨h.len, h.sound, h.roots, fun e => ⟨(h.shut e).1, fun d l' h1 h2 h3 h4 => by
  rw [hl] at h2; cases h2
  rw [List.take_add_one, hx, List.mem_append] at h3
  rcases h3 with h3 | h3
  ·exact (h.shut e).2 d l h1 hl h3 h4
  ·exact hm d (by have h5 := h3; simp at h5; exact h5.symm) h4⟩, h.less⟩
theorem Ps.new {f : List (List Int)} {r : List Int} {c0 : Nat} {more : Bool} {m : List Bool} {c k : Nat} {l : List Int} {y : Nat} (h : Ps f r c0 more m c k) (hl : f[c]? = some l) (hx : l[k]? = some (y : Int)) (hc : m[c]? = some true) (hm : m[y]? = some false) : Ps f r c0 true (m.set y true) c (k + 1) := by
 have hy : y < f.length := by rw [← h.len]; exact (List.getElem?_eq_some_iff.1 hm).1
 refine ⟨by rw [List.length_set]; exact h.len, fun d hd => ?_, fun d h1 h2 => set_true (h.roots d h1 h2), fun e => by simp at e, ?_⟩
 ·rcases set_back hd with rfl | hd
  ·exact .step (h.sound c hc) hl (List.mem_of_getElem? hx) hy
  ·exact h.sound d hd
 ·have h1 := cnt_set hm
  have h2 := h.less
  rw [if_pos rfl]
  split at h2 <;> omega
theorem Ps.done {f : List (List Int)} {r : List Int} {c0 : Nat} {m : List Bool} (h : Ps f r c0 false m f.length 0) : marked m m.length = fromL f r := by
 refine marked_from h.len fun c => ⟨h.sound c, fun hc => ?_⟩
 induction hc with
 | root h1 h2 => exact h.roots _ h1 h2
 | step hc h2 h3 h4 ih => exact (h.shut rfl).1 _ _ _ hc.lt ih h2 h3 h4
end Go.ReachM
namespace Go.RR
open Go.RowKit
open Go
structure Upd (O : Nat → Prop) (w w' : World) : Prop where
 os : w'.os = w.os
 tape : w'.tape = w.tape
 output : w'.output = w.output
 size : w.heap.size ≤ w'.heap.size
 block : ∀ k, k < w.heap.size → ¬ O k → w'.heap[k]? = w.heap[k]?
theorem Upd.refl (O : Nat → Prop) (w : World) : Upd O w w := ⟨rfl, rfl, rfl, Nat.le_refl _, fun _ _ _ => rfl⟩
theorem Upd.trans {O O1 O2 : Nat → Prop} {w w1 w2 : World} (h1 : Upd O1 w w1) (h2 : Upd O2 w1 w2)
  (hO1 : ∀ k, k < w.heap.size → O1 k → O k) (hO2 : ∀ k, k < w.heap.size → O2 k → O k) : Upd O w w2 :=
 ⟨h2.os.trans h1.os, h2.tape.trans h1.tape, h2.output.trans h1.output, Nat.le_trans h1.size h2.size,
  fun k hk hn => (h2.block k (Nat.lt_of_lt_of_le hk h1.size) (fun h => hn (hO2 k hk h))).trans (h1.block k hk (fun h => hn (hO1 k hk h)))⟩
theorem Upd.mono {O O1 : Nat → Prop} {w w1 : World} (h1 : Upd O1 w w1) (hO : ∀ k, k < w.heap.size → O1 k → O k) : Upd O w w1 :=
 ⟨h1.os, h1.tape, h1.output, h1.size, fun k hk hn => h1.block k hk (fun h => hn (hO k hk h))⟩
theorem Upd.alloc {O : Nat → Prop} {w w1 : World} (h : Upd O w w1) (o : Obj) : Upd O w (w1.alloc o) :=
 h.trans (O2 := fun _ => False) ⟨rfl, rfl, rfl, by simp, fun k hk _ => Below.heap_alloc _ _ _ hk⟩ (fun _ _ h => h) (fun _ _ h => h.elim)
theorem Upd.drew {O : Nat → Prop} {w w1 : World} (h : Upd O w w1) : Upd O w w1.drew := ⟨h.os, h.tape, h.output, h.size, h.block⟩
theorem Upd.setCell {O : Nat → Prop} {w w1 : World} (h : Upd O w w1) {p : Addr} (hp : p.block < w.heap.size → O p.block) (u : Value) : Upd O w (w1.setCell p u) :=
 h.trans (O2 := fun k => k = p.block) ⟨rfl, rfl, rfl, by simp, fun k _ hn => Below.heap_setCell _ _ _ _ hn⟩ (fun _ _ h => h) (fun k hk e => by subst e; exact hp hk)
theorem Upd.below {w w1 : World} (h : Upd (fun _ => False) w w1) : Below w.heap.size w w1 := ⟨h.os, h.tape, h.output, h.size, fun k hk => h.block k hk (fun h => h)⟩
def Row (w : World) (b : Nat) (t : TypeId) (vs : List Value) : Prop := w.heap[b]? = some (.cells vs.toArray t (0, 0))
section
variable {w w' : World} {b : Nat} {t : TypeId} {vs : List Value}
theorem Row.lt (h : Row w b t vs) : b < w.heap.size := (Array.getElem?_eq_some_iff.1 h).1
theorem Row.cell (h : Row w b t vs) (i : Nat) : w.cell? ⟨b, i, none⟩ = vs[i]? := by
 unfold Row at h
 simp [World.cell?, h]
theorem Row.cell_some (h : Row w b t vs) {i : Nat} {v : Value} (hi : vs[i]? = some v) : w.cell? ⟨b, i, none⟩ = some v := (h.cell i).trans hi
theorem Row.free (h : Row w b t vs) (i : Nat) : w.frozen? ⟨b, i, none⟩ = false := by
 unfold Row at h
 simp [World.frozen?, h]
theorem Row.keep {O : Nat → Prop} (h : Row w b t vs) (hu : Upd O w w') (hb : ¬ O b) : Row w' b t vs := (hu.block b h.lt hb).trans h
theorem Row.alloc (h : Row w b t vs) (o : Obj) : Row (w.alloc o) b t vs := (Below.heap_alloc _ _ _ h.lt).trans h
theorem Row.drew (h : Row w b t vs) : Row w.drew b t vs := h
theorem Row.new (w : World) (t : TypeId) (vs : List Value) : Row (w.alloc (.cells vs.toArray t)) w.heap.size t vs := by
 show (w.heap.push _)[w.heap.size]? = _
 simp
theorem Row.set (h : Row w b t vs) (i : Nat) (v : Value) : Row (w.setCell ⟨b, i, none⟩ v) b t (vs.set i v) := by
 unfold Row at *
 simp [World.setCell, Array.getElem?_modify, h]
end
end Go.RR
namespace Go.RX
open Go Go.RowKit Go.RR
variable {d : Nat} {ty : TypeId} {pos : String} {aft : Array Edge} {gd : Option (Nat × Bool)}
abbrev Env := List (Nat × Value)
def lk : Env → Nat → Option Value
 | [], _ => none
 | (k, v) :: r, t => bif Nat.beq k t then some v else lk r t
theorem lk_cons (k : Nat) (v : Value) (r : Env) (t : Nat) : lk ((k, v) :: r) t = if k = t then some v else lk r t := by
 simp only [lk]
 by_cases h : k = t
 ·subst h; simp
 ·have : Nat.beq k t = false := by
   cases hb : Nat.beq k t
   ·rfl
   ·exact absurd (Nat.eq_of_beq_eq_true hb) h
  simp [this, h]
structure Has (n : Nat) (env : Env) (a : Act) : Prop where
 defers : a.defers = []
 size : a.tmps.size = n
 get : ∀ t v, lk env t = some v → a.tmps[t]? = some v
structure E (n : Nat) (env : Env) (w : World) (K : Act → World → Prop) : Prop where
 run : ∀ a, Has n env a → K a w
def ev (env : Env) : Operand → Option Value
 | .tmp t => lk env t
 | .const v => some v
 | .global g => some (.pointer (some ⟨g, 0, none⟩))
 | .func f => some (.func (.func f) #[] #[])
theorem Has.ev {n : Nat} {env : Env} {a : Act} (h : Has n env a) {x : Operand} {v : Value} (hx : ev env x = some v) : a.eval x = v := by
 cases x with
 | tmp t => simp [Act.eval, h.get t v hx]
 | const u => simpa [RX.ev, Act.eval] using hx
 | global g => simpa [RX.ev, Act.eval] using hx
 | func f => simpa [RX.ev, Act.eval] using hx
def evs (env : Env) : List Operand → Option (List Value)
 | [] => some []
 | x :: r => match ev env x, evs env r with
  | some v, some l => some (v :: l)
  | _, _ => none
theorem Has.evs {n : Nat} {env : Env} {a : Act} (h : Has n env a) : ∀ {xs : List Operand} {vs : List Value}, evs env xs = some vs → xs.map a.eval = vs
 | [], vs, hx => by simpa [RX.evs] using hx
 | x :: r, vs, hx => by
  simp only [RX.evs] at hx
  split at hx
  ·rename_i v l h1 h2
   cases hx
   simp [h.ev h1, h.evs h2]
  ·cases hx
theorem Has.put {n : Nat} {env : Env} {a : Act} (h : Has n env a) {d : Nat} (v : Value) (hd : Nat.blt d n = true) : Has n ((d, v) :: env) (a.put (some d) v) := by
 have hd : d < n := by simpa [Nat.blt_eq] using hd
 refine ⟨h.defers, by simp [Act.put, h.size], fun t u ht => ?_⟩
 simp only [lk_cons] at ht
 simp only [Act.put]
 split at ht
 ·rename_i e; subst e; cases ht
  simp [h.size, hd]
 ·rename_i e
  rw [Array.getElem?_setIfInBounds_ne (by omega)]
  exact h.get t u ht
theorem Has.sub {n : Nat} {env env' : Env} {a : Act} (h : Has n env a) (hs : ∀ t v, lk env' t = some v → lk env t = some v) : Has n env' a := ⟨h.defers, h.size, fun t v ht => h.get t v (hs t v ht)⟩
def Sub : Env → Env → Prop
 | [], _ => True
 | (k, v) :: r, env => lk env k = some v ∧ Sub r env
theorem Sub.spec : ∀ {env' env : Env}, Sub env' env → ∀ t v, lk env' t = some v → lk env t = some v
 | [], _, _, t, v, h => by simp [lk] at h
 | (k, u) :: r, env, hs, t, v, h => by
  rw [lk_cons] at h
  split at h
  ·rename_i e; subst e; cases h; exact hs.1
  ·exact hs.2.spec t v h
section rules
variable {P : Program} {n : Nat} {env : Env} {w : World} {Q : Exit → Act → World → Prop} {K : Act → World → Prop}
theorem keep (env' : Env) (hs : Sub env' env) (h : E n env' w K) : E n env w K := ⟨fun a ha => h.run a (ha.sub hs.spec)⟩
theorem seq {x y : Code} (h : E n env w (x.wp P (Exit.then (y.wp P Q) Q))) : E n env w ((Code.seq x y).wp P Q) := ⟨fun a ha => wp_seq (h.run a ha)⟩
theorem skip (h : E n env w (Q .normal)) : E n env w (Code.skip.wp P Q) := ⟨fun a ha => wp_skip (h.run a ha)⟩
theorem block {id : Nat} {c : Code} (h : E n env w (c.wp P (Exit.inBlock id Q))) : E n env w ((Code.block id c).wp P Q) := ⟨fun a ha => wp_block (h.run a ha)⟩
theorem exit {id : Nat} (h : E n env w (Q (.exit id))) : E n env w ((Code.exit id).wp P Q) := ⟨fun a ha => wp_exit (h.run a ha)⟩
theorem ret (h : E n env w (Q .ret)) : E n env w (Code.ret.wp P Q) := ⟨fun a ha => wp_ret (h.run a ha)⟩
theorem then_normal (h : E n env w K) : E n env w (Exit.then K Q .normal) := ⟨h.run⟩
theorem then_exit {id : Nat} (h : E n env w (Q (.exit id))) : E n env w (Exit.then K Q (.exit id)) := ⟨h.run⟩
theorem then_ret (h : E n env w (Q .ret)) : E n env w (Exit.then K Q .ret) := ⟨h.run⟩
theorem inBlock_normal {id : Nat} (h : E n env w (Q .normal)) : E n env w (Exit.inBlock id Q .normal) := ⟨h.run⟩
theorem inBlock_ret {id : Nat} (h : E n env w (Q .ret)) : E n env w (Exit.inBlock id Q .ret) := ⟨h.run⟩
theorem inBlock_exit {id : Nat} (h : E n env w (Q .normal)) : E n env w (Exit.inBlock id Q (.exit id)) := by
 constructor; intro a ha
 simp only [Exit.inBlock, if_true]; exact h.run a ha
theorem inBlock_other {id id' : Nat} (hne : Nat.beq id' id = false) (h : E n env w (Q (.exit id'))) : E n env w (Exit.inBlock id Q (.exit id')) := by
 constructor; intro a ha
 have hne : ¬ id' = id := fun e => by subst e; simp at hne
 simp only [Exit.inBlock, if_neg hne]; exact h.run a ha
theorem cond_true {c : Operand} {x y : Code} {v : Value} (hc : ev env c = some v) (hv : v = .bool true) (h : E n env w (x.wp P Q)) : E n env w ((Code.cond c x y).wp P Q) := ⟨fun a ha => wp_cond_true (ha.ev (hv ▸ hc)) (h.run a ha)⟩
theorem cond_false {c : Operand} {x y : Code} {v : Value} (hc : ev env c = some v) (hv : v = .bool false) (h : E n env w (y.wp P Q)) : E n env w ((Code.cond c x y).wp P Q) := ⟨fun a ha => wp_cond_false (ha.ev (hv ▸ hc)) (h.run a ha)⟩
theorem cond {c : Operand} {x y : Code} {p : Prop} [Decidable p] (hc : ev env c = some (.bool (decide p))) (h1 : p → E n env w (x.wp P Q)) (h2 : ¬ p → E n env w (y.wp P Q)) :
  E n env w ((Code.cond c x y).wp P Q) := by
 constructor; intro a ha
 by_cases hp : p
 ·exact wp_cond_true ((ha.ev hc).trans (by simp [hp])) ((h1 hp).run a ha)
 ·exact wp_cond_false ((ha.ev hc).trans (by simp [hp])) ((h2 hp).run a ha)
theorem cond_bool {c : Operand} {x y : Code} {p : Bool} (hc : ev env c = some (.bool p)) (h1 : p = true → E n env w (x.wp P Q)) (h2 : p = false → E n env w (y.wp P Q)) :
  E n env w ((Code.cond c x y).wp P Q) := by
 constructor; intro a ha
 cases p with
 | true => exact wp_cond_true (ha.ev hc) ((h1 rfl).run a ha)
 | false => exact wp_cond_false (ha.ev hc) ((h2 rfl).run a ha)
theorem loop {σ : Type} (envOf : σ → Env) (I : σ → World → Prop) (μ : σ → Nat) {c : Code} (s0 : σ) (h0 : Sub (envOf s0) env) (hI : I s0 w)
  (round : ∀ s w, I s w → E n (envOf s) w (c.wp P (Exit.then (fun a' w' => ∃ s', Has n (envOf s') a' ∧ I s' w' ∧ μ s' < μ s) Q))) : E n env w ((Code.loop c).wp P Q) := by
 constructor; intro a ha
 refine wp_loop_ghost (fun m a w => ∃ s, μ s = m ∧ Has n (envOf s) a ∧ I s w) (μ s0) ⟨s0, rfl, ha.sub h0.spec, hI⟩ ?_
 rintro m a w ⟨s, rfl, hs, hIs⟩
 refine wp_mono ((round s w hIs).run a hs) ?_
 intro e a' w' hq
 cases e <;> first
  | (obtain ⟨s', h1, h2, h3⟩ := hq; exact ⟨_, h3, s', rfl, h1, h2⟩)
  | exact hq
theorem again {σ : Type} {envOf : σ → Env} {I : σ → World → Prop} {μ : σ → Nat} {m : Nat} (s' : σ) (h0 : Sub (envOf s') env) (hI : I s' w) (hμ : μ s' < m) :
  E n env w (fun a' w' => ∃ s', Has n (envOf s') a' ∧ I s' w' ∧ μ s' < m) := ⟨fun _ ha => ⟨s', ha.sub h0.spec, hI, hμ⟩⟩
theorem meet {σ : Type} {envOf : σ → Env} {I : σ → World → Prop} (s : σ) (h0 : Sub (envOf s) env) (hI : I s w) : E n env w (fun a w => ∃ s, Has n (envOf s) a ∧ I s w) := ⟨fun _ ha => ⟨s, ha.sub h0.spec, hI⟩⟩
def nth {α : Type} : List α → Nat → Option α
 | [], _ => none
 | a :: _, 0 => some a
 | _ :: l, k + 1 => nth l k
theorem nth_eq {α : Type} : ∀ (l : List α) (k : Nat), nth l k = l[k]?
 | [], k => by simp [nth]
 | a :: l, 0 => by simp [nth]
 | a :: l, k + 1 => by simp [nth, nth_eq l k]
theorem nth_array {α : Type} (a : Array α) (k : Nat) : nth a.toList k = a[k]? := by rw [nth_eq]; simp
def gslot (ops : Array Oper) (o : Oper) : Option Nat :=
 match o.guard with
 | some (j, _) => (nth ops.toList j).bind (·.dst)
 | none => none
def Wanted (n : Nat) (env : Env) (ops : Array Oper) (o : Oper) (b : Bool) : Prop := ∀ a, Has n env a → Region.wanted o (yielded ops a.tmps) = b
theorem plain {ops : Array Oper} {o : Oper} (hg : o.guard = none) : Wanted n env ops o true := fun a _ => by simp [Region.wanted, hg]
theorem guarded {ops : Array Oper} {o : Oper} {j d : Nat} {b : Bool} {v : Value} (hg : o.guard = some (j, b)) (hd : gslot ops o = some d) (hp : lk env d = some v) (hv : v = .bool b) : Wanted n env ops o true := fun a ha => by
 subst hv
 simp only [gslot, hg, nth_array] at hd
 simp [Region.wanted, hg, yielded, hd, ha.get d _ hp]
theorem barred_t {ops : Array Oper} {o : Oper} {j d : Nat} {v : Value} (hg : o.guard = some (j, true)) (hd : gslot ops o = some d) (hp : lk env d = some v) (hv : v = .bool false) : Wanted n env ops o false := fun a ha => by
 subst hv
 simp only [gslot, hg, nth_array] at hd
 simp [Region.wanted, hg, yielded, hd, ha.get d _ hp]
theorem barred_f {ops : Array Oper} {o : Oper} {j d : Nat} {v : Value} (hg : o.guard = some (j, false)) (hd : gslot ops o = some d) (hp : lk env d = some v) (hv : v = .bool true) : Wanted n env ops o false := fun a ha => by
 subst hv
 simp only [gslot, hg, nth_array] at hd
 simp [Region.wanted, hg, yielded, hd, ha.get d _ hp]
theorem barred_u {ops : Array Oper} {o : Oper} {j d : Nat} {b : Bool} {v : Value} (hg : o.guard = some (j, b)) (hd : gslot ops o = some d) (hp : lk env d = some v) (hv : v = undef) : Wanted n env ops o false := fun a ha => by
 subst hv
 simp only [gslot, hg, nth_array] at hd
 simp [Region.wanted, hg, yielded, hd, ha.get d _ hp, undef]
structure OW (P : Program) (n : Nat) (env : Env) (w : World) (o : Oper) (K : Act → World → Prop) (Q : Exit → Act → World → Prop) : Prop where
 run : ∀ a, Has n env a → o.wp P a w K Q
theorem region {id : Nat} {l : List Oper} (h : E n env w (wpList P l.toArray Q l)) : E n env w ((Code.region id l.toArray false).wp P Q) := ⟨fun a ha => wp_region_lit (h.run a ha)⟩
theorem nil {ops : Array Oper} (h : E n env w (Q .normal)) : E n env w (wpList P ops Q []) := ⟨h.run⟩
theorem opw {ops : Array Oper} {o : Oper} {rest : List Oper} (hw : Wanted n env ops o true) (h : OW P n env w o (wpList P ops Q rest) Q) : E n env w (wpList P ops Q (o :: rest)) := by
 constructor; intro a ha
 unfold wpList
 rw [if_pos (hw a ha)]
 exact .inl (h.run a ha)
theorem unwanted {ops : Array Oper} {d : Nat} {p : Op} {rest : List Oper} (hw : Wanted n env ops ⟨some d, p, ty, pos, aft, gd⟩ false) (hd : Nat.blt d n = true) (h : E n ((d, undef) :: env) w (wpList P ops Q rest)) :
  E n env w (wpList P ops Q (⟨some d, p, ty, pos, aft, gd⟩ :: rest)) := by
 constructor; intro a ha
 unfold wpList
 rw [if_neg (by rw [hw a ha]; simp)]
 exact h.run _ (ha.put (d := d) _ hd)
theorem unwanted_none {ops : Array Oper} {p : Op} {rest : List Oper} (hw : Wanted n env ops ⟨none, p, ty, pos, aft, gd⟩ false) (h : E n env w (wpList P ops Q rest)) :
  E n env w (wpList P ops Q (⟨none, p, ty, pos, aft, gd⟩ :: rest)) := by
 constructor; intro a ha
 unfold wpList
 rw [if_neg (by rw [hw a ha]; simp)]
 exact h.run _ ha
theorem relit {d : Nat} {p : Prop} [Decidable p] (hp : lk env d = some (.bool (decide p))) {b : Bool} (hb : decide p = b) (h : E n ((d, .bool b) :: env) w K) : E n env w K := by
 constructor; intro a ha
 refine h.run a ⟨ha.defers, ha.size, fun t v ht => ?_⟩
 rw [lk_cons] at ht
 split at ht
 ·rename_i e2; subst e2; cases ht; rw [← hb]; exact ha.get _ _ hp
 ·exact ha.get t v ht
theorem guard_true {ops : Array Oper} {o : Oper} {rest : List Oper} {d : Nat} {v : Value} {p : Prop} [Decidable p] (_hd : gslot ops o = some d) (hp : lk env d = some v) (hv : v = .bool (decide p)) (h : p) (k : E n ((d, .bool true) :: env) w (wpList P ops Q (o :: rest))) : E n env w (wpList P ops Q (o :: rest)) :=
 relit (hv ▸ hp) (by simpa using h) k
theorem guard_false {ops : Array Oper} {o : Oper} {rest : List Oper} {d : Nat} {v : Value} {p : Prop} [Decidable p] (_hd : gslot ops o = some d) (hp : lk env d = some v) (hv : v = .bool (decide p)) (h : ¬ p) (k : E n ((d, .bool false) :: env) w (wpList P ops Q (o :: rest))) : E n env w (wpList P ops Q (o :: rest)) :=
 relit (hv ▸ hp) (by simpa using h) k
theorem guard_split {ops : Array Oper} {o : Oper} {rest : List Oper} {d : Nat} {p : Prop} [Decidable p] (_hd : gslot ops o = some d) (hp : lk env d = some (.bool (decide p))) (h1 : p → E n ((d, .bool true) :: env) w (wpList P ops Q (o :: rest))) (h2 : ¬ p → E n ((d, .bool false) :: env) w (wpList P ops Q (o :: rest))) : E n env w (wpList P ops Q (o :: rest)) := by
 by_cases h : p
 ·exact relit hp (by simpa using h) (h1 h)
 ·exact relit hp (by simpa using h) (h2 h)
theorem guard_bool {ops : Array Oper} {o : Oper} {rest : List Oper} {d : Nat} {p : Bool} (_hd : gslot ops o = some d) (hp : lk env d = some (.bool p)) (h1 : p = true → E n ((d, .bool true) :: env) w (wpList P ops Q (o :: rest))) (h2 : p = false → E n ((d, .bool false) :: env) w (wpList P ops Q (o :: rest))) : E n env w (wpList P ops Q (o :: rest)) := by
 have hp' : lk env d = some (.bool (decide (p = true))) := by rw [hp]; cases p <;> rfl
 cases p
 ·exact relit hp' rfl (h2 rfl)
 ·exact relit hp' rfl (h1 rfl)
def Soft (P : Program) (n : Nat) (env : Env) (S : World → Prop) (op : Op) (v : Value) : Prop :=
 ∀ a, Has n env a → ∀ o : Oper, o.op = op → ∀ w, S w → (execOp a.eval o).run P w = .ok (.value v) w
theorem soft {d : Nat} {p : Op} {v : Value} (hs : Soft P n env (fun w' => w' = w) p v) (hd : Nat.blt d n = true) (h : E n ((d, v) :: env) w K) :
  OW P n env w ⟨some d, p, ty, pos, aft, gd⟩ K Q := by
 constructor; intro a ha
 show Oper.upon P _ a K Q ((execOp a.eval _).run P w)
 rw [hs a ha _ rfl w rfl]
 exact h.run _ (ha.put (d := d) v hd)
theorem eff {d : Nat} {p : Op} {v : Value} {w' : World} (hs : ∀ a, Has n env a → (execOp a.eval ⟨some d, p, ty, pos, aft, gd⟩).run P w = .ok (.value v) w') (hd : Nat.blt d n = true) (h : E n ((d, v) :: env) w' K) :
  OW P n env w ⟨some d, p, ty, pos, aft, gd⟩ K Q := by
 constructor; intro a ha
 show Oper.upon P _ a K Q ((execOp a.eval _).run P w)
 rw [hs a ha]
 exact h.run _ (ha.put (d := d) v hd)
theorem effU {p : Op} {w' : World} (hs : ∀ a, Has n env a → (execOp a.eval ⟨none, p, ty, pos, aft, gd⟩).run P w = .ok .skip w') (h : E n env w' K) : OW P n env w ⟨none, p, ty, pos, aft, gd⟩ K Q := by
 constructor; intro a ha
 show Oper.upon P _ a K Q ((execOp a.eval _).run P w)
 rw [hs a ha]
 exact h.run _ ha
end rules
class USlice (P : Program) (t : TypeId) (e : outParam TypeId) : Prop where u : P.underlying t = some (.slice e)
class UPtr (P : Program) (t : TypeId) (e : outParam TypeId) : Prop where u : P.underlying t = some (.pointer e)
class UMap (P : Program) (t : TypeId) (k e : outParam TypeId) : Prop where u : P.underlying t = some (.map k e)
class UInt (P : Program) (t : TypeId) (k : outParam IntKind) : Prop where u : P.underlying t = some (.int k)
class UBool (P : Program) (t : TypeId) : Prop where u : P.underlying t = some .bool
class USize (P : Program) (t : TypeId) (n : outParam Nat) : Prop where s : ∀ w, (sizeOf t).run P w = .ok n w
class UOne (P : Program) (t : TypeId) : Prop where a : ∀ w, (isAgg t).run P w = .ok false w
class UAgg (P : Program) (t : TypeId) : Prop where a : ∀ w, (isAgg t).run P w = .ok true w
class UField (P : Program) (s : TypeId) (f : Nat) (off : outParam Nat) : Prop where f : ∀ w b o, (Instr.fieldAt s (.pointer (some ⟨b, o, none⟩)) f).run P w = .ok (.pointer (some ⟨b, o + off, none⟩)) w
theorem field_of {P : Program} {s : TypeId} {fs : Array Field} {f sz off : Nat} {fd : Field} (hu : P.underlying s = some (.struct fs)) (hf : fs[f]? = some fd) (hs : ∀ w, (sizeOf fd.type).run P w = .ok sz w) (hz : Nat.beq sz 0 = false) (ho : fd.offset = off)
  (w : World) (b o : Nat) : (Instr.fieldAt s (.pointer (some ⟨b, o, none⟩)) f).run P w = .ok (.pointer (some ⟨b, o + off, none⟩)) w := by
 subst ho
 have hz : sz ≠ 0 := fun e => by subst e; simp at hz
 simp [Instr.fieldAt, run_underlying hu, hf, Instr.sureAddr, fieldPlace, hs, hz, Addr.add_lit]
class UZero (P : Program) (t : TypeId) (z : outParam Value) : Prop where z : ∀ w, (zeroValue t).run P w = .ok z w
section
variable {P : Program} {n : Nat} {env : Env} {w : World} {S : World → Prop} {Q : Exit → Act → World → Prop} {K : Act → World → Prop}
theorem run_equal {t : TypeId} {x y : Value} {b : Bool} (h : ∀ d w, (Op.equalIn (d + 1) t x y).run P w = .ok b w) (w : World) : (Op.equal t x y).run P w = .ok b w := h 9999 w
theorem run_binEql {t : TypeId} {x y : Value} {b : Bool} (he : binOp .eql t x y = (do pure (.bool (← Op.equal t x y)))) (h : ∀ d w, (Op.equalIn (d + 1) t x y).run P w = .ok b w) (w : World) : (binOp .eql t x y).run P w = .ok (.bool b) w := by
 rw [he]; simp [run_equal h]
theorem run_binNeq {t : TypeId} {x y : Value} {b : Bool} (he : binOp .neq t x y = (do pure (.bool (!(← Op.equal t x y))))) (h : ∀ d w, (Op.equalIn (d + 1) t x y).run P w = .ok b w) (w : World) : (binOp .neq t x y).run P w = .ok (.bool (!b)) w := by
 rw [he]; simp [run_equal h]
theorem move {x : Operand} {v : Value} (h : ev env x = some v) : Soft P n env S (.move x) v := fun a ha o ho w _ => by
 simp [execOp, ho, ha.ev h]
theorem assign {x : Operand} {v : Value} (h : ev env x = some v) : Soft P n env S (.assign x) v := fun a ha o ho w _ => by
 simp [execOp, ho, ha.ev h]
theorem pick_true {c x y : Operand} {v u : Value} (hc : ev env c = some u) (hu : u = .bool true) (h : ev env x = some v) : Soft P n env S (.pick c x y) v := fun a ha o ho w _ => by
 subst hu
 simp [execOp, ho, ha.ev h, ha.ev hc, asBool]
theorem pick_false {c x y : Operand} {v u : Value} (hc : ev env c = some u) (hu : u = .bool false) (h : ev env y = some v) : Soft P n env S (.pick c x y) v := fun a ha o ho w _ => by
 subst hu
 simp [execOp, ho, ha.ev h, ha.ev hc, asBool]
theorem extract {x : Operand} {i : Nat} {vs : Array Value} {v : Value} (h : ev env x = some (.tuple vs)) (hv : vs[i]? = some v) : Soft P n env S (.extract x i) v := fun a ha o ho w _ => by
 simp [execOp, ho, ha.ev h, Instr.extract, hv]
theorem nilCheck_ptr {x : Operand} {p : Addr} (h : ev env x = some (.pointer (some p))) : Soft P n env S (.nilCheck x) (.pointer (some p)) := fun a ha o ho w _ => by
 simp [execOp, ho, ha.ev h]
section ints
variable {t t' : TypeId} {x y : Operand} {k : IntKind} {i j : Int}
theorem lss (hx : ev env x = some (.int k i)) (hy : ev env y = some (.int k j)) : Soft P n env S (.binOp .lss t x y t') (.bool (decide (i < j))) := fun a ha o ho w _ => by
 simp [execOp, ho, ha.ev hx, ha.ev hy, eqGuard_at_int, binOp_lss]
theorem leq (hx : ev env x = some (.int k i)) (hy : ev env y = some (.int k j)) : Soft P n env S (.binOp .leq t x y t') (.bool (decide (i ≤ j))) := fun a ha o ho w _ => by
 simp [execOp, ho, ha.ev hx, ha.ev hy, eqGuard_at_int, binOp_leq]
theorem gtr (hx : ev env x = some (.int k i)) (hy : ev env y = some (.int k j)) : Soft P n env S (.binOp .gtr t x y t') (.bool (decide (j < i))) := fun a ha o ho w _ => by
 simp [execOp, ho, ha.ev hx, ha.ev hy, eqGuard_at_int, binOp_gtr]
theorem geq (hx : ev env x = some (.int k i)) (hy : ev env y = some (.int k j)) : Soft P n env S (.binOp .geq t x y t') (.bool (decide (j ≤ i))) := fun a ha o ho w _ => by
 simp [execOp, ho, ha.ev hx, ha.ev hy, eqGuard_at_int, binOp_geq]
theorem eql (hx : ev env x = some (.int k i)) (hy : ev env y = some (.int k j)) : Soft P n env S (.binOp .eql t x y t') (.bool (decide (i = j))) := fun a ha o ho w _ => by
 have : (i == j) = decide (i = j) := by rw [Bool.eq_iff_iff]; simp
 simp only [execOp, ho, ha.ev hx, ha.ev hy, eqGuard_at_int, binOp_eql, this]
 simp
theorem neq (hx : ev env x = some (.int k i)) (hy : ev env y = some (.int k j)) : Soft P n env S (.binOp .neq t x y t') (.bool (decide (i ≠ j))) := fun a ha o ho w _ => by
 have : (i != j) = decide (i ≠ j) := by rw [Bool.eq_iff_iff]; simp
 simp only [execOp, ho, ha.ev hx, ha.ev hy, eqGuard_at_int, binOp_neq, this]
 simp
theorem add {r : Int} (hx : ev env x = some (.int k i)) (hy : ev env y = some (.int k j)) (hr : k.wrap (i + j) = r) : Soft P n env S (.binOp .add t x y t') (.int k r) := fun a ha o ho w _ => by
 subst hr
 simp [execOp, ho, ha.ev hx, ha.ev hy, eqGuard_at_int, binOp_add, Op.intArith]
theorem sub {r : Int} (hx : ev env x = some (.int k i)) (hy : ev env y = some (.int k j)) (hr : k.wrap (i - j) = r) : Soft P n env S (.binOp .sub t x y t') (.int k r) := fun a ha o ho w _ => by
 subst hr
 simp [execOp, ho, ha.ev hx, ha.ev hy, eqGuard_at_int, binOp_sub, Op.intArith]
theorem mul {r : Int} (hx : ev env x = some (.int k i)) (hy : ev env y = some (.int k j)) (hr : k.wrap (i * j) = r) : Soft P n env S (.binOp .mul t x y t') (.int k r) := fun a ha o ho w _ => by
 subst hr
 simp [execOp, ho, ha.ev hx, ha.ev hy, eqGuard_at_int, binOp_mul, Op.intArith]
end ints
theorem wrap_in {i : Int} (h : -9223372036854775808 ≤ i ∧ i ≤ 9223372036854775807) : IntKind.i64.wrap i = i := by
 rw [IntKind.wrap_i64]; omega
theorem add_one {t t' : TypeId} {x y : Operand} {i : Nat} (hx : ev env x = some (.int .i64 (i : Int))) (hy : ev env y = some (.int .i64 1)) (hb : i < 9223372036854775807) :
  Soft P n env S (.binOp .add t x y t') (.int .i64 ((i + 1 : Nat) : Int)) := add hx hy (by rw [wrap_in (by omega)]; rfl)
theorem add_in {t t' : TypeId} {x y : Operand} {i j : Int} (hx : ev env x = some (.int .i64 i)) (hy : ev env y = some (.int .i64 j)) (hb : -9223372036854775808 ≤ i + j ∧ i + j ≤ 9223372036854775807) :
  Soft P n env S (.binOp .add t x y t') (.int .i64 (i + j)) := add hx hy (wrap_in hb)
theorem sub_in {t t' : TypeId} {x y : Operand} {i j : Int} (hx : ev env x = some (.int .i64 i)) (hy : ev env y = some (.int .i64 j)) (hb : -9223372036854775808 ≤ i - j ∧ i - j ≤ 9223372036854775807) :
  Soft P n env S (.binOp .sub t x y t') (.int .i64 (i - j)) := sub hx hy (wrap_in hb)
section bools
variable {t t' : TypeId} {x y : Operand} {p q : Bool}
theorem eql_bool [h : UBool P t] (hx : ev env x = some (.bool p)) (hy : ev env y = some (.bool q)) : Soft P n env S (.binOp .eql t x y t') (.bool (p == q)) := fun a ha o ho w _ => by
 simp only [execOp, ho, ha.ev hx, ha.ev hy, eqGuard_at_bool]
 simp [run_binEql (P := P) (t := t) (x := .bool p) (y := .bool q) (b := p == q) rfl (fun d w => by simp [Op.equalIn, run_underlying h.u])]
theorem neq_bool [h : UBool P t] (hx : ev env x = some (.bool p)) (hy : ev env y = some (.bool q)) : Soft P n env S (.binOp .neq t x y t') (.bool (p != q)) := fun a ha o ho w _ => by
 simp only [execOp, ho, ha.ev hx, ha.ev hy, eqGuard_at_bool]
 simp [run_binNeq (P := P) (t := t) (x := .bool p) (y := .bool q) (b := p == q) rfl (fun d w => by simp [Op.equalIn, run_underlying h.u])]
 cases p <;> cases q <;> rfl
theorem eql_same [h : UBool P t] {v : Value} (hx : ev env x = some (.bool p)) (hy : ev env y = some v) (hv : v = .bool p) : Soft P n env S (.binOp .eql t x y t') (.bool true) := by
 subst hv
 have := eql_bool (P := P) (S := S) (n := n) (t := t) (t' := t') hx hy
 simpa using this
theorem eql_tf [h : UBool P t] {u v : Value} (hx : ev env x = some u) (hy : ev env y = some v) (hu : u = .bool true) (hv : v = .bool false) : Soft P n env S (.binOp .eql t x y t') (.bool false) := by
 subst hu; subst hv; exact eql_bool hx hy
theorem eql_ft [h : UBool P t] {u v : Value} (hx : ev env x = some u) (hy : ev env y = some v) (hu : u = .bool false) (hv : v = .bool true) : Soft P n env S (.binOp .eql t x y t') (.bool false) := by
 subst hu; subst hv; exact eql_bool hx hy
theorem not {t : TypeId} {x : Operand} {p : Bool} (hx : ev env x = some (.bool p)) : Soft P n env S (.unOp .not t x) (.bool (!p)) := fun a ha o ho w _ => by
 simp [execOp, ho, ha.ev hx, Op.unary]
theorem not_t {t : TypeId} {x : Operand} {v : Value} (hx : ev env x = some v) (hv : v = .bool true) : Soft P n env S (.unOp .not t x) (.bool false) := by subst hv; exact not hx
theorem not_f {t : TypeId} {x : Operand} {v : Value} (hx : ev env x = some v) (hv : v = .bool false) : Soft P n env S (.unOp .not t x) (.bool true) := by subst hv; exact not hx
end bools
section ptrs
variable {t t' e : TypeId} {x y : Operand} {p : Option Addr}
theorem eql_nil [h : UPtr P t e] (hx : ev env x = some (.pointer p)) (hy : ev env y = some (.pointer none)) : Soft P n env S (.binOp .eql t x y t') (.bool p.isNone) := fun a ha o ho w _ => by
 simp only [execOp, ho, ha.ev hx, ha.ev hy, eqGuard_at_pointer]
 simp [run_binEql (P := P) (t := t) (x := .pointer p) (y := .pointer none) (b := p.isNone) (by cases p <;> rfl) (fun d w => by cases p <;> simp [Op.equalIn, run_underlying h.u])]
theorem neq_nil [h : UPtr P t e] (hx : ev env x = some (.pointer p)) (hy : ev env y = some (.pointer none)) : Soft P n env S (.binOp .neq t x y t') (.bool p.isSome) := fun a ha o ho w _ => by
 simp only [execOp, ho, ha.ev hx, ha.ev hy, eqGuard_at_pointer]
 simp [run_binNeq (P := P) (t := t) (x := .pointer p) (y := .pointer none) (b := p.isNone) (by cases p <;> rfl) (fun d w => by cases p <;> simp [Op.equalIn, run_underlying h.u])]
theorem eql_nil_nil [h : UPtr P t e] (hx : ev env x = some (.pointer none)) (hy : ev env y = some (.pointer none)) : Soft P n env S (.binOp .eql t x y t') (.bool true) := eql_nil hx hy
theorem eql_ptr_nil {p : Addr} [h : UPtr P t e] (hx : ev env x = some (.pointer (some p))) (hy : ev env y = some (.pointer none)) : Soft P n env S (.binOp .eql t x y t') (.bool false) := eql_nil hx hy
theorem neq_ptr_nil {p : Addr} [h : UPtr P t e] (hx : ev env x = some (.pointer (some p))) (hy : ev env y = some (.pointer none)) : Soft P n env S (.binOp .neq t x y t') (.bool true) := neq_nil hx hy
theorem eql_slnil {ao : Option Addr} {len cap : Nat} [h : USlice P t e] (hx : ev env x = some (.slice ao len cap)) (hy : ev env y = some (.slice none 0 0)) : Soft P n env S (.binOp .eql t x y t') (.bool ao.isNone) := fun a ha o ho w _ => by
 simp only [execOp, ho, ha.ev hx, ha.ev hy]
 simp [eqGuard, run_binEql (P := P) (t := t) (x := .slice ao len cap) (y := .slice none 0 0) (b := ao.isNone) (by cases ao <;> rfl) (fun d w => by cases ao <;> simp [Op.equalIn, run_underlying h.u])]
end ptrs
theorem fieldAddr {s : TypeId} {x : Operand} {f off b o1 : Nat} [h : UField P s f off] (hx : ev env x = some (.pointer (some ⟨b, o1, none⟩))) : Soft P n env S (.fieldAddr s x f) (.pointer (some ⟨b, o1 + off, none⟩)) := fun a ha o ho w _ => by
 simp [execOp, ho, ha.ev hx, h.f]
theorem fieldAddr0 {s : TypeId} {x : Operand} {f : Nat} {b o1 : Nat} [h : UField P s f 0] (hx : ev env x = some (.pointer (some ⟨b, o1, none⟩))) : Soft P n env S (.fieldAddr s x f) (.pointer (some ⟨b, o1, none⟩)) := by
 have := fieldAddr (P := P) (n := n) (S := S) (s := s) (f := f) hx
 simpa using this
theorem fieldAddrH {s : TypeId} {x : Operand} {f off b : Nat} [h : UField P s f off] (hx : ev env x = some (.pointer (some ⟨b, 0, none⟩))) : Soft P n env S (.fieldAddr s x f) (.pointer (some ⟨b, off, none⟩)) := by
 have := fieldAddr (P := P) (n := n) (S := S) (s := s) (f := f) hx
 simpa using this
theorem indexAddr {t e : TypeId} {x y : Operand} {b o1 len cap sz : Nat} {k : IntKind} {i : Int} [h : USlice P t e] [hs : USize P e sz] (hx : ev env x = some (.slice (some ⟨b, o1, none⟩) len cap)) (hy : ev env y = some (.int k i))
  (h0 : 0 ≤ i ∧ i < len) : Soft P n env S (.indexAddr t x y) (.pointer (some ⟨b, o1 + i.toNat * sz, none⟩)) := fun a ha o ho w _ => by
 simp [execOp, ho, ha.ev hx, ha.ev hy, Instr.indexAt, asIntOf, run_underlying h.u, hs.s, h0, Addr.add_lit]
theorem indexAddr1 {t e : TypeId} {x y : Operand} {b len cap i : Nat} {k : IntKind} [h : USlice P t e] [hs : USize P e 1] (hx : ev env x = some (.slice (some ⟨b, 0, none⟩) len cap)) (hy : ev env y = some (.int k (i : Int)))
  (h0 : i < len) : Soft P n env S (.indexAddr t x y) (.pointer (some ⟨b, i, none⟩)) := by
 have := indexAddr (P := P) (n := n) (env := env) (S := S) (t := t) hx hy ⟨by omega, by omega⟩
 simpa using this
theorem indexAddrS {t e : TypeId} {x y : Operand} {b o1 len cap sz i : Nat} {k : IntKind} [h : USlice P t e] [hs : USize P e sz] (hx : ev env x = some (.slice (some ⟨b, o1, none⟩) len cap)) (hy : ev env y = some (.int k (i : Int)))
  (h0 : i < len) : Soft P n env S (.indexAddr t x y) (.pointer (some ⟨b, o1 + i * sz, none⟩)) := by
 have := indexAddr (P := P) (n := n) (env := env) (S := S) (t := t) hx hy ⟨by omega, by omega⟩
 simpa using this
theorem len_slice {t e : TypeId} {x : Operand} {o1 : Option Addr} {len cap : Nat} [h : USlice P t e] (hx : ev env x = some (.slice o1 len cap)) :
  Soft P n env S (.call { callee := .builtin .len, args := #[x], argTypes := #[t] }) (.int .i64 (len : Int)) := fun a ha o ho w _ => by
 simp [execOp, ho, ha.ev hx, resolve, invoke, builtin, Builtin.len_, run_underlying h.u, goInt]
theorem max2 {t : Array TypeId} {x y : Operand} {k : IntKind} {i j : Int} (hx : ev env x = some (.int k i)) (hy : ev env y = some (.int k j)) :
  Soft P n env S (.call { callee := .builtin .max, args := #[x, y], argTypes := t }) (.int k (max i j)) := fun a ha o ho w _ => by
 have : (if i < j then j else i) = max i j := by omega
 simp [execOp, ho, ha.ev hx, ha.ev hy, resolve, invoke, builtin, Builtin.max_, Builtin.max2, this]
theorem min2 {t : Array TypeId} {x y : Operand} {k : IntKind} {i j : Int} (hx : ev env x = some (.int k i)) (hy : ev env y = some (.int k j)) :
  Soft P n env S (.call { callee := .builtin .min, args := #[x, y], argTypes := t }) (.int k (min i j)) := fun a ha o ho w _ => by
 have : (if j < i then j else i) = min i j := by omega
 simp [execOp, ho, ha.ev hx, ha.ev hy, resolve, invoke, builtin, Builtin.min_, Builtin.min2, this]
theorem load {t : TypeId} {x : Operand} {p : Addr} {v : Value} [h : UOne P t] (hx : ev env x = some (.pointer (some p))) (hc : ∀ w, S w → w.cell? p = some v) : Soft P n env S (.load t x) v := fun a ha o ho w hw => by
 simp [execOp, ho, ha.ev hx, Instr.loadAt, Instr.sureAddr, loadVar, h.a, hc w hw]
theorem store {t : TypeId} {x y : Operand} {p : Addr} {v u : Value} {ty : TypeId} {pos : String} {aft : Array Edge} {gd : Option (Nat × Bool)} [hs : USize P t 1] (hx : ev env x = some (.pointer (some p))) (hy : ev env y = some v) (hv : v.oneCell' = true)
  (hc : w.cell? p = some u) (hf : w.frozen? p = false) (h : E n env (w.setCell p v) K) : OW P n env w ⟨none, .store t x y, ty, pos, aft, gd⟩ K Q := by
 refine effU (w' := w.setCell p v) (fun a ha => ?_) h
 have hcs : v.cells = #[v] := by cases v <;> first | rfl | (simp [Value.oneCell'] at hv)
 simp [execOp, ha.ev hx, ha.ev hy, Instr.storeAt, Instr.sureAddr, storeVar, hcs, hs.s, storeCells, run_store P w _ v _ hv, hc, hf, Addr.add_zero']
end
end Go.RX
