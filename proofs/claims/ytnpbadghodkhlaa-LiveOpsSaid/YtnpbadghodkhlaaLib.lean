import Derived.WalkKit
import Derived.ProofKit
namespace Go.RR
open Go.RowKit
open Go

/-- What stands in 'w'' as it stood in 'w', but for the blocks 'O' and what is new. -/
structure Upd (O : Nat → Prop) (w w' : World) : Prop where
  os : w'.os = w.os
  tape : w'.tape = w.tape
  output : w'.output = w.output
  size : w.heap.size ≤ w'.heap.size
  block : ∀ k, k < w.heap.size → ¬ O k → w'.heap[k]? = w.heap[k]?

theorem Upd.refl (O : Nat → Prop) (w : World) : Upd O w w := ⟨rfl, rfl, rfl, Nat.le_refl _, fun _ _ _ => rfl⟩

theorem Upd.trans {O O1 O2 : Nat → Prop} {w w1 w2 : World} (h1 : Upd O1 w w1) (h2 : Upd O2 w1 w2)
    (hO1 : ∀ k, k < w.heap.size → O1 k → O k) (hO2 : ∀ k, k < w.heap.size → O2 k → O k) : Upd O w w2 :=
  ⟨h2.os.trans h1.os, h2.tape.trans h1.tape, h2.output.trans h1.output, Nat.le_trans h1.size h2.size,
    fun k hk hn => (h2.block k (Nat.lt_of_lt_of_le hk h1.size) (fun h => hn (hO2 k hk h))).trans (h1.block k hk (fun h => hn (hO1 k hk h)))⟩

theorem Upd.mono {O O1 : Nat → Prop} {w w1 : World} (h1 : Upd O1 w w1) (hO : ∀ k, k < w.heap.size → O1 k → O k) : Upd O w w1 :=
  ⟨h1.os, h1.tape, h1.output, h1.size, fun k hk hn => h1.block k hk (fun h => hn (hO k hk h))⟩

theorem Upd.alloc {O : Nat → Prop} {w w1 : World} (h : Upd O w w1) (o : Obj) : Upd O w (w1.alloc o) :=
  h.trans (O2 := fun _ => False) ⟨rfl, rfl, rfl, by simp, fun k hk _ => Below.heap_alloc _ _ _ hk⟩ (fun _ _ h => h) (fun _ _ h => h.elim)

theorem Upd.drew {O : Nat → Prop} {w w1 : World} (h : Upd O w w1) : Upd O w w1.drew := ⟨h.os, h.tape, h.output, h.size, h.block⟩

theorem Upd.setCell {O : Nat → Prop} {w w1 : World} (h : Upd O w w1) {p : Addr} (hp : p.block < w.heap.size → O p.block) (u : Value) : Upd O w (w1.setCell p u) :=
  h.trans (O2 := fun k => k = p.block) ⟨rfl, rfl, rfl, by simp, fun k _ hn => Below.heap_setCell _ _ _ _ hn⟩ (fun _ _ h => h) (fun k hk e => by subst e; exact hp hk)

theorem Upd.grown {O : Nat → Prop} {w w1 w2 : World} {row : Option Nat} (h : Upd O w w1) (hg : w1.grownBy w2 row) (hr : ∀ k, row = some k → k < w.heap.size → O k) : Upd O w w2 :=
  h.trans (O2 := fun k => row = some k) ⟨hg.os, hg.tape, hg.output, hg.size, fun k hk hn => hg.block k hk (fun e => hn e.symm)⟩ (fun _ _ h => h) (fun k hk e => hr k e hk)

theorem Upd.below {w w1 : World} (h : Upd (fun _ => False) w w1) : Below w.heap.size w w1 := ⟨h.os, h.tape, h.output, h.size, fun k hk => h.block k hk (fun h => h)⟩

theorem Upd.of_below {w w1 : World} (h : Below w.heap.size w w1) : Upd (fun _ => False) w w1 := ⟨h.os, h.tape, h.output, h.size, fun k hk _ => h.block k hk⟩

/-- Block 'b' is a row of cells 'vs', none of them frozen. -/
def Row (w : World) (b : Nat) (t : TypeId) (vs : List Value) : Prop := w.heap[b]? = some (.cells vs.toArray t (0, 0))

section
variable {w w' : World} {b : Nat} {t : TypeId} {vs : List Value}

theorem Row.lt (h : Row w b t vs) : b < w.heap.size := (Array.getElem?_eq_some_iff.1 h).1

theorem Row.cell (h : Row w b t vs) (i : Nat) : w.cell? ⟨b, i, none⟩ = vs[i]? := by
  unfold Row at h
  simp [World.cell?, h]

theorem Row.cell_some (h : Row w b t vs) {i : Nat} {v : Value} (hi : vs[i]? = some v) : w.cell? ⟨b, i, none⟩ = some v := (h.cell i).trans hi

theorem Row.free (h : Row w b t vs) (i : Nat) : w.frozen? ⟨b, i, none⟩ = false := by
  unfold Row at h
  simp [World.frozen?, h]

theorem Row.keep {O : Nat → Prop} (h : Row w b t vs) (hu : Upd O w w') (hb : ¬ O b) : Row w' b t vs := (hu.block b h.lt hb).trans h

theorem Row.alloc (h : Row w b t vs) (o : Obj) : Row (w.alloc o) b t vs := (Below.heap_alloc _ _ _ h.lt).trans h
theorem Row.drew (h : Row w b t vs) : Row w.drew b t vs := h

theorem Row.new (w : World) (t : TypeId) (vs : List Value) : Row (w.alloc (.cells vs.toArray t)) w.heap.size t vs := by
  show (w.heap.push _)[w.heap.size]? = _
  simp

theorem Row.set (h : Row w b t vs) (i : Nat) (v : Value) : Row (w.setCell ⟨b, i, none⟩ v) b t (vs.set i v) := by
  unfold Row at *
  simp [World.setCell, Array.getElem?_modify, h]

theorem Row.set_other (h : Row w b t vs) {a : Addr} (ha : a.block ≠ b) (v : Value) : Row (w.setCell a v) b t vs :=
  (Below.heap_setCell _ _ _ _ (fun e => ha e.symm)).trans h
end

theorem ret_int {k : IntKind} {a b : Int} (h : a = b) : Ending.returned (.int k a) = .returned (.int k b) := by rw [h]
theorem ret_bool {a b : Bool} (h : a = b) : Ending.returned (.bool a) = .returned (.bool b) := by rw [h]

end Go.RR
