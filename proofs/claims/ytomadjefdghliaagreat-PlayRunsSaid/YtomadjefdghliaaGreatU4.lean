import Derived.Test.YtomadjefdghliaaGreatU3
namespace Go.GX
open Go Go.RowKit Go.RR Go.RX
structure Ty (α : Type) where
 size : Nat
 rd : (Nat → Prop) → World → List Value → α → Prop
 len : ∀ {F : Nat → Prop} {w : World} {cs : List Value} {x : α}, rd F w cs x → cs.length = size
 one : ∀ {F : Nat → Prop} {w : World} {cs : List Value} {x : α}, rd F w cs x → ∀ c ∈ cs, c.oneCell' = true
 move : ∀ {F F' : Nat → Prop} {w w' : World} {cs : List Value} {x : α}, rd F w cs x → (∀ k, k < w.heap.size → F k → F' k) → Agree F w w' → rd F' w' cs x
def CellsAt (w : World) (b o : Nat) (cs : List Value) : Prop := ∀ (j : Nat) c, cs[j]? = some c → w.cell? ⟨b, o + j, none⟩ = some c
theorem CellsAt.move {F : Nat → Prop} {w w' : World} {b o : Nat} {cs : List Value} (h : CellsAt w b o cs) (ha : Agree F w w') (hb : F b) : CellsAt w' b o cs := fun j c hj => ha.cell hb (h j c hj)
def SlAt {α : Type} (e : Ty α) (F : Nat → Prop) (w : World) (ao : Option Addr) (xs : List α) : Prop :=
 ∀ (i : Nat) x, xs[i]? = some x → ∃ b o cs, ao = some ⟨b, o, none⟩ ∧ F b ∧ b < w.heap.size ∧ CellsAt w b (o + i * e.size) cs ∧ e.rd F w cs x
theorem SlAt.move {α : Type} {e : Ty α} {F F' : Nat → Prop} {w w' : World} {ao : Option Addr} {xs : List α} (h : SlAt e F w ao xs) (hF : ∀ k, k < w.heap.size → F k → F' k) (ha : Agree F w w') : SlAt e F' w' ao xs := fun i x hx => by
 obtain ⟨b, o, cs, h1, h2, h3, h4, h5⟩ := h i x hx
 exact ⟨b, o, cs, h1, hF b h3 h2, Nat.lt_of_lt_of_le h3 ha.size, h4.move ha h2, e.move h5 hF ha⟩
namespace Ty
def num (k : IntKind) : Ty Int := ⟨1, fun _ _ cs x => cs = [.int k x], fun h => by rw [h]; rfl, fun h c hc => by rw [h] at hc; simp at hc; subst hc; rfl, fun h _ _ => h⟩
abbrev int : Ty Int := num .i64
def bool : Ty Bool := ⟨1, fun _ _ cs x => cs = [.bool x], fun h => by rw [h]; rfl, fun h c hc => by rw [h] at hc; simp at hc; subst hc; rfl, fun h _ _ => h⟩
def string : Ty ByteArray := ⟨1, fun _ _ cs x => cs = [.string x], fun h => by rw [h]; rfl, fun h c hc => by rw [h] at hc; simp at hc; subst hc; rfl, fun h _ _ => h⟩
def hdr : Ty (Option Addr × Nat × Nat) := ⟨1, fun _ _ cs x => cs = [.slice x.1 x.2.1 x.2.2], fun h => by rw [h]; rfl, fun h c hc => by rw [h] at hc; simp at hc; subst hc; rfl, fun h _ _ => h⟩
def unit : Ty Unit := ⟨0, fun _ _ cs _ => cs = [], fun h => by rw [h]; rfl, fun h c hc => by rw [h] at hc; simp at hc, fun h _ _ => h⟩
def pair {α β : Type} (a : Ty α) (b : Ty β) : Ty (α × β) where
 size := a.size + b.size
 rd F w cs x := ∃ c1 c2, cs = c1 ++ c2 ∧ a.rd F w c1 x.1 ∧ b.rd F w c2 x.2
 len := by rintro F w cs x ⟨c1, c2, rfl, h1, h2⟩; rw [List.length_append, a.len h1, b.len h2]
 one := by
  rintro F w cs x ⟨c1, c2, rfl, h1, h2⟩ c hc
  rw [List.mem_append] at hc
  exact hc.elim (a.one h1 c) (b.one h2 c)
 move := by rintro F F' w w' cs x ⟨c1, c2, rfl, h1, h2⟩ hF ha; exact ⟨c1, c2, rfl, a.move h1 hF ha, b.move h2 hF ha⟩
def co {α β : Type} (e : Ty α) (g : β → α) : Ty β := ⟨e.size, fun F w cs y => e.rd F w cs (g y), fun h => e.len h, fun h => e.one h, fun h hF ha => e.move h hF ha⟩
def slice {α : Type} (e : Ty α) : Ty (List α) where
 size := 1
 rd F w cs xs := ∃ ao cap, cs = [.slice ao xs.length cap] ∧ xs.length ≤ cap ∧ cap ≤ 9223372036854775807 ∧ SlAt e F w ao xs
 len := by rintro F w cs xs ⟨ao, cap, rfl, _⟩; rfl
 one := by rintro F w cs xs ⟨ao, cap, rfl, _⟩ c hc; simp at hc; subst hc; rfl
 move := by rintro F F' w w' cs xs ⟨ao, cap, rfl, h1, h2, h3⟩ hF ha; exact ⟨ao, cap, rfl, h1, h2, h3.move hF ha⟩
end Ty
section
variable {F : Nat → Prop} {w : World} {α β : Type}
theorem co_rd {e : Ty α} {g : β → α} {cs : List Value} {y : β} (h : e.rd F w cs (g y)) : (Ty.co e g).rd F w cs y := h
theorem pair_rd {a : Ty α} {b : Ty β} {c1 c2 cs : List Value} {x : α × β} (hcs : cs = c1 ++ c2) (h1 : a.rd F w c1 x.1) (h2 : b.rd F w c2 x.2) : (Ty.pair a b).rd F w cs x := ⟨c1, c2, hcs, h1, h2⟩
theorem unit_rd {x : Unit} : Ty.unit.rd F w [] x := rfl
theorem num_rd {k : IntKind} {x : Int} : (Ty.num k).rd F w [.int k x] x := rfl
theorem bool_rd {x : Bool} : Ty.bool.rd F w [.bool x] x := rfl
theorem hdr_rd {a : Option Addr} {n c : Nat} : Ty.hdr.rd F w [.slice a n c] (a, n, c) := rfl
theorem nils_rd {e : Ty α} : (Ty.slice e).rd F w [.slice none 0 0] [] := ⟨none, 0, rfl, Nat.le_refl _, by omega, fun i x hx => by simp at hx⟩
class OneV (v : Value) : Prop where
 one : v.cells.toList = [v]
instance (k : IntKind) (i : Int) : OneV (.int k i) := ⟨rfl⟩
instance (p : Bool) : OneV (.bool p) := ⟨rfl⟩
instance (a : Option Addr) (n c : Nat) : OneV (.slice a n c) := ⟨rfl⟩
theorem rdo {e : Ty α} {v : Value} {x : α} [h : OneV v] (h1 : e.rd F w v.cells.toList x) : e.rd F w [v] x := by rw [← h.one]; exact h1
end
def Sl {α : Type} (e : Ty α) (ao : Option Addr) (cap : Nat) (xs : List α) : Pf :=
 ⟨fun F w => xs.length ≤ cap ∧ cap ≤ 9223372036854775807 ∧ SlAt e F w ao xs, fun h hF ha => ⟨h.1, h.2.1, h.2.2.move hF ha⟩⟩
def Pt {α : Type} (e : Ty α) (b o : Nat) (y : α) : Pf :=
 ⟨fun F w => F b ∧ b < w.heap.size ∧ ∃ cs, CellsAt w b o cs ∧ e.rd F w cs y, fun h hF ha => by
  obtain ⟨h1, h2, cs, h3, h4⟩ := h
  exact ⟨hF b h2 h1, Nat.lt_of_lt_of_le h2 ha.size, cs, h3.move ha h1, e.move h4 hF ha⟩⟩
def Ag {α : Type} (e : Ty α) (cs : List Value) (y : α) : Pf := ⟨fun F w => e.rd F w cs y, fun h hF ha => e.move h hF ha⟩
theorem Row.agree {F : Nat → Prop} {w w' : World} {b : Nat} {t : TypeId} {vs : List Value} (h : Row w b t vs) (ha : Agree F w w') (hb : F b) : Row w' b t vs := (ha.block b h.lt hb).trans h
def RowR (b : Nat) (t : TypeId) (vs : List Value) : Res :=
 ⟨fun k => k = b, fun _ w => Row w b t vs, fun h hk => by rw [hk]; exact h.lt, fun h _ _ ha => Row.agree h ha rfl⟩
def Box {α : Type} (t : TypeId) (e : Ty α) (b : Nat) (y : α) : Res :=
 ⟨fun k => k = b, fun F w => ∃ cs, Row w b t cs ∧ e.rd F w cs y, fun h hk => by obtain ⟨cs, h, _⟩ := h; rw [hk]; exact h.lt, fun h hF ha hb => by
  obtain ⟨cs, h1, h2⟩ := h
  exact ⟨cs, Row.agree h1 hb rfl, e.move h2 hF ha⟩⟩
def Els {α : Type} (e : Ty α) (F : Nat → Prop) (w : World) : List Value → List α → Prop
 | cs, [] => cs = []
 | cs, x :: xs => ∃ c1 c2, cs = c1 ++ c2 ∧ e.rd F w c1 x ∧ Els e F w c2 xs
theorem Els.move {α : Type} {e : Ty α} {F F' : Nat → Prop} {w w' : World} (hF : ∀ k, k < w.heap.size → F k → F' k) (ha : Agree F w w') : ∀ {xs : List α} {cs : List Value}, Els e F w cs xs → Els e F' w' cs xs
 | [], _, h => h
 | _ :: _, _, ⟨c1, c2, h1, h2, h3⟩ => ⟨c1, c2, h1, e.move h2 hF ha, h3.move hF ha⟩
theorem Els.len {α : Type} {e : Ty α} {F : Nat → Prop} {w : World} : ∀ {xs : List α} {cs : List Value}, Els e F w cs xs → cs.length = xs.length * e.size
 | [], _, h => by rw [h]; simp
 | x :: xs, _, ⟨c1, c2, h1, h2, h3⟩ => by rw [h1, List.length_append, e.len h2, h3.len, List.length_cons, Nat.add_mul]; omega
theorem Els.one {α : Type} {e : Ty α} {F : Nat → Prop} {w : World} : ∀ {xs : List α} {cs : List Value}, Els e F w cs xs → ∀ c ∈ cs, c.oneCell' = true
 | [], _, h => by rw [h]; simp
 | x :: xs, _, ⟨c1, c2, h1, h2, h3⟩ => fun c hc => by
  rw [h1, List.mem_append] at hc
  exact hc.elim (e.one h2 c) (h3.one c)
theorem Els.append {α : Type} {e : Ty α} {F : Nat → Prop} {w : World} : ∀ {xs ys : List α} {cs ds : List Value}, Els e F w cs xs → Els e F w ds ys → Els e F w (cs ++ ds) (xs ++ ys)
 | [], _, _, _, h, h2 => by rw [h]; exact h2
 | x :: xs, _, _, _, ⟨c1, c2, h1, h3, h4⟩, h2 => ⟨c1, _, by rw [h1, List.append_assoc], h3, h4.append h2⟩
theorem Els.single {α : Type} {e : Ty α} {F : Nat → Prop} {w : World} {x : α} {cs : List Value} (h : e.rd F w cs x) : Els e F w cs [x] := ⟨cs, [], by simp, h, rfl⟩
theorem Els.get {α : Type} {e : Ty α} {F : Nat → Prop} {w : World} : ∀ {xs : List α} {cs : List Value} {i : Nat} {x : α}, Els e F w cs xs → xs[i]? = some x → ∃ l m r, cs = l ++ (m ++ r) ∧ l.length = i * e.size ∧ e.rd F w m x ∧ ∀ m' y, e.rd F w m' y → Els e F w (l ++ (m' ++ r)) (xs.set i y)
 | [], _, _, _, _, hx => by simp at hx
 | y :: xs, _, 0, x, ⟨c1, c2, h1, h2, h3⟩, hx => by
  simp at hx; subst hx
  exact ⟨[], c1, c2, by simpa using h1, by simp, h2, fun m' z hz => ⟨m', c2, by simp, hz, h3⟩⟩
 | y :: xs, _, i + 1, x, ⟨c1, c2, h1, h2, h3⟩, hx => by
  obtain ⟨l, m, r, e1, e2, e3, e4⟩ := h3.get (i := i) (by simpa using hx)
  refine ⟨c1 ++ l, m, r, by rw [h1, e1]; simp, by rw [List.length_append, e2, e.len h2, Nat.add_mul]; omega, e3, fun m' z hz => ?_⟩
  exact ⟨c1, l ++ (m' ++ r), by simp, h2, e4 m' z hz⟩
theorem Els.cells {α : Type} {e : Ty α} {F : Nat → Prop} {w : World} {xs : List α} {cs : List Value} (h : Els e F w cs xs) {i : Nat} {x : α} (hx : xs[i]? = some x) : ∃ m, e.rd F w m x ∧ ∀ (j : Nat) c, m[j]? = some c → cs[i * e.size + j]? = some c := by
 obtain ⟨l, m, r, e1, e2, e3, _⟩ := h.get hx
 refine ⟨m, e3, fun j c hj => ?_⟩
 have hjl := (List.getElem?_eq_some_iff.1 hj).1
 rw [e1, List.getElem?_append_right (by omega), e2, Nat.add_sub_cancel_left, List.getElem?_append_left hjl, hj]
def Own {α : Type} (t : TypeId) (e : Ty α) (ao : Option Addr) (cap : Nat) (xs : List α) : Res where
 on k := (Value.slice ao xs.length cap).ownBlock = some k
 says F w := ∃ cs, w.ownsRow 0 t e.size (.slice ao xs.length cap) xs.length cs ∧ Els e F w cs xs
 inn := by rintro F w k ⟨cs, h, _⟩ hk; exact (h.lt k hk).2
 move := by
  rintro F F' w w' ⟨cs, h, h2⟩ hF ha hb
  refine ⟨cs, ⟨h.1, ?_⟩, h2.move hF ha⟩
  rcases h.2 with hn | ⟨g, cap', cur, hv, h3, hg, rest⟩
  ·exact .inl hn
  ·refine .inr ⟨g, cap', cur, hv, h3, (hb.block g (Array.getElem?_eq_some_iff.1 hg).1 ?_).trans hg, rest⟩
   show Value.ownBlock _ = _
   rw [hv]; rfl
def MapR (b : Nat) (f : Int → Option Value) : Res :=
 ⟨fun k => k = b, fun _ w => MapF w b f, fun h hk => by rw [hk]; exact h.lt, fun h _ _ ha => by
  have hl := h.lt
  obtain ⟨es, c, h1, h2⟩ := h
  exact ⟨es, c, (ha.block _ hl rfl).trans h1, h2⟩⟩
def Owns {α : Type} (t : TypeId) (e : Ty α) (l : List (Option Addr × Nat × List α)) : Res where
 on k := ∃ q ∈ l, (Own t e q.1 q.2.1 q.2.2).on k
 says F w := (∀ q ∈ l, (Own t e q.1 q.2.1 q.2.2).says F w) ∧ l.Pairwise fun p q => Apart (Own t e p.1 p.2.1 p.2.2) (Own t e q.1 q.2.1 q.2.2)
 inn := by rintro F w k ⟨h, _⟩ ⟨q, hq, hk⟩; exact Res.inn _ (h q hq) hk
 move := by
  rintro F F' w w' ⟨h, h2⟩ hF ha hb
  exact ⟨fun q hq => Res.move _ (h q hq) hF ha (hb.mono fun k _ hk => ⟨q, hq, hk⟩), h2⟩
abbrev hd {α : Type} (q : Option Addr × Nat × List α) : Option Addr × Nat × Nat := (q.1, q.2.2.length, q.2.1)
class Sub {α : Type} {β : outParam Type} (e : Ty α) (off : Nat) (f : outParam (Ty β)) (get : outParam (α → β)) (put : outParam (β → α → α)) : Prop where
 fits : off + f.size ≤ e.size
 get : ∀ {F : Nat → Prop} {w : World} {cs : List Value} {y : α}, e.rd F w cs y → f.rd F w ((cs.drop off).take f.size) (get y)
 put : ∀ {F : Nat → Prop} {w : World} {cs c2 : List Value} {y : α} {z : β}, e.rd F w cs y → f.rd F w c2 z → e.rd F w (cs.take off ++ (c2 ++ cs.drop (off + f.size))) (put z y)
class SubS {α : Type} {β : outParam Type} (e : Ty α) (off : Nat) (f : outParam (Ty β)) (get : outParam (α → β)) (put : outParam (β → α → α)) : Prop where
 s : Sub e off f get put
theorem Sub.whole {α : Type} (e : Ty α) : Sub e 0 e (fun y => y) (fun z _ => z) where
 fits := by omega
 get h := by rw [List.drop_zero, List.take_of_length_le (by rw [e.len h]; exact Nat.le_refl _)]; exact h
 put h h2 := by
  rw [List.take_zero, List.nil_append, Nat.zero_add, List.drop_of_length_le (by rw [e.len h]; exact Nat.le_refl _), List.append_nil]; exact h2
instance (k : IntKind) : Sub (Ty.num k) 0 (Ty.num k) (fun y => y) (fun z _ => z) := Sub.whole _
instance : Sub Ty.bool 0 Ty.bool (fun y => y) (fun z _ => z) := Sub.whole _
instance {α : Type} (e : Ty α) : Sub (Ty.slice e) 0 (Ty.slice e) (fun y => y) (fun z _ => z) := Sub.whole _
theorem Sub.fst {α β γ : Type} {a : Ty α} {b : Ty β} {off : Nat} {f : Ty γ} {get : α → γ} {put : γ → α → α} (h : Sub a off f get put) : Sub (Ty.pair a b) off f (fun y => get y.1) (fun z y => (put z y.1, y.2)) where
 fits := by have := h.fits; simp only [Ty.pair]; omega
 get := by
  rintro F w cs y ⟨c1, c2, rfl, h1, h2⟩
  have hl := a.len h1
  have hf := h.fits
  rw [List.drop_append_of_le_length (by omega), List.take_append_of_le_length (by simp; omega)]
  exact h.get h1
 put := by
  rintro F w cs c3 y z ⟨c1, c2, rfl, h1, h2⟩ h3
  have hl := a.len h1
  have hf := h.fits
  refine ⟨_, c2, ?_, h.put h1 h3, h2⟩
  rw [List.take_append_of_le_length (by omega), List.drop_append_of_le_length (by omega)]
  simp
theorem Sub.snd {α β γ : Type} {a : Ty α} {b : Ty β} {off : Nat} {f : Ty γ} {get : β → γ} {put : γ → β → β} (h : Sub b off f get put) : Sub (Ty.pair a b) (a.size + off) f (fun y => get y.2) (fun z y => (y.1, put z y.2)) where
 fits := by have := h.fits; simp only [Ty.pair]; omega
 get := by
  rintro F w cs y ⟨c1, c2, rfl, h1, h2⟩
  have hl := a.len h1
  rw [← hl, ← List.drop_drop, List.drop_left]
  exact h.get h2
 put := by
  rintro F w cs c3 y z ⟨c1, c2, rfl, h1, h2⟩ h3
  have hl := a.len h1
  refine ⟨c1, _, ?_, h1, h.put h2 h3⟩
  have e1 : (c1 ++ c2).take (a.size + off) = c1 ++ c2.take off := by rw [← hl, List.take_length_add_append]
  have e2 : (c1 ++ c2).drop (a.size + off + f.size) = c2.drop (off + f.size) := by rw [Nat.add_assoc, ← hl, ← List.drop_drop, List.drop_left]
  rw [e1, e2]; simp
theorem Sub.co {α β γ : Type} {a : Ty α} {g : β → α} {off : Nat} {f : Ty γ} {get : α → γ} {put : γ → α → α} {get' : β → γ} {put' : γ → β → β} (h : Sub a off f get put) (hg : ∀ y, get' y = get (g y)) (hp : ∀ z y, g (put' z y) = put z (g y)) : Sub (Ty.co a g) off f get' put' where
 fits := h.fits
 get h1 := by rw [hg]; exact h.get h1
 put h1 h2 := by show a.rd _ _ _ (g _); rw [hp]; exact h.put h1 h2
class Look (b o' : Nat) (ps : List Pf) (hp : List Res) {α : outParam Type} (e : outParam (Ty α)) (off : outParam Nat) (y : outParam α) : Prop where
 look : ∀ {F : Nat → Prop} {w : World}, AllP F w ps → AllR F w hp → ∃ o cs, o' = o + off ∧ CellsAt w b o cs ∧ e.rd F w cs y ∧ (F b ∨ feet hp b)
class FPt (b o' : Nat) (ps : List Pf) {α : outParam Type} (e : outParam (Ty α)) (o off : outParam Nat) (y : outParam α) : Prop where
 mem : Pt e b o y ∈ ps
 eq : o' = o + off
instance (b o' : Nat) (q : Pf) (ps : List Pf) {α : Type} (e : Ty α) (o off : Nat) (y : α) [h : FPt b o' ps e o off y] : FPt b o' (q :: ps) e o off y := ⟨List.mem_cons_of_mem _ h.mem, h.eq⟩
instance (b o off : Nat) (ps : List Pf) {α : Type} (e : Ty α) (y : α) : FPt b (o + off) (Pt e b o y :: ps) e o off y := ⟨List.mem_cons_self, rfl⟩
instance (b off : Nat) (ps : List Pf) {α : Type} (e : Ty α) (y : α) : FPt b off (Pt e b 0 y :: ps) e 0 off y := ⟨List.mem_cons_self, (Nat.zero_add _).symm⟩
instance (b o : Nat) (ps : List Pf) {α : Type} (e : Ty α) (y : α) : FPt b o (Pt e b o y :: ps) e o 0 y := ⟨List.mem_cons_self, rfl⟩
class FBox (b : Nat) (hp : List Res) (t : outParam TypeId) {α : outParam Type} (e : outParam (Ty α)) (y : outParam α) (rest : outParam (List Res)) : Prop where
 p : hp.Perm (Box t e b y :: rest)
instance (b : Nat) (r : Res) (hp : List Res) (t : TypeId) {α : Type} (e : Ty α) (y : α) (rest : List Res) [h : FBox b hp t e y rest] : FBox b (r :: hp) t e y (r :: rest) := ⟨(h.p.cons r).trans (List.Perm.swap _ _ _)⟩
instance (b : Nat) (hp : List Res) (t : TypeId) {α : Type} (e : Ty α) (y : α) : FBox b (Box t e b y :: hp) t e y hp := ⟨List.Perm.refl _⟩
instance (b off : Nat) (ps : List Pf) (hp : List Res) {α : Type} (t : TypeId) (e : Ty α) (y : α) (rest : List Res) [h : FBox b hp t e y rest] : Look b off ps hp e off y where
 look := fun _ hr => by
  obtain ⟨cs, h1, h2⟩ := hr _ (h.p.mem_iff.2 List.mem_cons_self)
  exact ⟨0, cs, (Nat.zero_add _).symm, fun j c hj => by rw [Nat.zero_add]; exact h1.cell_some hj, h2, .inr ⟨_, h.p.mem_iff.2 List.mem_cons_self, rfl⟩⟩
instance (b o' : Nat) (ps : List Pf) (hp : List Res) {α : Type} (e : Ty α) (o off : Nat) (y : α) [h : FPt b o' ps e o off y] : Look b o' ps hp e off y where
 look := fun hp _ => by
  obtain ⟨h1, _, cs, h3, h4⟩ := hp _ h.mem
  exact ⟨o, cs, h.eq, h3, h4, .inl h1⟩
class FRow (b : Nat) (hp : List Res) (t : outParam TypeId) (vs : outParam (List Value)) (rest : outParam (List Res)) : Prop where
 p : hp.Perm (RowR b t vs :: rest)
instance (b : Nat) (r : Res) (hp : List Res) (t : TypeId) (vs : List Value) (rest : List Res) [h : FRow b hp t vs rest] : FRow b (r :: hp) t vs (r :: rest) := ⟨(h.p.cons r).trans (List.Perm.swap _ _ _)⟩
instance (b : Nat) (hp : List Res) (t : TypeId) (vs : List Value) : FRow b (RowR b t vs :: hp) t vs hp := ⟨List.Perm.refl _⟩
class FOwn (ao : Option Addr) (hp : List Res) (t : outParam TypeId) {α : outParam Type} (e : outParam (Ty α)) (cap : outParam Nat) (xs : outParam (List α)) (rest : outParam (List Res)) : Prop where
 p : hp.Perm (Own t e ao cap xs :: rest)
instance (ao : Option Addr) (r : Res) (hp : List Res) (t : TypeId) {α : Type} (e : Ty α) (cap : Nat) (xs : List α) (rest : List Res) [h : FOwn ao hp t e cap xs rest] : FOwn ao (r :: hp) t e cap xs (r :: rest) := ⟨(h.p.cons r).trans (List.Perm.swap _ _ _)⟩
instance (ao : Option Addr) (hp : List Res) (t : TypeId) {α : Type} (e : Ty α) (cap : Nat) (xs : List α) : FOwn ao (Own t e ao cap xs :: hp) t e cap xs hp := ⟨List.Perm.refl _⟩
class FMap (b : Nat) (hp : List Res) (f : outParam (Int → Option Value)) (rest : outParam (List Res)) : Prop where
 p : hp.Perm (MapR b f :: rest)
instance (b : Nat) (r : Res) (hp : List Res) (f : Int → Option Value) (rest : List Res) [h : FMap b hp f rest] : FMap b (r :: hp) f (r :: rest) := ⟨(h.p.cons r).trans (List.Perm.swap _ _ _)⟩
instance (b : Nat) (hp : List Res) (f : Int → Option Value) : FMap b (MapR b f :: hp) f hp := ⟨List.Perm.refl _⟩
class FSl (ao : Option Addr) (ps : List Pf) {α : outParam Type} (e : outParam (Ty α)) (cap : outParam Nat) (xs : outParam (List α)) : Prop where
 mem : Sl e ao cap xs ∈ ps
instance (ao : Option Addr) (q : Pf) (ps : List Pf) {α : Type} (e : Ty α) (cap : Nat) (xs : List α) [h : FSl ao ps e cap xs] : FSl ao (q :: ps) e cap xs := ⟨List.mem_cons_of_mem _ h.mem⟩
instance (ao : Option Addr) (ps : List Pf) {α : Type} (e : Ty α) (cap : Nat) (xs : List α) : FSl ao (Sl e ao cap xs :: ps) e cap xs := ⟨List.mem_cons_self⟩
class FAg (cs : List Value) (ps : List Pf) {α : outParam Type} (e : outParam (Ty α)) (y : outParam α) : Prop where
 mem : Ag e cs y ∈ ps
instance (cs : List Value) (q : Pf) (ps : List Pf) {α : Type} (e : Ty α) (y : α) [h : FAg cs ps e y] : FAg cs (q :: ps) e y := ⟨List.mem_cons_of_mem _ h.mem⟩
instance (cs : List Value) (ps : List Pf) {α : Type} (e : Ty α) (y : α) : FAg cs (Ag e cs y :: ps) e y := ⟨List.mem_cons_self⟩
inductive InP : Pf → List Pf → Prop where
 | head {p : Pf} {l : List Pf} : InP p (p :: l)
 | tail {p q : Pf} {l : List Pf} : InP p l → InP p (q :: l)
inductive AllIn : List Pf → List Pf → Prop where
 | nil {l : List Pf} : AllIn [] l
 | cons {p : Pf} {m l : List Pf} : InP p l → AllIn m l → AllIn (p :: m) l
inductive TakeR : Res → List Res → List Res → Prop where
 | head {r : Res} {l : List Res} : TakeR r (r :: l) l
 | tail {r s : Res} {l l' : List Res} : TakeR r l l' → TakeR r (s :: l) (s :: l')
inductive SelR : List Res → List Res → List Res → Prop where
 | nil {l : List Res} : SelR [] l l
 | cons {r : Res} {rs l l' l2 : List Res} : TakeR r l l' → SelR rs l' l2 → SelR (r :: rs) l l2
inductive Suf : List Pf → List Pf → Prop where
 | refl {l : List Pf} : Suf l l
 | tail {p : Pf} {m l : List Pf} : Suf m l → Suf m (p :: l)
theorem Suf.sub {m l : List Pf} (h : Suf m l) : ∀ p ∈ m, p ∈ l := by
 induction h with
 | refl => exact fun _ h => h
 | tail _ ih => exact fun p hp => List.mem_cons_of_mem _ (ih p hp)
theorem InP.mem {p : Pf} {l : List Pf} (h : InP p l) : p ∈ l := by
 induction h with
 | head => exact List.mem_cons_self
 | tail _ ih => exact List.mem_cons_of_mem _ ih
theorem AllIn.sub {m l : List Pf} (h : AllIn m l) : ∀ p ∈ m, p ∈ l := by
 induction h with
 | nil => intro p hp; simp at hp
 | cons h1 _ ih =>
  intro q hq
  rcases List.mem_cons.1 hq with rfl | hq
  ·exact h1.mem
  ·exact ih q hq
theorem TakeR.perm {r : Res} {l l' : List Res} (h : TakeR r l l') : l.Perm (r :: l') := by
 induction h with
 | head => exact List.Perm.refl _
 | tail _ ih => exact (ih.cons _).trans (List.Perm.swap _ _ _)
theorem SelR.perm {rs l l' : List Res} (h : SelR rs l l') : l.Perm (rs ++ l') := by
 induction h with
 | nil => exact List.Perm.refl _
 | cons h1 _ ih => exact h1.perm.trans (ih.cons _)
class App {α : Type _} (a l : List α) (m : outParam (List α)) : Prop where
 eq : m = a ++ l
instance {α : Type _} (l : List α) : App [] l l := ⟨rfl⟩
instance {α : Type _} (x : α) (a l m : List α) [h : App a l m] : App (x :: a) l (x :: m) := ⟨by rw [h.eq]; rfl⟩
section rules
variable {P : Program} {n : Nat} {env : Env} {b : Base} {ps : List Pf} {hp : List Res} {Q : Exit → Act → World → Prop} {K : Act → World → Prop}
theorem St.sel {b : Base} {F : Nat → Prop} {ps ps' : List Pf} {hp hp' rest : List Res} {w : World} (h : St b F ps hp w) (h1 : AllIn ps' ps) (h2 : SelR hp' hp rest) : St b F ps' hp' w :=
 (h.perm h2.perm).less h1.sub (List.sublist_append_left _ _)
theorem cl {d : Nat} {f : FuncId} {xs : List Operand} {ts : Array TypeId} {ty : TypeId} {pos : String} {aft : Array Edge} {gd : Option (Nat × Bool)} {vs : List Value} [hf : UFunc P f] {ps1 : List Pf} {hp1 rest : List Res} {σ : Type} {val : σ → Value} {ps' : σ → List Pf} {hp' : σ → List Res}
  {pz : σ → List Pf} {hz : σ → List Res} (hc : Does P f vs ps1 hp1 val ps' hp') (h : ∀ s, G n ((d, val s) :: env) b (pz s) (hz s) K)
  (hxs : evs env xs = some vs := by exact rfl)
  (hps : AllIn ps1 ps := by exact GX.aB)
  (hl : SelR hp1 hp rest := by exact GX.sA)
  (a1 : ∀ s, App (ps' s) ps (pz s) := by intro s; exact inferInstance) (a2 : ∀ s, App (hp' s) rest (hz s) := by intro s; exact inferInstance) (hd : Nat.blt d n = true := by exact rfl) :
  GO P n env b ps hp ⟨some d, .call { callee := .value (.func f), args := xs.toArray, argTypes := ts }, ty, pos, aft, gd⟩ K Q := call hc hxs hps.sub hl.perm hd (fun s => by rw [← (a1 s).eq, ← (a2 s).eq]; exact h s)
section leave
variable {fn : Func} {σ : Type} {val : σ → Value} {ps' : σ → List Pf} {hp' : σ → List Res}
theorem rt0 {rest : List Res} (s : σ) (hr : fn.results = #[] := by exact rfl) (hv : val s = .tuple #[] := by exact rfl)
  (h1 : AllIn (ps' s) ps := by exact GX.aB)
  (h2 : SelR (hp' s) hp rest := by exact GX.sA) : G n env b ps hp (Post P fn b val ps' hp' .ret) :=
 ⟨fun w ⟨F, t⟩ => RX.ret0 hr ⟨s, by rw [hv], F, t.sel h1 h2⟩⟩
theorem en0 {rest : List Res} (s : σ) (hr : fn.results = #[] := by exact rfl) (hv : val s = .tuple #[] := by exact rfl)
  (h1 : AllIn (ps' s) ps := by exact GX.aB)
  (h2 : SelR (hp' s) hp rest := by exact GX.sA) : G n env b ps hp (Post P fn b val ps' hp' .normal) :=
 ⟨fun w ⟨F, t⟩ => RX.end0 hr ⟨s, by rw [hv], F, t.sel h1 h2⟩⟩
theorem rt1 {rest : List Res} {t : Tmp} {v : Value} (s : σ) (hv : val s = v)
  (h1 : AllIn (ps' s) ps := by exact GX.aB)
  (h2 : SelR (hp' s) hp rest := by exact GX.sA)
  (hr : fn.results = #[.tmp t] := by exact rfl) (hk : lk env t = some v := by exact rfl) : G n env b ps hp (Post P fn b val ps' hp' .ret) :=
 ⟨fun w ⟨F, st⟩ => RX.ret1 hr hk ⟨s, by rw [hv], F, st.sel h1 h2⟩⟩
theorem rt2 {rest : List Res} {t u : Tmp} {v x : Value} (s : σ) (hv : val s = .tuple #[v, x])
  (h1 : AllIn (ps' s) ps := by exact GX.aB)
  (h2 : SelR (hp' s) hp rest := by exact GX.sA)
  (hr : fn.results = #[.tmp t, .tmp u] := by exact rfl) (hk : lk env t = some v := by exact rfl) (hk2 : lk env u = some x := by exact rfl) : G n env b ps hp (Post P fn b val ps' hp' .ret) :=
 ⟨fun w ⟨F, st⟩ => RX.ret2 hr hk hk2 ⟨s, by rw [hv], F, st.sel h1 h2⟩⟩
theorem rt3 {rest : List Res} {t u r : Tmp} {v x y : Value} (s : σ) (hv : val s = .tuple #[v, x, y])
  (h1 : AllIn (ps' s) ps := by exact GX.aB)
  (h2 : SelR (hp' s) hp rest := by exact GX.sA)
  (hr : fn.results = #[.tmp t, .tmp u, .tmp r] := by exact rfl) (hk : lk env t = some v := by exact rfl) (hk2 : lk env u = some x := by exact rfl) (hk3 : lk env r = some y := by exact rfl) : G n env b ps hp (Post P fn b val ps' hp' .ret) :=
 ⟨fun w ⟨F, st⟩ => RX.ret3 hr hk hk2 hk3 ⟨s, by rw [hv], F, st.sel h1 h2⟩⟩
end leave
def Again (b : Base) (n : Nat) {σ : Type} (envOf : σ → Env) (ps : List Pf) (psOf : σ → List Pf) (hpOf : σ → List Res) (I : σ → Prop) (μ : σ → Nat) (m : Nat) : Act → World → Prop :=
 fun a w => ∃ s, Has n (envOf s) a ∧ I s ∧ μ s < m ∧ Ok b (psOf s ++ ps) (hpOf s) w
theorem loop {σ : Type} (envOf : σ → Env) (psOf : σ → List Pf) (hpOf : σ → List Res) (I : σ → Prop) (μ : σ → Nat) {c : Code} (s0 : σ) {rest : List Res} (h0 : RX.Sub (envOf s0) env) (hI : I s0)
  {pz : σ → List Pf} (round : ∀ s, I s → G n (envOf s) b (pz s) (hpOf s) (c.wp P (Exit.then (Again b n envOf ps psOf hpOf I μ (μ s)) Q)))
  (h1 : AllIn (psOf s0) ps := by exact GX.aB)
  (h2 : SelR (hpOf s0) hp rest := by exact GX.sA)
  (a1 : ∀ s, App (psOf s) ps (pz s) := by intro s; exact inferInstance) : G n env b ps hp ((Code.loop c).wp P Q) := by
 replace round : ∀ s, I s → G n (envOf s) b (psOf s ++ ps) (hpOf s) (c.wp P (Exit.then (Again b n envOf ps psOf hpOf I μ (μ s)) Q)) := fun s hs => by rw [← (a1 s).eq]; exact round s hs
 constructor
 rintro w ⟨F, t⟩
 have hin : ∀ p ∈ psOf s0 ++ ps, p ∈ ps := fun p hp => (List.mem_append.1 hp).elim (h1.sub p) id
 refine RX.loop envOf (fun s w => I s ∧ Ok b (psOf s ++ ps) (hpOf s) w) μ s0 h0 ⟨hI, F, (t.perm h2.perm).less hin (List.sublist_append_left _ _)⟩ ?_
 rintro s w ⟨hIs, hs⟩
 refine ⟨fun a ha => ?_⟩
 refine wp_mono (((round s hIs).run w hs).run a ha) ?_
 intro e a' w' hq
 cases e <;> first
  | (obtain ⟨s', g1, g2, g3, g4⟩ := hq; exact ⟨s', g1, ⟨g2, g4⟩, g3⟩)
  | exact hq
theorem again {σ : Type} {envOf : σ → Env} {ps0 : List Pf} {psOf : σ → List Pf} {hpOf : σ → List Res} {I : σ → Prop} {μ : σ → Nat} {m : Nat} {rest : List Res} (s : σ) (h0 : RX.Sub (envOf s) env) (hI : I s) (hμ : μ s < m)
  (h1 : AllIn (psOf s) ps := by exact GX.aB)
  (h2 : SelR (hpOf s) hp rest := by exact GX.sA)
  (h3 : Suf ps0 ps := by repeat (first | (with_reducible apply Go.GX.Suf.refl) | apply Go.GX.Suf.tail)) :
  G n env b ps hp (Again b n envOf ps0 psOf hpOf I μ m) := by
 constructor
 rintro w ⟨F, t⟩
 have hin : ∀ p ∈ psOf s ++ ps0, p ∈ ps := fun p hp => (List.mem_append.1 hp).elim (h1.sub p) (fun h => h3.sub p h)
 exact ⟨fun a ha => ⟨s, ha.sub h0.spec, hI, hμ, F, (t.perm h2.perm).less hin (List.sublist_append_left _ _)⟩⟩
def Meet (b : Base) (n : Nat) {σ : Type} (envOf : σ → Env) (ps : List Pf) (psOf : σ → List Pf) (hpOf : σ → List Res) (I : σ → Prop) : Act → World → Prop :=
 fun a w => ∃ s, Has n (envOf s) a ∧ I s ∧ Ok b (psOf s ++ ps) (hpOf s) w
theorem cut {σ : Type} (envOf : σ → Env) (psOf : σ → List Pf) (hpOf : σ → List Res) (I : σ → Prop) {x : Code} (h1 : G n env b ps hp (x.wp P (Exit.then (Meet b n envOf ps psOf hpOf I) Q))) {pz : σ → List Pf} (h2 : ∀ s, I s → G n (envOf s) b (pz s) (hpOf s) K) (a1 : ∀ s, App (psOf s) ps (pz s) := by intro s; exact inferInstance) : G n env b ps hp (x.wp P (Exit.then K Q)) := by
 replace h2 : ∀ s, I s → G n (envOf s) b (psOf s ++ ps) (hpOf s) K := fun s hs => by rw [← (a1 s).eq]; exact h2 s hs
 constructor
 intro w s
 refine ⟨fun a ha => wp_mono ((h1.run w s).run a ha) ?_⟩
 intro e a' w' hq
 cases e <;> first
  | (obtain ⟨s, hs, hI, ho⟩ := hq; exact ((h2 s hI).run w' ho).run a' hs)
  | exact hq
theorem meet {σ : Type} {envOf : σ → Env} {ps0 : List Pf} {psOf : σ → List Pf} {hpOf : σ → List Res} {I : σ → Prop} {rest : List Res} (s : σ) (h0 : RX.Sub (envOf s) env) (hI : I s)
  (h1 : AllIn (psOf s) ps := by exact GX.aB)
  (h2 : SelR (hpOf s) hp rest := by exact GX.sA)
  (h3 : Suf ps0 ps := by repeat (first | (with_reducible apply Go.GX.Suf.refl) | apply Go.GX.Suf.tail)) :
  G n env b ps hp (Meet b n envOf ps0 psOf hpOf I) := by
 constructor
 rintro w ⟨F, t⟩
 have hin : ∀ p ∈ psOf s ++ ps0, p ∈ ps := fun p hp => (List.mem_append.1 hp).elim (h1.sub p) (fun h => h3.sub p h)
 exact ⟨fun a ha => ⟨s, ha.sub h0.spec, hI, F, (t.perm h2.perm).less hin (List.sublist_append_left _ _)⟩⟩
end rules
theorem sA {a b c : List Res} (h : SelR a b c := by first | ((repeat (first | apply Go.GX.SelR.nil | apply Go.GX.SelR.cons | (with_reducible apply Go.GX.TakeR.head) | apply Go.GX.TakeR.tail)); done) | (repeat (first | apply Go.GX.SelR.nil | apply Go.GX.SelR.cons | apply Go.GX.TakeR.head | apply Go.GX.TakeR.tail))) : SelR a b c := h
theorem aA {a b : List Pf} (h : AllIn a b := by ((repeat (first | apply Go.GX.AllIn.nil | apply Go.GX.AllIn.cons | (with_reducible apply Go.GX.InP.head) | apply Go.GX.InP.tail)); done)) : AllIn a b := h
theorem aB {a b : List Pf} (h : AllIn a b := by first | ((repeat (first | apply Go.GX.AllIn.nil | apply Go.GX.AllIn.cons | (with_reducible apply Go.GX.InP.head) | apply Go.GX.InP.tail)); done) | (repeat (first | apply Go.GX.AllIn.nil | apply Go.GX.AllIn.cons | apply Go.GX.InP.head | apply Go.GX.InP.tail))) : AllIn a b := h
end Go.GX
namespace Go.GX
open Go Go.RowKit Go.RR Go.RX
section
variable {P : Program} {n : Nat} {env : Env} {b : Base} {ps : List Pf} {hp : List Res} {Q : Exit → Act → World → Prop} {K : Act → World → Prop}
def RdV (P : Program) (n : Nat) (env : Env) (ps : List Pf) (hp : List Res) (op : Op) (v : Value) : Prop :=
 ∀ (F : Nat → Prop) (w : World), AllP F w ps → AllR F w hp → Soft P n env (fun w' => Agree (fun k => F k ∨ feet hp k) w w') op v
theorem rdv {d : Nat} {p : Op} {ty : TypeId} {pos : String} {aft : Array Edge} {gd : Option (Nat × Bool)} {v : Value} (hr : RdV P n env ps hp p v) (hd : Nat.blt d n = true) (h : G n ((d, v) :: env) b ps hp K) :
  GO P n env b ps hp ⟨some d, p, ty, pos, aft, gd⟩ K Q := by
 constructor
 rintro w ⟨F, s⟩
 exact RX.soft (v := v) (fun a ha o ho w' hw => hr F w s.fs s.rs a ha o ho w' (by subst hw; exact Agree.refl _ _)) hd (h.run w ⟨F, s⟩)
theorem RdV.of_soft {op : Op} {v : Value} (h : ∀ S, Soft P n env S op v) : RdV P n env ps hp op v := fun _ _ _ _ => h _
theorem look_sub {α β : Type} {e : Ty α} {f : Ty β} {bl o' off : Nat} {y : α} {get : α → β} {put : β → α → α} [hl : Look bl o' ps hp e off y] [hs : Sub e off f get put] {F : Nat → Prop} {w : World} (h1 : AllP F w ps) (h2 : AllR F w hp) :
  ∃ c, CellsAt w bl o' c ∧ f.rd F w c (get y) ∧ (F bl ∨ feet hp bl) := by
 obtain ⟨o, cs, rfl, h3, h4, h5⟩ := hl.look h1 h2
 refine ⟨_, fun j c hj => ?_, hs.get h4, h5⟩
 rw [List.getElem?_take] at hj
 split at hj
 ·rw [List.getElem?_drop] at hj
  have := h3 (off + j) c hj
  rwa [← Nat.add_assoc] at this
 ·cases hj
section loads
variable {α : Type} {e : Ty α} {bl o' off : Nat} {y : α} {t : TypeId} {x : Operand}
theorem ld_num {k : IntKind} {get : α → Int} {put : Int → α → α} [UOne P t] [Look bl o' ps hp e off y] [Sub e off (Ty.num k) get put] (hx : ev env x = some (.pointer (some ⟨bl, o', none⟩))) : RdV P n env ps hp (.load t x) (.int k (get y)) := fun F w h1 h2 => by
 obtain ⟨c, h3, h4, h5⟩ := look_sub (e := e) (f := Ty.num k) (bl := bl) (o' := o') (y := y) (get := get) (put := put) h1 h2
 have h4 : c = [.int k (get y)] := h4
 subst h4
 exact RX.load hx (fun w' ha => ha.cell h5 (h3 0 _ rfl))
theorem ld_bool {get : α → Bool} {put : Bool → α → α} [UOne P t] [Look bl o' ps hp e off y] [Sub e off Ty.bool get put] (hx : ev env x = some (.pointer (some ⟨bl, o', none⟩))) : RdV P n env ps hp (.load t x) (.bool (get y)) := fun F w h1 h2 => by
 obtain ⟨c, h3, h4, h5⟩ := look_sub (e := e) (f := Ty.bool) (bl := bl) (o' := o') (y := y) (get := get) (put := put) h1 h2
 have h4 : c = [.bool (get y)] := h4
 subst h4
 exact RX.load hx (fun w' ha => ha.cell h5 (h3 0 _ rfl))
theorem ld_slice {β : Type} {g : Ty β} {get : α → List β} {put : List β → α → α} [UOne P t] [Look bl o' ps hp e off y] [Sub e off (Ty.slice g) get put] (hx : ev env x = some (.pointer (some ⟨bl, o', none⟩))) :
  Rd P n env ps hp (.load t x) (fun i : { i : Option Addr × Nat // (get y).length ≤ i.2 ∧ i.2 ≤ 9223372036854775807 } => .slice i.1.1 (get y).length i.1.2) (fun i => [Sl g i.1.1 i.1.2 (get y)]) := fun F w h1 h2 => by
 obtain ⟨c, h3, h4, h5⟩ := look_sub (e := e) (f := Ty.slice g) (bl := bl) (o' := o') (y := y) (get := get) (put := put) h1 h2
 obtain ⟨ao, cap, rfl, h6, h7, h8⟩ := h4
 refine ⟨⟨(ao, cap), h6, h7⟩, ?_, RX.load hx (fun w' ha => ha.cell h5 (h3 0 _ rfl))⟩
 intro p hp
 rcases List.mem_cons.1 hp with rfl | hp
 ·exact ⟨h6, h7, h8⟩
 ·simp at hp
theorem ld_hdr {get : α → Option Addr × Nat × Nat} {put : Option Addr × Nat × Nat → α → α} [UOne P t] [Look bl o' ps hp e off y] [Sub e off Ty.hdr get put] (hx : ev env x = some (.pointer (some ⟨bl, o', none⟩))) : RdV P n env ps hp (.load t x) (.slice (get y).1 (get y).2.1 (get y).2.2) := fun F w h1 h2 => by
 obtain ⟨c, h3, h4, h5⟩ := look_sub (e := e) (f := Ty.hdr) (bl := bl) (o' := o') (y := y) (get := get) (put := put) h1 h2
 have h4 : c = [.slice (get y).1 (get y).2.1 (get y).2.2] := h4
 subst h4
 exact RX.load hx (fun w' ha => ha.cell h5 (h3 0 _ rfl))
theorem run_loadAgg [h : UAgg P t] {sz : Nat} [hs : USize P t sz] {cs : List Value} {S : World → Prop} (hx : ev env x = some (.pointer (some ⟨bl, o', none⟩))) (hl : cs.length = sz) (hc : ∀ w, S w → CellsAt w bl o' cs) : Soft P n env S (.load t x) (.agg cs.toArray) := fun a ha o' ho w hw => by
 subst hl
 have := run_loadCells_list (P := P) w ⟨bl, _, none⟩ cs (fun j v hj => by rw [Addr.add_lit]; exact hc w hw j v hj)
 simp [execOp, ho, ha.ev hx, Instr.loadAt, Instr.sureAddr, loadVar, h.a, hs.s, this]
theorem ld_agg {β : Type} {f : Ty β} {get : α → β} {put : β → α → α} {sz : Nat} [UAgg P t] [USize P t sz] [Look bl o' ps hp e off y] [hS : SubS e off f get put] (hx : ev env x = some (.pointer (some ⟨bl, o', none⟩))) (hsz : f.size = sz) :
  Rd P n env ps hp (.load t x) (fun cs : List Value => .agg cs.toArray) (fun cs => [Ag f cs (get y)]) := fun F w h1 h2 => by
 have := hS.s
 obtain ⟨c, h3, h4, h5⟩ := look_sub (e := e) (f := f) (bl := bl) (o' := o') (y := y) (get := get) (put := put) h1 h2
 refine ⟨c, ?_, run_loadAgg hx (by rw [f.len h4, hsz]) (fun w' ha => h3.move ha h5)⟩
 intro p hp
 rcases List.mem_cons.1 hp with rfl | hp
 ·exact h4
 ·simp at hp
theorem ld_agg0 {sz : Nat} [UAgg P t] [USize P t sz] [hl : Look bl o' ps hp e 0 y] (hx : ev env x = some (.pointer (some ⟨bl, o', none⟩))) (hsz : e.size = sz) :
  Rd P n env ps hp (.load t x) (fun cs : List Value => .agg cs.toArray) (fun cs => [Ag e cs y]) := fun F w h1 h2 => by
 obtain ⟨o, c, rfl, h3, h4, h5⟩ := hl.look h1 h2
 refine ⟨c, ?_, run_loadAgg hx (by rw [e.len h4, hsz]) (fun w' ha => h3.move ha h5)⟩
 intro p hp
 rcases List.mem_cons.1 hp with rfl | hp
 ·exact h4
 ·simp at hp
theorem ld_row {i : Nat} {v : Value} {te : TypeId} {vs : List Value} {rest : List Res} [UOne P t] [hf : FRow bl hp te vs rest] (hx : ev env x = some (.pointer (some ⟨bl, i, none⟩))) (hv : vs[i]? = some v) : RdV P n env ps hp (.load t x) v := fun F w h1 h2 => by
 have hm := hf.p.mem_iff.2 List.mem_cons_self
 have hr : Row w bl te vs := h2 _ hm
 exact RX.load hx (fun w' ha => ha.cell (.inr ⟨_, hm, rfl⟩) (hr.cell_some hv))
end loads
theorem own_cells {α : Type} {e : Ty α} {g cap : Nat} {xs : List α} {te : TypeId} {rest : List Res} [hf : FOwn (some ⟨g, 0, none⟩) hp te e cap xs rest] {F : Nat → Prop} {w : World} (h2 : AllR F w hp) {i : Nat} {x : α} (hx : xs[i]? = some x) :
  ∃ cs, CellsAt w g (i * e.size) cs ∧ e.rd F w cs x ∧ feet hp g := by
 have hm := hf.p.mem_iff.2 List.mem_cons_self
 obtain ⟨cs, ho, he⟩ : (Own te e (some ⟨g, 0, none⟩) cap xs).says F w := h2 _ hm
 obtain ⟨m, h3, h4⟩ := he.cells hx
 refine ⟨m, fun j c hj => ?_, h3, ⟨_, hm, rfl⟩⟩
 have := ho.cells (g := g) rfl _ _ (h4 j c hj)
 rwa [Addr.add_lit, Nat.zero_add] at this
section own
variable {α : Type} {e : Ty α} {g cap i : Nat} {xs : List α} {x0 : α} {te t : TypeId} {x : Operand} {rest : List Res}
theorem lo_num {k : IntKind} {get : α → Int} {put : Int → α → α} {off : Nat} [UOne P t] [FOwn (some ⟨g, 0, none⟩) hp te e cap xs rest] [hs : Sub e off (Ty.num k) get put] (hx : ev env x = some (.pointer (some ⟨g, i * e.size + off, none⟩))) (hi : xs[i]? = some x0) : RdV P n env ps hp (.load t x) (.int k (get x0)) := fun F w _ h2 => by
 obtain ⟨cs, h3, h4, h5⟩ := own_cells (te := te) (e := e) (g := g) (cap := cap) (rest := rest) h2 hi
 have h6 : (cs.drop off).take 1 = [.int k (get x0)] := hs.get h4
 have h7 : cs[off]? = some (.int k (get x0)) := by
  have := congrArg (·[0]?) h6
  simpa [List.getElem?_take, List.getElem?_drop] using this
 exact RX.load hx (fun w' ha => ha.cell (.inr h5) (h3 off _ h7))
theorem lo_bool {get : α → Bool} {put : Bool → α → α} {off : Nat} [UOne P t] [FOwn (some ⟨g, 0, none⟩) hp te e cap xs rest] [hs : Sub e off Ty.bool get put] (hx : ev env x = some (.pointer (some ⟨g, i * e.size + off, none⟩))) (hi : xs[i]? = some x0) : RdV P n env ps hp (.load t x) (.bool (get x0)) := fun F w _ h2 => by
 obtain ⟨cs, h3, h4, h5⟩ := own_cells (te := te) (e := e) (g := g) (cap := cap) (rest := rest) h2 hi
 have h6 : (cs.drop off).take 1 = [.bool (get x0)] := hs.get h4
 have h7 : cs[off]? = some (.bool (get x0)) := by
  have := congrArg (·[0]?) h6
  simpa [List.getElem?_take, List.getElem?_drop] using this
 exact RX.load hx (fun w' ha => ha.cell (.inr h5) (h3 off _ h7))
theorem lo_hdr {get : α → Option Addr × Nat × Nat} {put : Option Addr × Nat × Nat → α → α} {off : Nat} [UOne P t] [FOwn (some ⟨g, 0, none⟩) hp te e cap xs rest] [hs : Sub e off Ty.hdr get put] (hx : ev env x = some (.pointer (some ⟨g, i * e.size + off, none⟩))) (hi : xs[i]? = some x0) : RdV P n env ps hp (.load t x) (.slice (get x0).1 (get x0).2.1 (get x0).2.2) := fun F w _ h2 => by
 obtain ⟨cs, h3, h4, h5⟩ := own_cells (te := te) (e := e) (g := g) (cap := cap) (rest := rest) h2 hi
 have h6 : (cs.drop off).take 1 = [.slice (get x0).1 (get x0).2.1 (get x0).2.2] := hs.get h4
 have h7 : cs[off]? = some (.slice (get x0).1 (get x0).2.1 (get x0).2.2) := by
  have := congrArg (·[0]?) h6
  simpa [List.getElem?_take, List.getElem?_drop] using this
 exact RX.load hx (fun w' ha => ha.cell (.inr h5) (h3 off _ h7))
theorem lo_slice {β : Type} {f : Ty β} {get : α → List β} {put : List β → α → α} {off : Nat} [UOne P t] [FOwn (some ⟨g, 0, none⟩) hp te e cap xs rest] [hs : Sub e off (Ty.slice f) get put] (hx : ev env x = some (.pointer (some ⟨g, i * e.size + off, none⟩))) (hi : xs[i]? = some x0) :
  Rd P n env ps hp (.load t x) (fun i : { i : Option Addr × Nat // (get x0).length ≤ i.2 ∧ i.2 ≤ 9223372036854775807 } => .slice i.1.1 (get x0).length i.1.2) (fun i => [Sl f i.1.1 i.1.2 (get x0)]) := fun F w _ h2 => by
 obtain ⟨cs, h3, h4, h5⟩ := own_cells (te := te) (e := e) (g := g) (cap := cap) (rest := rest) h2 hi
 obtain ⟨ao, cap', h6, h8, h9, h10⟩ := hs.get h4
 have h6 : (cs.drop off).take 1 = [.slice ao (get x0).length cap'] := h6
 have h7 : cs[off]? = some (.slice ao (get x0).length cap') := by
  have := congrArg (·[0]?) h6
  simpa [List.getElem?_take, List.getElem?_drop] using this
 refine ⟨⟨(ao, cap'), h8, h9⟩, ?_, RX.load hx (fun w' ha => ha.cell (.inr h5) (h3 off _ h7))⟩
 intro p hp
 rcases List.mem_cons.1 hp with rfl | hp
 ·exact ⟨h8, h9, h10⟩
 ·simp at hp
theorem lo_agg {sz : Nat} [UAgg P t] [USize P t sz] [FOwn (some ⟨g, 0, none⟩) hp te e cap xs rest] (hx : ev env x = some (.pointer (some ⟨g, i * e.size, none⟩))) (hi : xs[i]? = some x0) (hsz : e.size = sz) :
  Rd P n env ps hp (.load t x) (fun cs : List Value => .agg cs.toArray) (fun cs => [Ag e cs x0]) := fun F w _ h2 => by
 obtain ⟨cs, h3, h4, h5⟩ := own_cells (te := te) (e := e) (g := g) (cap := cap) (rest := rest) h2 hi
 refine ⟨cs, ?_, run_loadAgg hx (by rw [e.len h4, hsz]) (fun w' ha => h3.move ha (.inr h5))⟩
 intro p hp
 rcases List.mem_cons.1 hp with rfl | hp
 ·exact h4
 ·simp at hp
end own
theorem ix_sl {α : Type} {e : Ty α} {ao : Option Addr} {cap cap' : Nat} {xs : List α} {x0 : α} {t et : TypeId} {x y : Operand} {k : IntKind} {i : Int} {m : Nat} {sz : Nat} [USlice P t et] [USize P et sz] [hf : FSl ao ps e cap xs] (hx : ev env x = some (.slice ao m cap')) (hy : ev env y = some (.int k i))
  (hi : ∃ j : Nat, i = (j : Int) ∧ xs[j]? = some x0) (hm : m = xs.length) (hsz : e.size = sz) :
  Rd P n env ps hp (.indexAddr t x y) (fun i : Nat × Nat => .pointer (some ⟨i.1, i.2, none⟩)) (fun i => [Pt e i.1 i.2 x0]) := fun F w h1 h2 => by
 subst hm; subst hsz
 obtain ⟨j, rfl, hj⟩ := hi
 obtain ⟨_, _, hs⟩ : (Sl e ao cap xs).says F w := h1 _ hf.mem
 obtain ⟨b, o, cs, rfl, h3, h4, h5, h6⟩ := hs j x0 hj
 have hlt : j < xs.length := (List.getElem?_eq_some_iff.1 hj).1
 refine ⟨(b, o + j * e.size), ?_, RX.indexAddrS hx hy hlt⟩
 intro p hp
 rcases List.mem_cons.1 hp with rfl | hp
 ·exact ⟨h3, h4, cs, h5, h6⟩
 ·simp at hp
theorem ix_own {α : Type} {e : Ty α} {g cap cap' : Nat} {xs : List α} {x0 : α} {t et te : TypeId} {x y : Operand} {k : IntKind} {i : Int} {m j : Nat} {sz : Nat} {rest : List Res} [USlice P t et] [USize P et sz] [FOwn (some ⟨g, 0, none⟩) hp te e cap xs rest] (hx : ev env x = some (.slice (some ⟨g, 0, none⟩) m cap')) (hy : ev env y = some (.int k i))
  (hi : i = (j : Int) ∧ xs[j]? = some x0) (hm : m = xs.length) : RdV P n env ps hp (.indexAddr t x y) (.pointer (some ⟨g, j * sz, none⟩)) := fun F w h1 h2 => by
 subst hm
 obtain ⟨rfl, hj⟩ := hi
 have hlt : j < xs.length := (List.getElem?_eq_some_iff.1 hj).1
 have := RX.indexAddrS (P := P) (n := n) (env := env) (S := fun w' => Agree (fun k => F k ∨ feet hp k) w w') (t := t) hx hy hlt
 simpa using this
theorem sl_mid {α : Type} {e : Ty α} {F : Nat → Prop} {w : World} {ao : Option Addr} {xs : List α} (h : SlAt e F w ao xs) (l m : Nat) : SlAt e F w (ao.map (·.add (l * e.size))) ((xs.drop l).take m) := fun i x hx => by
 rw [List.getElem?_take] at hx
 split at hx
 ·rw [List.getElem?_drop] at hx
  obtain ⟨b, o, cs, rfl, h2, h3, h4, h5⟩ := h (l + i) x hx
  refine ⟨b, o + l * e.size, cs, by rw [Option.map_some, Addr.add_lit], h2, h3, ?_, h5⟩
  rw [show o + l * e.size + i * e.size = o + (l + i) * e.size by rw [Nat.add_mul]; omega]; exact h4
 ·cases hx
theorem sliceBound_run {k : IntKind} {i : Int} {y : Nat} {c : BoundsCode} {w : World} (h : 0 ≤ i ∧ i ≤ y) : (Instr.sliceBound (.int k i) y c).run P w = .ok i.toNat w := by
 simp [Instr.sliceBound, asIntOf, h]
section cutting
variable {α : Type} {e : Ty α} {ao : Option Addr} {cap m : Nat} {xs : List α} {t et : TypeId} {x y z : Operand} {k : IntKind} {i j : Int} {sz : Nat}
theorem mk_sl {F : Nat → Prop} {w : World} {ao' : Option Addr} {cap' : Nat} {ys : List α} (h1 : ys.length ≤ cap') (h2 : cap' ≤ 9223372036854775807) (h3 : SlAt e F w ao' ys) : AllP F w [Sl e ao' cap' ys] := by
 intro p hp
 rcases List.mem_cons.1 hp with rfl | hp
 ·exact ⟨h1, h2, h3⟩
 ·simp at hp
theorem nil_at {F : Nat → Prop} {w : World} {ao' : Option Addr} : SlAt e F w ao' [] := fun i x hx => by simp at hx
theorem sl_hi [ht : USlice P t et] [hs : USize P et sz] [hf : FSl ao ps e cap xs] (hx : ev env x = some (.slice ao m cap)) (hy : ev env y = some (.int k j)) (hm : m = xs.length) (hsz : e.size = sz) (hj : 0 ≤ j ∧ j ≤ m) :
  Rd P n env ps hp (.slice t x none (some y) none) (fun i : Option Addr => .slice i (xs.take j.toNat).length cap) (fun i => [Sl e i cap (xs.take j.toNat)]) := fun F w h1 h2 => by
 subst hm; subst hsz
 obtain ⟨hc, hb, hsl⟩ : (Sl e ao cap xs).says F w := h1 _ hf.mem
 have hl : (xs.take j.toNat).length = j.toNat := by rw [List.length_take]; omega
 refine ⟨if cap = 0 then ao else ao.map (·.add (0 * e.size)), mk_sl (by omega) hb ?_, fun a ha o ho w' _ => ?_⟩
 ·have := sl_mid hsl 0 j.toNat
  rw [List.drop_zero] at this
  split
  ·have : xs = [] := List.length_eq_zero_iff.1 (by omega)
   subst this; simp; exact nil_at
  ·exact this
 ·have hb1 := sliceBound_run (P := P) (k := k) (i := j) (y := cap) (c := .sliceAcap) (w := w') ⟨hj.1, by omega⟩
  simp [execOp, ho, ha.ev hx, ha.ev hy, Instr.sliceAt, Instr.slice, run_underlying ht.u, Instr.sliceBounds, hb1, hs.s, hl]
theorem sl_lo [ht : USlice P t et] [hs : USize P et sz] [hf : FSl ao ps e cap xs] (hx : ev env x = some (.slice ao m cap)) (hy : ev env y = some (.int k i)) (hm : m = xs.length) (hsz : e.size = sz) (hi : 0 ≤ i ∧ i ≤ m) :
  Rd P n env ps hp (.slice t x (some y) none none) (fun q : Option Addr => .slice q (xs.drop i.toNat).length (cap - i.toNat)) (fun q => [Sl e q (cap - i.toNat) (xs.drop i.toNat)]) := fun F w h1 h2 => by
 subst hm; subst hsz
 obtain ⟨hc, hb, hsl⟩ : (Sl e ao cap xs).says F w := h1 _ hf.mem
 have hl : (xs.drop i.toNat).length = xs.length - i.toNat := by rw [List.length_drop]
 refine ⟨if cap = i.toNat then ao else ao.map (·.add (i.toNat * e.size)), mk_sl (by omega) (by omega) ?_, fun a ha o ho w' _ => ?_⟩
 ·have := sl_mid hsl i.toNat (xs.length)
  rw [List.take_of_length_le (by rw [hl]; omega)] at this
  split
  ·have : xs.drop i.toNat = [] := List.length_eq_zero_iff.1 (by omega)
   rw [this]; exact nil_at
  ·exact this
 ·have hb1 := sliceBound_run (P := P) (k := k) (i := i) (y := xs.length) (c := .sliceB) (w := w') ⟨hi.1, by omega⟩
  simp [execOp, ho, ha.ev hx, ha.ev hy, Instr.sliceAt, Instr.slice, run_underlying ht.u, Instr.sliceBounds, hb1, hs.s, hl]
end cutting
end
end Go.GX
