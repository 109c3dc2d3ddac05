import Derived.Test.YtkagjpkgboeaiaaR2
import Derived.Test.YtkagjpkgboeaiaaR9
import Derived.Test.YtkagjpkgboeaiaaR10
import Derived.ProofKit
import Derived.Deep.Slices
import Derived.OpenShut
import Derived.Test.YtkagjpkgboeaiaaRows
/- Sets of small numbers as words of 64 bits, plainly. No program in sight. -/
namespace Go.SetM
open Go Go.GX Go.NumM

theorem ofI (z : Nat) : BitVec.ofInt 64 (z : Int) = BitVec.ofNat 64 z := by apply BitVec.eq_of_toNat_eq; simp
theorem orW {a c : Nat} (ha : a < 18446744073709551616) (hc : c < 18446744073709551616) : bOr .u64 (a : Int) (c : Int) = ((a ||| c : Nat) : Int) ∧ a ||| c < 18446744073709551616 := by
  have e : bOr .u64 (a : Int) (c : Int) = IntKind.u64.wrap ((BitVec.ofInt 64 (a : Int) ||| BitVec.ofInt 64 (c : Int)).toNat : Int) := rfl
  have hlt : a ||| c < 2 ^ 64 := Nat.or_lt_two_pow (by omega) (by omega)
  refine ⟨?_, by omega⟩
  rw [e, ofI, ofI, BitVec.toNat_or, BitVec.toNat_ofNat, BitVec.toNat_ofNat, Nat.mod_eq_of_lt (by omega), Nat.mod_eq_of_lt (by omega), wrap_u64_nat (by omega)]
theorem notW {a c : Nat} (ha : a < 18446744073709551616) (hc : c < 18446744073709551616) : ∃ z : Nat, bNot .u64 (a : Int) (c : Int) = (z : Int) ∧ z < 18446744073709551616 ∧ ∀ i, i < 64 → z.testBit i = (a.testBit i && !c.testBit i) := by
  have e : bNot .u64 (a : Int) (c : Int) = IntKind.u64.wrap ((BitVec.ofInt 64 (a : Int) &&& ~~~(BitVec.ofInt 64 (c : Int))).toNat : Int) := rfl
  have hlt := (BitVec.ofNat 64 a &&& ~~~(BitVec.ofNat 64 c)).isLt
  refine ⟨(BitVec.ofNat 64 a &&& ~~~(BitVec.ofNat 64 c)).toNat, ?_, by omega, fun i hi => ?_⟩
  · rw [e, ofI, ofI, wrap_u64_nat (by omega)]
  · rw [BitVec.testBit_toNat, BitVec.getLsbD_and, BitVec.getLsbD_not, BitVec.getLsbD_ofNat, BitVec.getLsbD_ofNat]
    simp [hi]
theorem and1W {z : Nat} (h : z < 18446744073709551616) : bAnd .u64 (z : Int) 1 = ((z % 2 : Nat) : Int) := by
  have e : bAnd .u64 (z : Int) 1 = IntKind.u64.wrap ((BitVec.ofInt 64 (z : Int) &&& BitVec.ofInt 64 ((1 : Nat) : Int)).toNat : Int) := rfl
  rw [e, ofI, ofI, BitVec.toNat_and, BitVec.toNat_ofNat, BitVec.toNat_ofNat, Nat.mod_eq_of_lt (by omega), Nat.mod_eq_of_lt (by omega), Nat.and_one_is_mod, wrap_u64_nat (by omega)]
theorem shlW {i : Nat} (hi : i < 64) : shlV .u64 1 (i : Int) = ((2 ^ i : Nat) : Int) ∧ 2 ^ i < 18446744073709551616 := by
  have hlt : 2 ^ i < 2 ^ 64 := Nat.pow_lt_pow_right (by omega) hi
  have e : min (i : Int).toNat IntKind.u64.bits = i := by rw [Int.toNat_natCast]; exact Nat.min_eq_left (by show i ≤ 64; omega)
  refine ⟨?_, by omega⟩
  unfold shlV
  rw [e]
  have : (1 : Int) * 2 ^ i = ((2 ^ i : Nat) : Int) := by simp
  rw [this, wrap_u64_nat (by omega)]

def GoodS (x : List Int) : Prop := x.length = 63 ∧ ∀ c ∈ x, 0 ≤ c ∧ c < 18446744073709551616
def wd (x : List Int) (j : Nat) : Nat := (x.getD j 0).toNat
def bit (x : List Int) (k : Nat) : Bool := (wd x (k / 64)).testBit (k % 64)
def has (x : List Int) (v : Int) : Prop := 0 ≤ v ∧ v < 4032 ∧ bit x v.toNat = true
theorem GoodS.get {x : List Int} (h : GoodS x) {j : Nat} (hj : j < 63) : x[j]? = some ((wd x j : Nat) : Int) ∧ wd x j < 18446744073709551616 := by
  have hl : j < x.length := by rw [h.1]; exact hj
  have hm := h.2 x[j] (List.getElem_mem hl)
  have e : wd x j = x[j].toNat := by unfold wd; rw [List.getD_eq_getElem?_getD, List.getElem?_eq_getElem hl]; rfl
  rw [e, List.getElem?_eq_getElem hl]
  exact ⟨by rw [Int.toNat_of_nonneg hm.1], by omega⟩
def none63 : List Int := List.replicate 63 0
def addS (x : List Int) (k : Nat) : List Int := x.set (k / 64) (bOr .u64 (wd x (k / 64) : Int) (shlV .u64 1 ((k % 64 : Nat) : Int)))
def dropS (x : List Int) (k : Nat) : List Int := x.set (k / 64) (bNot .u64 (wd x (k / 64) : Int) (shlV .u64 1 ((k % 64 : Nat) : Int)))
/-- The first i words joined. -/
def mix (x y : List Int) (i : Nat) : List Int := (List.range 63).map fun j => ((if j < i then wd x j ||| wd y j else wd x j : Nat) : Int)
def orS (x y : List Int) : List Int := mix x y 63
/-- The numbers below k, rising. -/
def lst (x : List Int) (k : Nat) : List Int := ((List.range k).filter fun n => bit x n).map fun n => ((n : Nat) : Int)
end Go.SetM

/- Words and lists of sites, plainly. No program in sight. -/
namespace Go.SolM
open Go Go.GX Go.NumM Go.SetM Go.RiseM Go.Api
/-- The sites of a word, from number i on. -/
def bitsOf (z : Nat) (i : Nat) : List Int := ((List.range i).filter fun s => z.testBit s).map fun s : Nat => (s : Int)
theorem bitsOf_succ (z i : Nat) : bitsOf z (i + 1) = bitsOf z i ++ (if z.testBit i = true then [(i : Int)] else []) := by
  unfold bitsOf
  rw [List.range_succ, List.filter_append, List.map_append]
  congr 1
  by_cases h : z.testBit i = true
  · simp [h]
  · simp [h]
theorem bitsOf_len (z i : Nat) : (bitsOf z i).length ≤ i := by
  unfold bitsOf
  rw [List.length_map]
  have := List.length_filter_le (fun s => z.testBit s) (List.range i)
  rwa [List.length_range] at this
def sitesOf (z : Nat) : List Int := bitsOf z 64
theorem sites_mem {z : Nat} {x : Int} (hz : z < 18446744073709551616) : x ∈ sitesOf z ↔ ∃ s : Nat, x = s ∧ z.testBit s = true := by
  unfold sitesOf bitsOf
  simp only [List.mem_map, List.mem_filter, List.mem_range]
  constructor
  · rintro ⟨s, ⟨_, h⟩, rfl⟩; exact ⟨s, rfl, h⟩
  · rintro ⟨s, rfl, h⟩
    refine ⟨s, ⟨Classical.byContradiction fun h2 => ?_, h⟩, rfl⟩
    rw [Nat.testBit_lt_two_pow (Nat.lt_of_lt_of_le hz (Nat.pow_le_pow_right (n := 2) (i := 64) (by omega) (by omega)))] at h
    cases h
theorem sites_rise (z : Nat) : Rise (sitesOf z) := range_rise 64
theorem sites_len (z : Nat) : (sitesOf z).length ≤ 64 := bitsOf_len z 64
/-- Where nothing is left. -/
theorem bits_end {z i : Nat} (hi : i ≤ 64) (hz : z < 18446744073709551616) (h : z / 2 ^ i = 0) : bitsOf z i = sitesOf z := by
  refine Rise.eq (range_rise i) (range_rise 64) fun x => ?_
  rw [show x ∈ sitesOf z ↔ _ from sites_mem hz]
  unfold bitsOf
  simp only [List.mem_map, List.mem_filter, List.mem_range]
  constructor
  · rintro ⟨s, ⟨_, h⟩, rfl⟩; exact ⟨s, rfl, h⟩
  · rintro ⟨s, rfl, hs⟩
    refine ⟨s, ⟨Classical.byContradiction fun h2 => ?_, hs⟩, rfl⟩
    have hlt : z < 2 ^ i := Nat.lt_of_div_eq_zero (Nat.two_pow_pos i) h
    rw [Nat.testBit_lt_two_pow (Nat.lt_of_lt_of_le hlt (Nat.pow_le_pow_right (by omega) (by omega)))] at hs
    cases hs
theorem bit_mod (z i : Nat) : (z / 2 ^ i) % 2 = 1 ↔ z.testBit i = true := by
  rw [Nat.testBit_eq_decide_div_mod_eq, decide_eq_true_iff]
theorem div_pow_zero {z i : Nat} (hi : 64 ≤ i) (hz : z < 18446744073709551616) : z / 2 ^ i = 0 := Nat.div_eq_of_lt (Nat.lt_of_lt_of_le hz (Nat.pow_le_pow_right (n := 2) (i := 64) (by omega) hi))
theorem sites_in {d : Dim} {l : List Con} {n z : Nat} (hz : z < 18446744073709551616) (h : ∀ s, z.testBit s = true ↔ In d l n s) (hl : ∀ c ∈ l, May d c) : sitesOf z = listOf d l n := by
  refine Rise.eq (sites_rise z) (listOf_rise d l n) fun x => ?_
  rw [sites_mem hz, listOf_mem]
  constructor
  · rintro ⟨s, rfl, h1⟩; exact ⟨s, rfl, (in_lt hl ((h s).1 h1)).2, (h s).1 h1⟩
  · rintro ⟨s, rfl, _, h1⟩; exact ⟨s, rfl, (h s).2 h1⟩
end Go.SolM

/- Bools as values: small helps. No program in sight. -/
namespace Go.Proofs.Ytkagjpkgboeaiaa
open Go
theorem vY {P : Prop} [Decidable P] (h : P) : Value.bool (decide P) = .bool true := by rw [decide_eq_true h]
theorem vN {P : Prop} [Decidable P] (h : ¬ P) : Value.bool (decide P) = .bool false := by rw [decide_eq_false h]
theorem vI {P Q : Prop} [Decidable P] [Decidable Q] (h : P ↔ Q) : Value.bool (decide P) = .bool (decide Q) := by rw [decide_eq_decide.2 h]
end Go.Proofs.Ytkagjpkgboeaiaa

/- From the form's own reading of what comes in to the readings of this walk. No program in sight. -/
namespace Go.GX
open Go Go.RowKit Go.RR Go.RX Go.Api

section
variable {P : Program}
/-- What the form reads at type t reads so, and is such. -/
def Conv (P : Program) (t : TypeId) {α : Type} (e : Ty α) (ok : α → Prop) : Prop :=
  ∀ {H : Type} (enc : TypeId × Value → H) (w : World) (spare : Nat → Bool) (held : Bool) (fuel : Nat) (cs : List Value) (x : DataW H × List MemPlace),
    DataW.trod enc P w 0 spare held fuel t cs = some x → ∃ y, e.rd (fun k => k < w.heap.size) w cs y ∧ ok y

theorem wf_i64 {a : Int} (h : (Lit.int .i64 a).wf = true) : -9223372036854775808 ≤ a ∧ a ≤ 9223372036854775807 := by
  simp only [Lit.wf, Bool.and_eq_true, decide_eq_true_eq] at h
  exact h
theorem conv_int {t : TypeId} (h : P.underlying t = some (.int .i64)) : Conv P t Ty.int I64 := by
  intro H enc w spare held fuel cs x hx
  obtain ⟨n, rfl, _, hw⟩ := DataW.trod_int h hx
  exact ⟨n, rfl, wf_i64 hw⟩
theorem choose_list {α : Type} {p : Nat → α → Prop} : ∀ (n : Nat), (∀ i, i < n → ∃ x, p i x) → ∃ l : List α, l.length = n ∧ ∀ (i : Nat) x, l[i]? = some x → p i x
  | 0, _ => ⟨[], rfl, by simp⟩
  | n + 1, h => by
    obtain ⟨l, hl, hp⟩ := choose_list n (fun i hi => h i (by omega))
    obtain ⟨x, hx⟩ := h n (by omega)
    refine ⟨l ++ [x], by simp [hl], fun i y hy => ?_⟩
    rcases Nat.lt_or_ge i l.length with hi | hi
    · rw [List.getElem?_append_left hi] at hy; exact hp i y hy
    · rw [List.getElem?_append_right hi] at hy
      rcases hq : i - l.length with _ | q
      · rw [hq] at hy; simp at hy; subst hy
        rw [show i = n by omega]; exact hx
      · rw [hq] at hy; simp at hy

theorem conv_slice {t et : TypeId} {α : Type} {e : Ty α} {ok : α → Prop} (ht : P.underlying t = some (.slice et)) (hs : P.cellsOf et = e.size) (hp : 0 < e.size) (he : Conv P et e ok) : Conv P t (Ty.slice e) (fun l => ∀ x ∈ l, ok x) := by
  intro H enc w spare held fuel cs x hx
  rcases Go.Deep.open_slice ht hx with ⟨rfl, _⟩ | ⟨a, len, cap, m, n, D, Pl, rfl, _, hl, hm, hmm, _, hel⟩
  · exact ⟨[], ⟨none, 0, rfl, by simp, by omega, fun i x hx => by simp at hx⟩, by simp⟩
  · have hml : len ≤ m := by rw [hmm]; split <;> omega
    obtain ⟨l, hll, hlp⟩ := choose_list (α := α × List Value) (p := fun i q => w.cells? 0 (a.add (i * e.size)) e.size = some q.2 ∧ e.rd (fun k => k < w.heap.size) w q.2 q.1 ∧ ok q.1) len (fun i hi => by
      obtain ⟨cs', h1, h2⟩ := hel i (by omega)
      obtain ⟨y, hy⟩ := he enc w spare held n cs' _ h2
      rw [hs] at h1
      exact ⟨(y, cs'), h1, hy⟩)
    refine ⟨l.map (·.1), ⟨some a, cap, by simp [hll], by simp [hll, hl], by simp only [maxLen] at hm; omega, fun i x hx => ?_⟩, fun x hx => ?_⟩
    · rw [List.getElem?_map] at hx
      obtain ⟨⟨y, cs'⟩, hq, rfl⟩ := Option.map_eq_some_iff.1 hx
      obtain ⟨h1, h2, _⟩ := hlp i _ hq
      dsimp only at h1 h2 ⊢
      have hi : i < len := by have := (List.getElem?_eq_some_iff.1 hq).1; omega
      obtain ⟨_, hlen, hc⟩ := World.cells?_some h1
      have hspot : a.spot = none := by
        obtain ⟨cs0, g1, g2⟩ := hel 0 (by omega)
        rw [hs] at g1
        obtain ⟨_, g3, g4⟩ := World.cells?_some g1
        have := g4 0 (by omega)
        simp only [Nat.zero_mul, Addr.add_zero'] at this
        have g5 : cs0[0]? = some cs0[0] := List.getElem?_eq_getElem (by omega)
        cases hsp : a.spot with
        | none => rfl
        | some q =>
          exfalso
          have h6 : w.cell? a = some cs0[0] := by simpa [g5] using this
          unfold World.cell? at h6
          split at h6
          · simp [hsp] at h6
          · cases h6
      obtain ⟨b, o, sp⟩ := a
      dsimp only at hspot
      subst hspot
      have hcell : CellsAt w b (o + i * e.size) cs' := fun j c hj => by
        have hjl : j < e.size := by have := (List.getElem?_eq_some_iff.1 hj).1; omega
        have := hc j (by omega)
        rw [Addr.add_lit, Addr.add_lit] at this
        rw [this, hj]
      have h0 : cs'[0]? = some cs'[0] := List.getElem?_eq_getElem (by omega)
      have hb := cell_lt (hcell 0 _ h0)
      exact ⟨b, o, cs', rfl, hb, hb, hcell, h2⟩
    · obtain ⟨q, hq, rfl⟩ := List.mem_map.1 hx
      obtain ⟨i, hi⟩ := List.getElem?_of_mem hq
      exact (hlp i q hi).2.2

/-- The fields of a struct, one after the other. -/
def ConvF (P : Program) (fs : List Field) (off : Nat) {α : Type} (r : Ty α) (ok : α → Prop) : Prop :=
  ∀ {H : Type} (enc : TypeId × Value → H) (w : World) (spare : Nat → Bool) (held : Bool) (fuel : Nat) (cs : List Value) (xs : List (DataW H × List MemPlace)),
    off + r.size = cs.length → fs.mapM (fun f => DataW.trod enc P w 0 spare held fuel f.type ((cs.drop f.offset).take (P.cellsOf f.type))) = some xs → ∃ y, r.rd (fun k => k < w.heap.size) w (cs.drop off) y ∧ ok y
theorem convF_nil {off : Nat} : ConvF P [] off Ty.unit (fun _ => True) := by
  intro H enc w spare held fuel cs xs hl _
  exact ⟨(), by simp [Ty.unit] at hl ⊢; omega, trivial⟩
theorem convF_cons {f : Field} {fs : List Field} {off : Nat} {α β : Type} {r : Ty α} {s : Ty β} {ok1 : α → Prop} {ok2 : β → Prop} (ho : f.offset = off) (hs : P.cellsOf f.type = r.size) (h1 : Conv P f.type r ok1) (h2 : ConvF P fs (off + r.size) s ok2) : ConvF P (f :: fs) off (Ty.pair r s) (fun x => ok1 x.1 ∧ ok2 x.2) := by
  intro H enc w spare held fuel cs xs hl hx
  rw [List.mapM_cons] at hx
  cases hy : DataW.trod enc P w 0 spare held fuel f.type ((cs.drop f.offset).take (P.cellsOf f.type)) with
  | none => rw [hy] at hx; simp at hx
  | some y =>
    rw [hy] at hx
    cases hz : fs.mapM (fun f => DataW.trod enc P w 0 spare held fuel f.type ((cs.drop f.offset).take (P.cellsOf f.type))) with
    | none => rw [hz] at hx; simp at hx
    | some zs =>
      obtain ⟨u, hu, ou⟩ := h1 enc w spare held fuel _ _ hy
      obtain ⟨v, hv, ov⟩ := h2 enc w spare held fuel cs zs (by simp only [Ty.pair] at hl; omega) hz
      rw [ho, hs] at hu
      refine ⟨(u, v), ⟨_, _, ?_, hu, hv⟩, ou, ov⟩
      rw [← List.drop_drop, List.take_append_drop]
theorem conv_struct {t : TypeId} {fs : Array Field} {l : List Field} {α : Type} {r : Ty α} {ok : α → Prop} (ht : P.underlying t = some (.struct fs)) (hl : fs.toList = l) (hs : P.cellsOf t = r.size) (h : ConvF P l 0 r ok) : Conv P t r ok := by
  intro H enc w spare held fuel cs x hx
  subst hl
  cases fuel with
  | zero => simp [DataW.trod] at hx
  | succ n =>
    unfold DataW.trod at hx
    rw [ht] at hx
    simp only at hx
    split at hx
    · rename_i hl
      obtain ⟨xs, hxs, _⟩ := Option.map_eq_some_iff.1 hx
      have := h enc w spare held n cs xs (by omega) hxs
      simpa using this
    · cases hx
theorem conv_co {t : TypeId} {α β : Type} {r : Ty α} {ok : α → Prop} {g : β → α} {ok' : β → Prop} (inv : α → β) (h1 : ∀ x, g (inv x) = x) (h2 : ∀ x, ok x → ok' (inv x)) (h : Conv P t r ok) : Conv P t (Ty.co r g) ok' := by
  intro H enc w spare held fuel cs x hx
  obtain ⟨y, hy, ho⟩ := h enc w spare held fuel cs x hx
  exact ⟨inv y, by show r.rd _ _ _ (g (inv y)); rw [h1]; exact hy, h2 y ho⟩

/-! From a walk of a law to what its row asks. -/
theorem Does.calls {f : FuncId} {args : List Value} {ps : List Pf} (h : Does P f args ps [] (fun _ : Unit => .bool true) (fun _ => []) (fun _ => [])) (w : World) (hps : AllP (fun k => k < w.heap.size) w ps) :
    Calls P f args.toArray w fun e w' => e = .returned (.bool true) ∧ Upd (fun _ => False) w w' := by
  refine (h.run w (fun k => k < w.heap.size) ⟨w, fun _ => False, fun k => k < w.heap.size⟩ ⟨Upd.refl _ _, fun _ h => h, fun k h _ => .inl h, hps, no_r, by simp, by simp, by simp⟩).mono ?_
  rintro e w' ⟨_, he, F', s⟩
  exact ⟨he, s.upd.mono (fun k _ hk => absurd hk feet_nil)⟩
theorem all_nil {F : Nat → Prop} {w : World} : AllP F w [] := no_p
theorem all_cons {F : Nat → Prop} {w : World} {p : Pf} {l : List Pf} (h : p.says F w) (hl : AllP F w l) : AllP F w (p :: l) := fun q hq => by
  rcases List.mem_cons.1 hq with rfl | hq
  · exact h
  · exact hl q hq
/-- A slice that comes in. -/
theorem sl_in {F : Nat → Prop} {w : World} {α : Type} {e : Ty α} {s : Option Addr} {k c : Nat} {x : List α} (z : (Ty.slice e).rd F w (Value.slice s k c).cells.toList x) : k = x.length ∧ (Sl e s c x).says F w := by
  obtain ⟨ao, cap, he, h1, h2, h3⟩ := z
  have : [Value.slice s k c] = [Value.slice ao x.length cap] := he
  simp at this
  obtain ⟨rfl, rfl, rfl⟩ := this
  exact ⟨rfl, h1, h2, h3⟩
end
end Go.GX

/- By program (wip/rx.py types): the facts on this translation's types and functions that the rules ask for. -/
namespace Go.Proofs.Ytkagjpkgboeaiaa
open Go Go.RX

instance : Mixed Try.prog := ⟨by kernel_rfl⟩
instance : USize Try.prog 2 1 := ⟨Try.sizeOf2⟩
instance : UOne Try.prog 2 := ⟨Try.isAgg2⟩
instance : UInt Try.prog 2 .i64 := ⟨Try.underlying2⟩
instance : UZero Try.prog 2 (.int .i64 0) := ⟨Try.zeroValue2⟩
instance : UElem Try.prog 2 (.int .i64 0) 1 8 := ⟨by kernel_rfl⟩
instance : USize Try.prog 3 1 := ⟨Try.sizeOf3⟩
instance : UOne Try.prog 3 := ⟨Try.isAgg3⟩
instance : UInt Try.prog 3 .i64 := ⟨Try.underlying3⟩
instance : UZero Try.prog 3 (.int .i64 0) := ⟨Try.zeroValue3⟩
instance : UElem Try.prog 3 (.int .i64 0) 1 8 := ⟨by kernel_rfl⟩
instance : USize Try.prog 4 1 := ⟨Try.sizeOf4⟩
instance : UOne Try.prog 4 := ⟨Try.isAgg4⟩
instance : UBool Try.prog 4 := ⟨Try.underlying4⟩
instance : UZero Try.prog 4 (.bool false) := ⟨Try.zeroValue4⟩
instance : UElem Try.prog 4 (.bool false) 1 1 := ⟨by kernel_rfl⟩
instance : USize Try.prog 5 1 := ⟨Try.sizeOf5⟩
instance : UOne Try.prog 5 := ⟨Try.isAgg5⟩
instance : UInt Try.prog 5 .u8 := ⟨Try.underlying5⟩
instance : UZero Try.prog 5 (.int .u8 0) := ⟨Try.zeroValue5⟩
instance : UElem Try.prog 5 (.int .u8 0) 1 1 := ⟨by kernel_rfl⟩
instance : USize Try.prog 6 1 := ⟨Try.sizeOf6⟩
instance : UOne Try.prog 6 := ⟨Try.isAgg6⟩
instance : UInt Try.prog 6 .u8 := ⟨Try.underlying6⟩
instance : UZero Try.prog 6 (.int .u8 0) := ⟨Try.zeroValue6⟩
instance : UElem Try.prog 6 (.int .u8 0) 1 1 := ⟨by kernel_rfl⟩
instance : USize Try.prog 7 4 := ⟨Try.sizeOf7⟩
instance : UAgg Try.prog 7 := ⟨Try.isAgg7⟩
instance : UZero Try.prog 7 (.agg #[(.int .i64 0), (.int .i64 0), (.bool false), (.int .u8 0)]) := ⟨Try.zeroValue7⟩
instance : UElem Try.prog 7 (.agg #[(.int .i64 0), (.int .i64 0), (.bool false), (.int .u8 0)]) 4 24 := ⟨by kernel_rfl⟩
instance : UField Try.prog 7 0 0 := ⟨field_of Try.underlying7 rfl Try.sizeOf2 rfl rfl⟩
instance : UField Try.prog 7 1 1 := ⟨field_of Try.underlying7 rfl Try.sizeOf3 rfl rfl⟩
instance : UField Try.prog 7 2 2 := ⟨field_of Try.underlying7 rfl Try.sizeOf4 rfl rfl⟩
instance : UField Try.prog 7 3 3 := ⟨field_of Try.underlying7 rfl Try.sizeOf6 rfl rfl⟩
instance : USize Try.prog 8 4 := ⟨Try.sizeOf8⟩
instance : UAgg Try.prog 8 := ⟨Try.isAgg8⟩
instance : UZero Try.prog 8 (.agg #[(.int .i64 0), (.int .i64 0), (.bool false), (.int .u8 0)]) := ⟨Try.zeroValue8⟩
instance : UElem Try.prog 8 (.agg #[(.int .i64 0), (.int .i64 0), (.bool false), (.int .u8 0)]) 4 24 := ⟨by kernel_rfl⟩
instance : UField Try.prog 8 0 0 := ⟨field_of Try.underlying8 rfl Try.sizeOf2 rfl rfl⟩
instance : UField Try.prog 8 1 1 := ⟨field_of Try.underlying8 rfl Try.sizeOf3 rfl rfl⟩
instance : UField Try.prog 8 2 2 := ⟨field_of Try.underlying8 rfl Try.sizeOf4 rfl rfl⟩
instance : UField Try.prog 8 3 3 := ⟨field_of Try.underlying8 rfl Try.sizeOf6 rfl rfl⟩
instance : USize Try.prog 9 1 := ⟨Try.sizeOf9⟩
instance : UOne Try.prog 9 := ⟨Try.isAgg9⟩
instance : UString Try.prog 9 := ⟨Try.underlying9⟩
instance : USize Try.prog 10 1 := ⟨Try.sizeOf10⟩
instance : UOne Try.prog 10 := ⟨Try.isAgg10⟩
instance : UString Try.prog 10 := ⟨Try.underlying10⟩
instance : USize Try.prog 11 1 := ⟨Try.sizeOf11⟩
instance : UOne Try.prog 11 := ⟨Try.isAgg11⟩
instance : UString Try.prog 11 := ⟨Try.underlying11⟩
instance : USize Try.prog 12 1 := ⟨Try.sizeOf12⟩
instance : UOne Try.prog 12 := ⟨Try.isAgg12⟩
instance : UInt Try.prog 12 .u64 := ⟨Try.underlying12⟩
instance : UZero Try.prog 12 (.int .u64 0) := ⟨Try.zeroValue12⟩
instance : UElem Try.prog 12 (.int .u64 0) 1 8 := ⟨by kernel_rfl⟩
instance : USize Try.prog 13 2 := ⟨Try.sizeOf13⟩
instance : UAgg Try.prog 13 := ⟨Try.isAgg13⟩
instance : UField Try.prog 13 0 0 := ⟨field_of Try.underlying13 rfl Try.sizeOf9 rfl rfl⟩
instance : UField Try.prog 13 1 1 := ⟨field_of Try.underlying13 rfl Try.sizeOf12 rfl rfl⟩
instance : USize Try.prog 14 2 := ⟨Try.sizeOf14⟩
instance : UAgg Try.prog 14 := ⟨Try.isAgg14⟩
instance : UField Try.prog 14 0 0 := ⟨field_of Try.underlying14 rfl Try.sizeOf9 rfl rfl⟩
instance : UField Try.prog 14 1 1 := ⟨field_of Try.underlying14 rfl Try.sizeOf12 rfl rfl⟩
instance : USize Try.prog 15 1 := ⟨Try.sizeOf15⟩
instance : UOne Try.prog 15 := ⟨Try.isAgg15⟩
instance : UPtr Try.prog 15 100 := ⟨Try.underlying15⟩
instance : UZero Try.prog 15 (.pointer none) := ⟨Try.zeroValue15⟩
instance : UElem Try.prog 15 (.pointer none) 1 8 := ⟨by kernel_rfl⟩
instance : USize Try.prog 16 1 := ⟨Try.sizeOf16⟩
instance : UOne Try.prog 16 := ⟨Try.isAgg16⟩
instance : UPtr Try.prog 16 103 := ⟨Try.underlying16⟩
instance : UZero Try.prog 16 (.pointer none) := ⟨Try.zeroValue16⟩
instance : UElem Try.prog 16 (.pointer none) 1 8 := ⟨by kernel_rfl⟩
instance : USize Try.prog 17 1 := ⟨Try.sizeOf17⟩
instance : UOne Try.prog 17 := ⟨Try.isAgg17⟩
instance : UPtr Try.prog 17 112 := ⟨Try.underlying17⟩
instance : UZero Try.prog 17 (.pointer none) := ⟨Try.zeroValue17⟩
instance : UElem Try.prog 17 (.pointer none) 1 8 := ⟨by kernel_rfl⟩
instance : USize Try.prog 18 1 := ⟨Try.sizeOf18⟩
instance : UAgg Try.prog 18 := ⟨Try.isAgg18⟩
instance : UZero Try.prog 18 (.agg #[(.pointer none)]) := ⟨Try.zeroValue18⟩
instance : UElem Try.prog 18 (.agg #[(.pointer none)]) 1 8 := ⟨by kernel_rfl⟩
instance : UField Try.prog 18 0 0 := ⟨field_of Try.underlying18 rfl Try.sizeOf17 rfl rfl⟩
instance : USize Try.prog 19 1 := ⟨Try.sizeOf19⟩
instance : UAgg Try.prog 19 := ⟨Try.isAgg19⟩
instance : UZero Try.prog 19 (.agg #[(.pointer none)]) := ⟨Try.zeroValue19⟩
instance : UElem Try.prog 19 (.agg #[(.pointer none)]) 1 8 := ⟨by kernel_rfl⟩
instance : UField Try.prog 19 0 0 := ⟨field_of Try.underlying19 rfl Try.sizeOf17 rfl rfl⟩
instance : USize Try.prog 20 1 := ⟨Try.sizeOf20⟩
instance : UOne Try.prog 20 := ⟨Try.isAgg20⟩
instance : USize Try.prog 21 1 := ⟨Try.sizeOf21⟩
instance : UOne Try.prog 21 := ⟨Try.isAgg21⟩
instance : UInt Try.prog 21 .i32 := ⟨Try.underlying21⟩
instance : UZero Try.prog 21 (.int .i32 0) := ⟨Try.zeroValue21⟩
instance : UElem Try.prog 21 (.int .i32 0) 1 4 := ⟨by kernel_rfl⟩
instance : USize Try.prog 22 1 := ⟨Try.sizeOf22⟩
instance : UOne Try.prog 22 := ⟨Try.isAgg22⟩
instance : USlice Try.prog 22 38 := ⟨Try.underlying22⟩
instance : UZero Try.prog 22 (.slice none 0 0) := ⟨Try.zeroValue22⟩
instance : UElem Try.prog 22 (.slice none 0 0) 1 24 := ⟨by kernel_rfl⟩
instance : USize Try.prog 23 1 := ⟨Try.sizeOf23⟩
instance : UOne Try.prog 23 := ⟨Try.isAgg23⟩
instance : USlice Try.prog 23 35 := ⟨Try.underlying23⟩
instance : UZero Try.prog 23 (.slice none 0 0) := ⟨Try.zeroValue23⟩
instance : UElem Try.prog 23 (.slice none 0 0) 1 24 := ⟨by kernel_rfl⟩
instance : USize Try.prog 24 1 := ⟨Try.sizeOf24⟩
instance : UOne Try.prog 24 := ⟨Try.isAgg24⟩
instance : USlice Try.prog 24 23 := ⟨Try.underlying24⟩
instance : UZero Try.prog 24 (.slice none 0 0) := ⟨Try.zeroValue24⟩
instance : UElem Try.prog 24 (.slice none 0 0) 1 24 := ⟨by kernel_rfl⟩
instance : USize Try.prog 25 2 := ⟨Try.sizeOf25⟩
instance : UAgg Try.prog 25 := ⟨Try.isAgg25⟩
instance : UZero Try.prog 25 (.agg #[(.slice none 0 0), (.slice none 0 0)]) := ⟨Try.zeroValue25⟩
instance : UElem Try.prog 25 (.agg #[(.slice none 0 0), (.slice none 0 0)]) 2 48 := ⟨by kernel_rfl⟩
instance : UField Try.prog 25 0 0 := ⟨field_of Try.underlying25 rfl Try.sizeOf23 rfl rfl⟩
instance : UField Try.prog 25 1 1 := ⟨field_of Try.underlying25 rfl Try.sizeOf24 rfl rfl⟩
instance : USize Try.prog 26 2 := ⟨Try.sizeOf26⟩
instance : UAgg Try.prog 26 := ⟨Try.isAgg26⟩
instance : UZero Try.prog 26 (.agg #[(.slice none 0 0), (.slice none 0 0)]) := ⟨Try.zeroValue26⟩
instance : UElem Try.prog 26 (.agg #[(.slice none 0 0), (.slice none 0 0)]) 2 48 := ⟨by kernel_rfl⟩
instance : UField Try.prog 26 0 0 := ⟨field_of Try.underlying26 rfl Try.sizeOf23 rfl rfl⟩
instance : UField Try.prog 26 1 1 := ⟨field_of Try.underlying26 rfl Try.sizeOf24 rfl rfl⟩
instance : USize Try.prog 27 1 := ⟨Try.sizeOf27⟩
instance : UOne Try.prog 27 := ⟨Try.isAgg27⟩
instance : UInt Try.prog 27 .i64 := ⟨Try.underlying27⟩
instance : UZero Try.prog 27 (.int .i64 0) := ⟨Try.zeroValue27⟩
instance : UElem Try.prog 27 (.int .i64 0) 1 8 := ⟨by kernel_rfl⟩
instance : USize Try.prog 35 1 := ⟨Try.sizeOf35⟩
instance : UOne Try.prog 35 := ⟨Try.isAgg35⟩
instance : USlice Try.prog 35 3 := ⟨Try.underlying35⟩
instance : UZero Try.prog 35 (.slice none 0 0) := ⟨Try.zeroValue35⟩
instance : UElem Try.prog 35 (.slice none 0 0) 1 24 := ⟨by kernel_rfl⟩
instance : USize Try.prog 37 4 := ⟨Try.sizeOf37⟩
instance : UAgg Try.prog 37 := ⟨Try.isAgg37⟩
instance : UZero Try.prog 37 (.agg #[(.int .i64 0), (.int .i64 0), (.int .i64 0), (.int .i64 0)]) := ⟨Try.zeroValue37⟩
instance : UElem Try.prog 37 (.agg #[(.int .i64 0), (.int .i64 0), (.int .i64 0), (.int .i64 0)]) 4 32 := ⟨by kernel_rfl⟩
instance : UField Try.prog 37 0 0 := ⟨field_of Try.underlying37 rfl Try.sizeOf3 rfl rfl⟩
instance : UField Try.prog 37 1 1 := ⟨field_of Try.underlying37 rfl Try.sizeOf3 rfl rfl⟩
instance : UField Try.prog 37 2 2 := ⟨field_of Try.underlying37 rfl Try.sizeOf3 rfl rfl⟩
instance : UField Try.prog 37 3 3 := ⟨field_of Try.underlying37 rfl Try.sizeOf3 rfl rfl⟩
instance : USize Try.prog 38 4 := ⟨Try.sizeOf38⟩
instance : UAgg Try.prog 38 := ⟨Try.isAgg38⟩
instance : UZero Try.prog 38 (.agg #[(.int .i64 0), (.int .i64 0), (.int .i64 0), (.int .i64 0)]) := ⟨Try.zeroValue38⟩
instance : UElem Try.prog 38 (.agg #[(.int .i64 0), (.int .i64 0), (.int .i64 0), (.int .i64 0)]) 4 32 := ⟨by kernel_rfl⟩
instance : UField Try.prog 38 0 0 := ⟨field_of Try.underlying38 rfl Try.sizeOf3 rfl rfl⟩
instance : UField Try.prog 38 1 1 := ⟨field_of Try.underlying38 rfl Try.sizeOf3 rfl rfl⟩
instance : UField Try.prog 38 2 2 := ⟨field_of Try.underlying38 rfl Try.sizeOf3 rfl rfl⟩
instance : UField Try.prog 38 3 3 := ⟨field_of Try.underlying38 rfl Try.sizeOf3 rfl rfl⟩
instance : USize Try.prog 46 1 := ⟨Try.sizeOf46⟩
instance : UOne Try.prog 46 := ⟨Try.isAgg46⟩
instance : UPtr Try.prog 46 53 := ⟨Try.underlying46⟩
instance : UZero Try.prog 46 (.pointer none) := ⟨Try.zeroValue46⟩
instance : UElem Try.prog 46 (.pointer none) 1 8 := ⟨by kernel_rfl⟩
instance : USize Try.prog 47 1 := ⟨Try.sizeOf47⟩
instance : UOne Try.prog 47 := ⟨Try.isAgg47⟩
instance : USlice Try.prog 47 57 := ⟨Try.underlying47⟩
instance : UZero Try.prog 47 (.slice none 0 0) := ⟨Try.zeroValue47⟩
instance : UElem Try.prog 47 (.slice none 0 0) 1 24 := ⟨by kernel_rfl⟩
instance : USize Try.prog 48 1 := ⟨Try.sizeOf48⟩
instance : UOne Try.prog 48 := ⟨Try.isAgg48⟩
instance : USlice Try.prog 48 71 := ⟨Try.underlying48⟩
instance : UZero Try.prog 48 (.slice none 0 0) := ⟨Try.zeroValue48⟩
instance : UElem Try.prog 48 (.slice none 0 0) 1 24 := ⟨by kernel_rfl⟩
instance : USize Try.prog 49 1 := ⟨Try.sizeOf49⟩
instance : UOne Try.prog 49 := ⟨Try.isAgg49⟩
instance : UMap Try.prog 49 87 85 := ⟨Try.underlying49⟩
instance : UZero Try.prog 49 (.map none) := ⟨Try.zeroValue49⟩
instance : UElem Try.prog 49 (.map none) 1 8 := ⟨by kernel_rfl⟩
instance : USize Try.prog 50 1 := ⟨Try.sizeOf50⟩
instance : UOne Try.prog 50 := ⟨Try.isAgg50⟩
instance : USlice Try.prog 50 4 := ⟨Try.underlying50⟩
instance : UZero Try.prog 50 (.slice none 0 0) := ⟨Try.zeroValue50⟩
instance : UElem Try.prog 50 (.slice none 0 0) 1 24 := ⟨by kernel_rfl⟩
instance : USize Try.prog 51 1 := ⟨Try.sizeOf51⟩
instance : UOne Try.prog 51 := ⟨Try.isAgg51⟩
instance : USlice Try.prog 51 3 := ⟨Try.underlying51⟩
instance : UZero Try.prog 51 (.slice none 0 0) := ⟨Try.zeroValue51⟩
instance : UElem Try.prog 51 (.slice none 0 0) 1 24 := ⟨by kernel_rfl⟩
instance : USize Try.prog 52 9 := ⟨Try.sizeOf52⟩
instance : UAgg Try.prog 52 := ⟨Try.isAgg52⟩
instance : UZero Try.prog 52 (.agg #[(.int .i64 0), (.int .i64 0), (.slice none 0 0), (.slice none 0 0), (.slice none 0 0), (.slice none 0 0), (.map none), (.slice none 0 0), (.slice none 0 0)]) := ⟨Try.zeroValue52⟩
instance : UElem Try.prog 52 (.agg #[(.int .i64 0), (.int .i64 0), (.slice none 0 0), (.slice none 0 0), (.slice none 0 0), (.slice none 0 0), (.map none), (.slice none 0 0), (.slice none 0 0)]) 9 168 := ⟨by kernel_rfl⟩
instance : UField Try.prog 52 0 0 := ⟨field_of Try.underlying52 rfl Try.sizeOf3 rfl rfl⟩
instance : UField Try.prog 52 1 1 := ⟨field_of Try.underlying52 rfl Try.sizeOf3 rfl rfl⟩
instance : UField Try.prog 52 2 2 := ⟨field_of Try.underlying52 rfl Try.sizeOf47 rfl rfl⟩
instance : UField Try.prog 52 3 3 := ⟨field_of Try.underlying52 rfl Try.sizeOf23 rfl rfl⟩
instance : UField Try.prog 52 4 4 := ⟨field_of Try.underlying52 rfl Try.sizeOf48 rfl rfl⟩
instance : UField Try.prog 52 5 5 := ⟨field_of Try.underlying52 rfl Try.sizeOf47 rfl rfl⟩
instance : UField Try.prog 52 6 6 := ⟨field_of Try.underlying52 rfl Try.sizeOf49 rfl rfl⟩
instance : UField Try.prog 52 7 7 := ⟨field_of Try.underlying52 rfl Try.sizeOf51 rfl rfl⟩
instance : UField Try.prog 52 8 8 := ⟨field_of Try.underlying52 rfl Try.sizeOf50 rfl rfl⟩
instance : USize Try.prog 53 9 := ⟨Try.sizeOf53⟩
instance : UAgg Try.prog 53 := ⟨Try.isAgg53⟩
instance : UZero Try.prog 53 (.agg #[(.int .i64 0), (.int .i64 0), (.slice none 0 0), (.slice none 0 0), (.slice none 0 0), (.slice none 0 0), (.map none), (.slice none 0 0), (.slice none 0 0)]) := ⟨Try.zeroValue53⟩
instance : UElem Try.prog 53 (.agg #[(.int .i64 0), (.int .i64 0), (.slice none 0 0), (.slice none 0 0), (.slice none 0 0), (.slice none 0 0), (.map none), (.slice none 0 0), (.slice none 0 0)]) 9 168 := ⟨by kernel_rfl⟩
instance : UField Try.prog 53 0 0 := ⟨field_of Try.underlying53 rfl Try.sizeOf3 rfl rfl⟩
instance : UField Try.prog 53 1 1 := ⟨field_of Try.underlying53 rfl Try.sizeOf3 rfl rfl⟩
instance : UField Try.prog 53 2 2 := ⟨field_of Try.underlying53 rfl Try.sizeOf47 rfl rfl⟩
instance : UField Try.prog 53 3 3 := ⟨field_of Try.underlying53 rfl Try.sizeOf23 rfl rfl⟩
instance : UField Try.prog 53 4 4 := ⟨field_of Try.underlying53 rfl Try.sizeOf48 rfl rfl⟩
instance : UField Try.prog 53 5 5 := ⟨field_of Try.underlying53 rfl Try.sizeOf47 rfl rfl⟩
instance : UField Try.prog 53 6 6 := ⟨field_of Try.underlying53 rfl Try.sizeOf49 rfl rfl⟩
instance : UField Try.prog 53 7 7 := ⟨field_of Try.underlying53 rfl Try.sizeOf51 rfl rfl⟩
instance : UField Try.prog 53 8 8 := ⟨field_of Try.underlying53 rfl Try.sizeOf50 rfl rfl⟩
instance : USize Try.prog 57 1 := ⟨Try.sizeOf57⟩
instance : UOne Try.prog 57 := ⟨Try.isAgg57⟩
instance : UInt Try.prog 57 .u64 := ⟨Try.underlying57⟩
instance : UZero Try.prog 57 (.int .u64 0) := ⟨Try.zeroValue57⟩
instance : UElem Try.prog 57 (.int .u64 0) 1 8 := ⟨by kernel_rfl⟩
instance : USize Try.prog 60 1 := ⟨Try.sizeOf60⟩
instance : UOne Try.prog 60 := ⟨Try.isAgg60⟩
instance : UPtr Try.prog 60 64 := ⟨Try.underlying60⟩
instance : UZero Try.prog 60 (.pointer none) := ⟨Try.zeroValue60⟩
instance : UElem Try.prog 60 (.pointer none) 1 8 := ⟨by kernel_rfl⟩
instance : USize Try.prog 61 1 := ⟨Try.sizeOf61⟩
instance : UOne Try.prog 61 := ⟨Try.isAgg61⟩
instance : USlice Try.prog 61 50 := ⟨Try.underlying61⟩
instance : UZero Try.prog 61 (.slice none 0 0) := ⟨Try.zeroValue61⟩
instance : UElem Try.prog 61 (.slice none 0 0) 1 24 := ⟨by kernel_rfl⟩
instance : USize Try.prog 62 1 := ⟨Try.sizeOf62⟩
instance : UOne Try.prog 62 := ⟨Try.isAgg62⟩
instance : USlice Try.prog 62 61 := ⟨Try.underlying62⟩
instance : UZero Try.prog 62 (.slice none 0 0) := ⟨Try.zeroValue62⟩
instance : UElem Try.prog 62 (.slice none 0 0) 1 24 := ⟨by kernel_rfl⟩
instance : USize Try.prog 63 3 := ⟨Try.sizeOf63⟩
instance : UAgg Try.prog 63 := ⟨Try.isAgg63⟩
instance : UZero Try.prog 63 (.agg #[(.slice none 0 0), (.slice none 0 0), (.bool false)]) := ⟨Try.zeroValue63⟩
instance : UElem Try.prog 63 (.agg #[(.slice none 0 0), (.slice none 0 0), (.bool false)]) 3 56 := ⟨by kernel_rfl⟩
instance : UField Try.prog 63 0 0 := ⟨field_of Try.underlying63 rfl Try.sizeOf61 rfl rfl⟩
instance : UField Try.prog 63 1 1 := ⟨field_of Try.underlying63 rfl Try.sizeOf62 rfl rfl⟩
instance : UField Try.prog 63 2 2 := ⟨field_of Try.underlying63 rfl Try.sizeOf4 rfl rfl⟩
instance : USize Try.prog 64 3 := ⟨Try.sizeOf64⟩
instance : UAgg Try.prog 64 := ⟨Try.isAgg64⟩
instance : UZero Try.prog 64 (.agg #[(.slice none 0 0), (.slice none 0 0), (.bool false)]) := ⟨Try.zeroValue64⟩
instance : UElem Try.prog 64 (.agg #[(.slice none 0 0), (.slice none 0 0), (.bool false)]) 3 56 := ⟨by kernel_rfl⟩
instance : UField Try.prog 64 0 0 := ⟨field_of Try.underlying64 rfl Try.sizeOf61 rfl rfl⟩
instance : UField Try.prog 64 1 1 := ⟨field_of Try.underlying64 rfl Try.sizeOf62 rfl rfl⟩
instance : UField Try.prog 64 2 2 := ⟨field_of Try.underlying64 rfl Try.sizeOf4 rfl rfl⟩
instance : USize Try.prog 71 1 := ⟨Try.sizeOf71⟩
instance : UOne Try.prog 71 := ⟨Try.isAgg71⟩
instance : USlice Try.prog 71 73 := ⟨Try.underlying71⟩
instance : UZero Try.prog 71 (.slice none 0 0) := ⟨Try.zeroValue71⟩
instance : UElem Try.prog 71 (.slice none 0 0) 1 24 := ⟨by kernel_rfl⟩
instance : USize Try.prog 72 3 := ⟨Try.sizeOf72⟩
instance : UAgg Try.prog 72 := ⟨Try.isAgg72⟩
instance : UZero Try.prog 72 (.agg #[(.int .i64 0), (.int .i64 0), (.int .i64 0)]) := ⟨Try.zeroValue72⟩
instance : UElem Try.prog 72 (.agg #[(.int .i64 0), (.int .i64 0), (.int .i64 0)]) 3 24 := ⟨by kernel_rfl⟩
instance : UField Try.prog 72 0 0 := ⟨field_of Try.underlying72 rfl Try.sizeOf3 rfl rfl⟩
instance : UField Try.prog 72 1 1 := ⟨field_of Try.underlying72 rfl Try.sizeOf3 rfl rfl⟩
instance : UField Try.prog 72 2 2 := ⟨field_of Try.underlying72 rfl Try.sizeOf3 rfl rfl⟩
instance : USize Try.prog 73 3 := ⟨Try.sizeOf73⟩
instance : UAgg Try.prog 73 := ⟨Try.isAgg73⟩
instance : UZero Try.prog 73 (.agg #[(.int .i64 0), (.int .i64 0), (.int .i64 0)]) := ⟨Try.zeroValue73⟩
instance : UElem Try.prog 73 (.agg #[(.int .i64 0), (.int .i64 0), (.int .i64 0)]) 3 24 := ⟨by kernel_rfl⟩
instance : UField Try.prog 73 0 0 := ⟨field_of Try.underlying73 rfl Try.sizeOf3 rfl rfl⟩
instance : UField Try.prog 73 1 1 := ⟨field_of Try.underlying73 rfl Try.sizeOf3 rfl rfl⟩
instance : UField Try.prog 73 2 2 := ⟨field_of Try.underlying73 rfl Try.sizeOf3 rfl rfl⟩
instance : USize Try.prog 75 1 := ⟨Try.sizeOf75⟩
instance : UOne Try.prog 75 := ⟨Try.isAgg75⟩
instance : UPtr Try.prog 75 51 := ⟨Try.underlying75⟩
instance : UZero Try.prog 75 (.pointer none) := ⟨Try.zeroValue75⟩
instance : UElem Try.prog 75 (.pointer none) 1 8 := ⟨by kernel_rfl⟩
instance : USize Try.prog 78 1 := ⟨Try.sizeOf78⟩
instance : UOne Try.prog 78 := ⟨Try.isAgg78⟩
instance : UInt Try.prog 78 .u64 := ⟨Try.underlying78⟩
instance : UZero Try.prog 78 (.int .u64 0) := ⟨Try.zeroValue78⟩
instance : UElem Try.prog 78 (.int .u64 0) 1 8 := ⟨by kernel_rfl⟩
instance : USize Try.prog 85 0 := ⟨Try.sizeOf85⟩
instance : UAgg Try.prog 85 := ⟨Try.isAgg85⟩
instance : UZero Try.prog 85 (.agg #[]) := ⟨Try.zeroValue85⟩
instance : UElem Try.prog 85 (.agg #[]) 0 0 := ⟨by kernel_rfl⟩
instance : USize Try.prog 87 2 := ⟨Try.sizeOf87⟩
instance : UAgg Try.prog 87 := ⟨Try.isAgg87⟩
instance : UZero Try.prog 87 (.agg #[(.int .i64 0), (.int .i64 0)]) := ⟨Try.zeroValue87⟩
instance : UElem Try.prog 87 (.agg #[(.int .i64 0), (.int .i64 0)]) 2 16 := ⟨by kernel_rfl⟩
instance : USize Try.prog 88 1 := ⟨Try.sizeOf88⟩
instance : UOne Try.prog 88 := ⟨Try.isAgg88⟩
instance : USize Try.prog 89 1 := ⟨Try.sizeOf89⟩
instance : UOne Try.prog 89 := ⟨Try.isAgg89⟩
instance : USize Try.prog 99 4 := ⟨Try.sizeOf99⟩
instance : UAgg Try.prog 99 := ⟨Try.isAgg99⟩
instance : UField Try.prog 99 0 0 := ⟨field_of Try.underlying99 rfl Try.sizeOf17 rfl rfl⟩
instance : UField Try.prog 99 1 1 := ⟨field_of Try.underlying99 rfl Try.sizeOf17 rfl rfl⟩
instance : UField Try.prog 99 2 2 := ⟨field_of Try.underlying99 rfl Try.sizeOf17 rfl rfl⟩
instance : UField Try.prog 99 3 3 := ⟨field_of Try.underlying99 rfl Try.sizeOf9 rfl rfl⟩
instance : USize Try.prog 100 4 := ⟨Try.sizeOf100⟩
instance : UAgg Try.prog 100 := ⟨Try.isAgg100⟩
instance : UField Try.prog 100 0 0 := ⟨field_of Try.underlying100 rfl Try.sizeOf17 rfl rfl⟩
instance : UField Try.prog 100 1 1 := ⟨field_of Try.underlying100 rfl Try.sizeOf17 rfl rfl⟩
instance : UField Try.prog 100 2 2 := ⟨field_of Try.underlying100 rfl Try.sizeOf17 rfl rfl⟩
instance : UField Try.prog 100 3 3 := ⟨field_of Try.underlying100 rfl Try.sizeOf9 rfl rfl⟩
instance : USize Try.prog 101 0 := ⟨Try.sizeOf101⟩
instance : UAgg Try.prog 101 := ⟨Try.isAgg101⟩
instance : UZero Try.prog 101 (.agg #[]) := ⟨Try.zeroValue101⟩
instance : UElem Try.prog 101 (.agg #[]) 0 0 := ⟨by kernel_rfl⟩
instance : USize Try.prog 102 0 := ⟨Try.sizeOf102⟩
instance : UAgg Try.prog 102 := ⟨Try.isAgg102⟩
instance : UZero Try.prog 102 (.agg #[]) := ⟨Try.zeroValue102⟩
instance : UElem Try.prog 102 (.agg #[]) 0 0 := ⟨by kernel_rfl⟩
instance : USize Try.prog 103 0 := ⟨Try.sizeOf103⟩
instance : UAgg Try.prog 103 := ⟨Try.isAgg103⟩
instance : UZero Try.prog 103 (.agg #[]) := ⟨Try.zeroValue103⟩
instance : UElem Try.prog 103 (.agg #[]) 0 0 := ⟨by kernel_rfl⟩
instance : USize Try.prog 104 1 := ⟨Try.sizeOf104⟩
instance : UOne Try.prog 104 := ⟨Try.isAgg104⟩
instance : UInt Try.prog 104 .u32 := ⟨Try.underlying104⟩
instance : UZero Try.prog 104 (.int .u32 0) := ⟨Try.zeroValue104⟩
instance : UElem Try.prog 104 (.int .u32 0) 1 4 := ⟨by kernel_rfl⟩
instance : USize Try.prog 105 1 := ⟨Try.sizeOf105⟩
instance : UOne Try.prog 105 := ⟨Try.isAgg105⟩
instance : UInt Try.prog 105 .u8 := ⟨Try.underlying105⟩
instance : UZero Try.prog 105 (.int .u8 0) := ⟨Try.zeroValue105⟩
instance : UElem Try.prog 105 (.int .u8 0) 1 1 := ⟨by kernel_rfl⟩
instance : USize Try.prog 106 1 := ⟨Try.sizeOf106⟩
instance : UOne Try.prog 106 := ⟨Try.isAgg106⟩
instance : UInt Try.prog 106 .u8 := ⟨Try.underlying106⟩
instance : UZero Try.prog 106 (.int .u8 0) := ⟨Try.zeroValue106⟩
instance : UElem Try.prog 106 (.int .u8 0) 1 1 := ⟨by kernel_rfl⟩
instance : USize Try.prog 108 1 := ⟨Try.sizeOf108⟩
instance : UOne Try.prog 108 := ⟨Try.isAgg108⟩
instance : UPtr Try.prog 108 5 := ⟨Try.underlying108⟩
instance : UZero Try.prog 108 (.pointer none) := ⟨Try.zeroValue108⟩
instance : UElem Try.prog 108 (.pointer none) 1 8 := ⟨by kernel_rfl⟩
instance : USize Try.prog 109 1 := ⟨Try.sizeOf109⟩
instance : UOne Try.prog 109 := ⟨Try.isAgg109⟩
instance : UInt Try.prog 109 .i32 := ⟨Try.underlying109⟩
instance : UZero Try.prog 109 (.int .i32 0) := ⟨Try.zeroValue109⟩
instance : UElem Try.prog 109 (.int .i32 0) 1 4 := ⟨by kernel_rfl⟩
instance : USize Try.prog 110 1 := ⟨Try.sizeOf110⟩
instance : UOne Try.prog 110 := ⟨Try.isAgg110⟩
instance : UInt Try.prog 110 .i32 := ⟨Try.underlying110⟩
instance : UZero Try.prog 110 (.int .i32 0) := ⟨Try.zeroValue110⟩
instance : UElem Try.prog 110 (.int .i32 0) 1 4 := ⟨by kernel_rfl⟩
instance : USize Try.prog 111 11 := ⟨Try.sizeOf111⟩
instance : UAgg Try.prog 111 := ⟨Try.isAgg111⟩
instance : UField Try.prog 111 0 0 := ⟨field_of Try.underlying111 rfl Try.sizeOf12 rfl rfl⟩
instance : UField Try.prog 111 1 1 := ⟨field_of Try.underlying111 rfl Try.sizeOf12 rfl rfl⟩
instance : UField Try.prog 111 2 2 := ⟨field_of Try.underlying111 rfl Try.sizeOf104 rfl rfl⟩
instance : UField Try.prog 111 3 3 := ⟨field_of Try.underlying111 rfl Try.sizeOf105 rfl rfl⟩
instance : UField Try.prog 111 4 4 := ⟨field_of Try.underlying111 rfl Try.sizeOf5 rfl rfl⟩
instance : UField Try.prog 111 5 5 := ⟨field_of Try.underlying111 rfl Try.sizeOf5 rfl rfl⟩
instance : UField Try.prog 111 6 6 := ⟨field_of Try.underlying111 rfl Try.sizeOf106 rfl rfl⟩
instance : UField Try.prog 111 8 8 := ⟨field_of Try.underlying111 rfl Try.sizeOf108 rfl rfl⟩
instance : UField Try.prog 111 9 9 := ⟨field_of Try.underlying111 rfl Try.sizeOf109 rfl rfl⟩
instance : UField Try.prog 111 10 10 := ⟨field_of Try.underlying111 rfl Try.sizeOf110 rfl rfl⟩
instance : USize Try.prog 112 11 := ⟨Try.sizeOf112⟩
instance : UAgg Try.prog 112 := ⟨Try.isAgg112⟩
instance : UField Try.prog 112 0 0 := ⟨field_of Try.underlying112 rfl Try.sizeOf12 rfl rfl⟩
instance : UField Try.prog 112 1 1 := ⟨field_of Try.underlying112 rfl Try.sizeOf12 rfl rfl⟩
instance : UField Try.prog 112 2 2 := ⟨field_of Try.underlying112 rfl Try.sizeOf104 rfl rfl⟩
instance : UField Try.prog 112 3 3 := ⟨field_of Try.underlying112 rfl Try.sizeOf105 rfl rfl⟩
instance : UField Try.prog 112 4 4 := ⟨field_of Try.underlying112 rfl Try.sizeOf5 rfl rfl⟩
instance : UField Try.prog 112 5 5 := ⟨field_of Try.underlying112 rfl Try.sizeOf5 rfl rfl⟩
instance : UField Try.prog 112 6 6 := ⟨field_of Try.underlying112 rfl Try.sizeOf106 rfl rfl⟩
instance : UField Try.prog 112 8 8 := ⟨field_of Try.underlying112 rfl Try.sizeOf108 rfl rfl⟩
instance : UField Try.prog 112 9 9 := ⟨field_of Try.underlying112 rfl Try.sizeOf109 rfl rfl⟩
instance : UField Try.prog 112 10 10 := ⟨field_of Try.underlying112 rfl Try.sizeOf110 rfl rfl⟩
instance : UFunc Try.prog 3 := ⟨Try.call3⟩
instance : UFunc Try.prog 4 := ⟨Try.call4⟩
instance : UFunc Try.prog 5 := ⟨Try.call5⟩
instance : UFunc Try.prog 6 := ⟨Try.call6⟩
instance : UFunc Try.prog 7 := ⟨Try.call7⟩
instance : UFunc Try.prog 8 := ⟨Try.call8⟩
instance : UFunc Try.prog 9 := ⟨Try.call9⟩
instance : UFunc Try.prog 10 := ⟨Try.call10⟩
instance : UFunc Try.prog 11 := ⟨Try.call11⟩
instance : UFunc Try.prog 12 := ⟨Try.call12⟩
instance : UFunc Try.prog 13 := ⟨Try.call13⟩
instance : UFunc Try.prog 14 := ⟨Try.call14⟩
instance : UFunc Try.prog 15 := ⟨Try.call15⟩
instance : UFunc Try.prog 16 := ⟨Try.call16⟩
instance : UFunc Try.prog 17 := ⟨Try.call17⟩
instance : UFunc Try.prog 18 := ⟨Try.call18⟩
instance : UFunc Try.prog 19 := ⟨Try.call19⟩
instance : UFunc Try.prog 20 := ⟨Try.call20⟩
instance : UFunc Try.prog 21 := ⟨Try.call21⟩
instance : UFunc Try.prog 22 := ⟨Try.call22⟩
instance : UFunc Try.prog 23 := ⟨Try.call23⟩
instance : UFunc Try.prog 24 := ⟨Try.call24⟩
instance : UFunc Try.prog 25 := ⟨Try.call25⟩
instance : UFunc Try.prog 26 := ⟨Try.call26⟩
instance : UFunc Try.prog 27 := ⟨Try.call27⟩
instance : UFunc Try.prog 28 := ⟨Try.call28⟩
instance : UFunc Try.prog 29 := ⟨Try.call29⟩
instance : UFunc Try.prog 30 := ⟨Try.call30⟩
instance : UFunc Try.prog 31 := ⟨Try.call31⟩
instance : UFunc Try.prog 32 := ⟨Try.call32⟩
instance : UFunc Try.prog 33 := ⟨Try.call33⟩
instance : UFunc Try.prog 34 := ⟨Try.call34⟩
instance : UFunc Try.prog 35 := ⟨Try.call35⟩
instance : UFunc Try.prog 36 := ⟨Try.call36⟩
instance : UFunc Try.prog 37 := ⟨Try.call37⟩
instance : UFunc Try.prog 38 := ⟨Try.call38⟩
instance : UFunc Try.prog 39 := ⟨Try.call39⟩
instance : UFunc Try.prog 40 := ⟨Try.call40⟩
instance : UFunc Try.prog 41 := ⟨Try.call41⟩
instance : UFunc Try.prog 42 := ⟨Try.call42⟩
instance : UFunc Try.prog 43 := ⟨Try.call43⟩
instance : UFunc Try.prog 44 := ⟨Try.call44⟩
instance : UFunc Try.prog 45 := ⟨Try.call45⟩
instance : UFunc Try.prog 46 := ⟨Try.call46⟩
instance : UFunc Try.prog 47 := ⟨Try.call47⟩
instance : UFunc Try.prog 48 := ⟨Try.call48⟩
instance : UFunc Try.prog 49 := ⟨Try.call49⟩
instance : UFunc Try.prog 50 := ⟨Try.call50⟩
instance : UFunc Try.prog 51 := ⟨Try.call51⟩
instance : UFunc Try.prog 52 := ⟨Try.call52⟩
instance : UFunc Try.prog 53 := ⟨Try.call53⟩
instance : UFunc Try.prog 54 := ⟨Try.call54⟩
instance : UFunc Try.prog 55 := ⟨Try.call55⟩
instance : UFunc Try.prog 56 := ⟨Try.call56⟩
instance : UFunc Try.prog 73 := ⟨Try.call73⟩
instance : UFunc Try.prog 74 := ⟨Try.call74⟩
instance : UFunc Try.prog 75 := ⟨Try.call75⟩
instance : UFunc Try.prog 76 := ⟨Try.call76⟩
end Go.Proofs.Ytkagjpkgboeaiaa
