/- LiveOps: for all numbers op, a, b, c the law returns true. No condition. -/
import Derived.Test.YtnpbadghodkhlaaKnown16
import Derived.Test.YtnpbadghodkhlaaRLiv1
import Derived.Test.YtnpbadghodkhlaaApiC
namespace Go.GX
open Go Go.RowKit Go.RR Go.RX
section
variable {P : Program} {n : Nat} {env : Env} {b : Base} {ps : List Pf} {hp : List Res} {Q : Exit → Act → World → Prop} {K : Act → World → Prop} {S : World → Prop} {t t' : TypeId} {x y : Operand}
theorem ld_str {α : Type} {e : Ty α} {bl o' off : Nat} {z : α} {get : α → ByteArray} {put : ByteArray → α → α} [UOne P t] [Look bl o' ps hp e off z] [Sub e off Ty.string get put] (hx : ev env x = some (.pointer (some ⟨bl, o', none⟩))) : RdV P n env ps hp (.load t x) (.string (get z)) := fun F w h1 h2 => by
  obtain ⟨c, h3, h4, h5⟩ := look_sub (e := e) (f := Ty.string) (bl := bl) (o' := o') (y := z) (get := get) (put := put) h1 h2
  have h4 : c = [.string (get z)] := h4
  subst h4
  exact RX.load hx (fun w' ha => ha.cell h5 (h3 0 _ rfl))
theorem len_str {s : ByteArray} [h : UString P t] (hx : ev env x = some (.string s)) : Soft P n env S (.call { callee := .builtin .len, args := #[x], argTypes := #[t] }) (.int .i64 (s.size : Int)) := fun a ha o ho w _ => by
  simp [execOp, ho, ha.ev hx, resolve, invoke, builtin, Builtin.len_, run_underlying h.u, goInt]
theorem ix_str {s : ByteArray} {k : IntKind} {i : Nat} {c : UInt8} [h : UString P t] (hx : ev env x = some (.string s)) (hy : ev env y = some (.int k (i : Int))) (hc : s[i]? = some c) : Soft P n env S (.index t x y) (.int .u8 (c.toNat : Int)) := fun a ha o ho w _ => by
  simp [execOp, ho, ha.ev hx, ha.ev hy, Instr.index, asIntOf, run_underlying h.u, hc]
variable {d : Nat} {ty : TypeId} {pos : String} {aft : Array Edge} {gd : Option (Nat × Bool)}
theorem lds {α : Type} {e : Ty α} {bl o' off : Nat} {z : α} {get : α → ByteArray} {put : ByteArray → α → α} [UOne P t] (h : G n ((d, .string (get z)) :: env) b ps hp K) (hx : ev env x = some (.pointer (some ⟨bl, o', none⟩)) := by exact rfl) (i0 : Look bl o' ps hp e off z := by exact inferInstance) (i1 : Sub e off Ty.string get put := by exact inferInstance) (hd : Nat.blt d n = true := by exact rfl) :
    GO P n env b ps hp ⟨some d, .load t x, ty, pos, aft, gd⟩ K Q := rdv (ld_str (e := e) (off := off) (get := get) (put := put) hx) hd h
theorem lns {s : ByteArray} [UString P t] (h : G n ((d, .int .i64 (s.size : Int)) :: env) b ps hp K) (hx : ev env x = some (.string s) := by exact rfl) (hd : Nat.blt d n = true := by exact rfl) :
    GO P n env b ps hp ⟨some d, .call { callee := .builtin .len, args := #[x], argTypes := #[t] }, ty, pos, aft, gd⟩ K Q := rd1 (len_str hx) hd h
theorem ixs {s : ByteArray} {k : IntKind} {i : Nat} {c : UInt8} [UString P t] (h : G n ((d, .int .u8 (c.toNat : Int)) :: env) b ps hp K) (hc : s[i]? = some c) (hx : ev env x = some (.string s) := by exact rfl) (hy : ev env y = some (.int k (i : Int)) := by exact rfl) (hd : Nat.blt d n = true := by exact rfl) :
    GO P n env b ps hp ⟨some d, .index t x y, ty, pos, aft, gd⟩ K Q := rd1 (ix_str hx hy hc) hd h
end
end Go.GX
namespace Go.Proofs.Ytnpbadghodkhlaa
open Go Go.RR Go.RX Go.GX Go.Api Go.FlowM Go.RiseM Go.LivM Go.ChangeShapes Go.WideShapes Go.ChangeAt Go.RowKit
attribute [local irreducible] wpList Code.wp wpPlan Exit.then Exit.inBlock bodyPost NoPanic Went GX.Post GX.Again GX.Meet GX.RowR GX.Own GX.Owns GX.Box GX.Sl GX.Pt GX.Ag GX.MapR GX.Kept GX.Pin wpT GoK AtEnd Both
/-- The letters of an operation. -/
def lets : Nat → List Nat
  | 3 => [1]
  | 4 => [1, 2]
  | 5 => [1]
  | 6 => [1]
  | 7 => [0, 1]
  | 8 => [1, 2]
  | 9 => [0, 1, 2]
  | 10 => [1]
  | 12 => [1]
  | 15 => [0]
  | 17 => [0]
  | 18 => [0]
  | 20 => [0]
  | _ => []
def strOf (l : List Nat) : ByteArray := ⟨(l.map fun n => UInt8.ofNat (97 + n)).toArray⟩
def strs : List ByteArray := (List.range 25).map fun k => strOf (lets k)
theorem strs_get {k : Nat} (h : k < 25) : ([⟨#[]⟩, ⟨#[]⟩, ⟨#[]⟩, ⟨#[98]⟩, ⟨#[98, 99]⟩, ⟨#[98]⟩, ⟨#[98]⟩, ⟨#[97, 98]⟩, ⟨#[98, 99]⟩, ⟨#[97, 98, 99]⟩, ⟨#[98]⟩, ⟨#[]⟩, ⟨#[98]⟩, ⟨#[]⟩, ⟨#[]⟩, ⟨#[97]⟩, ⟨#[]⟩, ⟨#[97]⟩, ⟨#[97]⟩, ⟨#[]⟩, ⟨#[97]⟩, ⟨#[]⟩, ⟨#[]⟩, ⟨#[]⟩, ⟨#[]⟩] : List ByteArray)[k]? = some (strOf (lets k)) := by
  show strs[k]? = _
  unfold strs
  rw [List.getElem?_map, List.getElem?_range h]; rfl
theorem strOf_size (l : List Nat) : (strOf l).size = l.length := by unfold strOf ByteArray.size; simp
theorem strOf_get {l : List Nat} {i n : Nat} (h : l[i]? = some n) : (strOf l)[i]? = some (UInt8.ofNat (97 + n)) := by
  have hi : i < l.length := (List.getElem?_eq_some_iff.1 h).1
  have hs : i < (strOf l).size := by rw [strOf_size]; exact hi
  rw [getElem?_pos (strOf l) i hs]
  have : (strOf l)[i] = ((l.map fun n => UInt8.ofNat (97 + n)).toArray)[i]'(by simpa using hi) := rfl
  rw [this]
  have h2 := (List.getElem?_eq_some_iff.1 h).2
  simp [h2]
theorem lets_small {k : Nat} (h : k < 25) : ∀ l ∈ lets k, l ≤ 2 := by
  have key : ∀ k : Fin 25, ∀ l ∈ lets k.val, l ≤ 2 := by decide
  exact key ⟨k, h⟩
theorem letter {l : Nat} (h : l ≤ 2) : IntKind.u8.wrap (((UInt8.ofNat (97 + l)).toNat : Int) - 97) = ((l : Nat) : Int) := by
  match l, h with
  | 0, _ => rfl
  | 1, _ => rfl
  | 2, _ => rfl
def want (k : Nat) (p q r : Int) (i : Nat) : List Int := puts (((lets k).take i).map fun l => [p, q, r].getD l 0)
theorem want_succ {k : Nat} {p q r : Int} {i l : Nat} (h : (lets k)[i]? = some l) : want k p q r (i + 1) = put (want k p q r i) ([p, q, r].getD l 0) := by
  unfold want
  rw [List.take_add_one, h, List.map_append]
  exact puts_snoc _ _
theorem want_all {k : Nat} {p q r : Int} (h : k < 25) (hp : In 4000 p) (hq : In 4000 q) (hr : In 4000 r) : want k p q r (lets k).length = uses ⟨k, p, q, r, 7, []⟩ := by
  unfold want uses
  rw [List.take_length]
  congr 1
  have hf : ∀ l : List Int, (∀ x ∈ l, In 4000 x) → l.filter (fun y => decide (In 4000 y)) = l := fun l hl => List.filter_eq_self.2 fun x hx => decide_eq_true (hl x hx)
  have e : (lets k).map (fun l => [p, q, r].getD l 0) = asks ⟨k, p, q, r, 7, []⟩ := by
    match k, h with
    | 0, _ => rfl
    | 1, _ => rfl
    | 2, _ => rfl
    | 3, _ => rfl
    | 4, _ => rfl
    | 5, _ => rfl
    | 6, _ => rfl
    | 7, _ => rfl
    | 8, _ => rfl
    | 9, _ => rfl
    | 10, _ => rfl
    | 11, _ => rfl
    | 12, _ => rfl
    | 13, _ => rfl
    | 14, _ => rfl
    | 15, _ => rfl
    | 16, _ => rfl
    | 17, _ => rfl
    | 18, _ => rfl
    | 19, _ => rfl
    | 20, _ => rfl
    | 21, _ => rfl
    | 22, _ => rfl
    | 23, _ => rfl
    | 24, _ => rfl
    | _ + 25, h => exact absurd h (by omega)
  rw [e, hf]
  intro x hx
  rw [← e] at hx
  obtain ⟨l, hl, rfl⟩ := List.mem_map.1 hx
  match l, lets_small h l hl with
  | 0, _ => exact hp
  | 1, _ => exact hq
  | 2, _ => exact hr
theorem want_rise (k : Nat) (p q r : Int) (i : Nat) : Rise (want k p q r i) := (puts_spec _).1
theorem want_len (k : Nat) (p q r : Int) (i : Nat) : (want k p q r i).length ≤ 100000 := by
  unfold want
  refine Nat.le_trans (puts_len _) ?_
  rw [List.length_map, List.length_take]
  have : (lets k).length ≤ 3 := by unfold lets; split <;> simp
  omega
theorem putP_spec (ao : Option Addr) (cap : Nat) (l : List Int) (v : Int) (hl : Rise l) (hm : l.length ≤ 100000) : Does Try.prog 19 [.slice ao l.length cap, .int .i64 v] [Sl Ty.int ao cap l] [] (fun s : Option Addr × Nat => .slice s.1 (put l v).length s.2) (fun s => [Sl Ty.int s.1 s.2 (put l v)]) (fun _ => []) := by
  refine enter Try.func19 rfl Try.ntmps19 rfl fun b => ?_
  refine GX.wa_R ?_; intros
  refine GX.o (cl (put_spec ao cap l v hl hm) fun s => ?_)
  obtain ⟨a, c⟩ := s
  dsimp only
  refine GX.wa_R ?_; intros
  exact rt1 (a, c) rfl
instance : UTy Try.prog 9 Ty.string ByteArray.empty (.string ByteArray.empty) := ⟨Try.zeroValue9, fun _ _ => rfl⟩
set_option maxHeartbeats 2000000 in
theorem liveOps_does (op : Int) (_ : -9223372036854775808 ≤ op ∧ op ≤ 9223372036854775807) (p : Int) (_ : -9223372036854775808 ≤ p ∧ p ≤ 9223372036854775807) (q : Int) (_ : -9223372036854775808 ≤ q ∧ q ≤ 9223372036854775807) (r : Int) (_ : -9223372036854775808 ≤ r ∧ r ≤ 9223372036854775807) : Does Try.prog 6 [.int .i64 op, .int .i64 p, .int .i64 q, .int .i64 r] [] [] (fun _ : Unit => .bool true) (fun _ => []) (fun _ => []) := by
  refine enter Try.func6 rfl Try.ntmps6 rfl fun b => ?_
  by_cases h1 : op < 0
  · refine GX.wa_R ?_; intros
    exact rt1 () rfl
  by_cases h2 : 24 < op
  · refine GX.wa_R ?_; intros
    exact rt1 () rfl
  by_cases h3 : p < 0
  · refine GX.wa_R ?_; intros
    exact rt1 () rfl
  by_cases h4 : 20 < p
  · refine GX.wa_R ?_; intros
    exact rt1 () rfl
  by_cases h5 : q < 0
  · refine GX.wa_R ?_; intros
    exact rt1 () rfl
  by_cases h6 : 20 < q
  · refine GX.wa_R ?_; intros
    exact rt1 () rfl
  by_cases h7 : r < 0
  · refine GX.wa_R ?_; intros
    exact rt1 () rfl
  by_cases h8 : 20 < r
  · refine GX.wa_R ?_; intros
    exact rt1 () rfl
  obtain ⟨k, rfl⟩ := Int.eq_ofNat_of_zero_le (show 0 ≤ op by omega)
  have hk : k < 25 := by omega
  refine GX.wa_R ?_; intros
  refine GX.nmB 45 ?_; rintro bs rfl
  have hst := strs_get hk
  refine GX.slPl (bl := bs) k k ?_ (hj := hst) (ho := by show 0 + k * 1 = k; omega)
  refine GX.o (GX.lds ?_)
  refine GX.wa_RN ?_; intros
  refine GX.cut (σ := Bool) (fun t => [(0, .int .i64 (k : Int)), (1, .int .i64 p), (2, .int .i64 q), (3, .int .i64 r), (9, .string (strOf (lets k))), (10, .bool t)]) (fun _ => []) (fun _ => []) (fun t => t = decide (Sets (k : Int))) ?_ (fun t ht => ?_)
  · by_cases a1 : 1 ≤ (k : Int)
    · by_cases a2 : (k : Int) ≤ 6
      · refine GX.wa_R ?_; intros
        exact meet _ ⟨rfl, rfl, rfl, rfl, rfl, rfl, trivial⟩ (by first | exact (decide_eq_true (show Sets (k : Int) by unfold Sets; omega)).symm | exact (decide_eq_false (show ¬ Sets (k : Int) by unfold Sets; omega)).symm | exact decide_eq_decide.2 (by unfold Sets; omega))
      · by_cases a3 : (k : Int) = 8
        · refine GX.wa_R ?_; intros
          exact meet _ ⟨rfl, rfl, rfl, rfl, rfl, rfl, trivial⟩ (by first | exact (decide_eq_true (show Sets (k : Int) by unfold Sets; omega)).symm | exact (decide_eq_false (show ¬ Sets (k : Int) by unfold Sets; omega)).symm | exact decide_eq_decide.2 (by unfold Sets; omega))
        · by_cases a4 : 10 ≤ (k : Int)
          · by_cases a5 : (k : Int) ≤ 14
            · refine GX.wa_R ?_; intros
              exact meet _ ⟨rfl, rfl, rfl, rfl, rfl, rfl, trivial⟩ (by first | exact (decide_eq_true (show Sets (k : Int) by unfold Sets; omega)).symm | exact (decide_eq_false (show ¬ Sets (k : Int) by unfold Sets; omega)).symm | exact decide_eq_decide.2 (by unfold Sets; omega))
            · refine GX.wa_R ?_; intros
              exact meet _ ⟨rfl, rfl, rfl, rfl, rfl, rfl, trivial⟩ (by first | exact (decide_eq_true (show Sets (k : Int) by unfold Sets; omega)).symm | exact (decide_eq_false (show ¬ Sets (k : Int) by unfold Sets; omega)).symm | exact decide_eq_decide.2 (by unfold Sets; omega))
          · refine GX.wa_R ?_; intros
            exact meet _ ⟨rfl, rfl, rfl, rfl, rfl, rfl, trivial⟩ (by first | exact (decide_eq_true (show Sets (k : Int) by unfold Sets; omega)).symm | exact (decide_eq_false (show ¬ Sets (k : Int) by unfold Sets; omega)).symm | exact decide_eq_decide.2 (by unfold Sets; omega))
    · refine GX.wa_R ?_; intros
      exact meet _ ⟨rfl, rfl, rfl, rfl, rfl, rfl, trivial⟩ (by first | exact (decide_eq_true (show Sets (k : Int) by unfold Sets; omega)).symm | exact (decide_eq_false (show ¬ Sets (k : Int) by unfold Sets; omega)).symm | exact decide_eq_decide.2 (by unfold Sets; omega))
  have hsz := strOf_size (lets k)
  refine GX.wa_R ?_; intros
  refine slNil Ty.int ?_
  refine GX.loop (σ := Nat × (Option Addr × Nat)) (fun s => [(0, .int .i64 (k : Int)), (1, .int .i64 p), (2, .int .i64 q), (3, .int .i64 r), (9, .string (strOf (lets k))), (10, .bool t), (11, .slice s.2.1 (want k p q r s.1).length s.2.2), (12, .int .i64 (s.1 : Int))]) (fun s => [Sl Ty.int s.2.1 s.2.2 (want k p q r s.1)]) (fun _ => [])
    (fun s => s.1 ≤ (lets k).length) (fun s => (lets k).length - s.1) (0, (none, 0)) ⟨rfl, rfl, rfl, rfl, rfl, rfl, rfl, rfl, trivial⟩ (Nat.zero_le _) (fun s hs => ?_)
  obtain ⟨i, a, c⟩ := s
  dsimp only at *
  have hll : (lets k).length ≤ 3 := by unfold lets; split <;> simp
  refine GX.wa_R ?_; intros
  refine GX.o (GX.lns ?_)
  by_cases hlt : i < (lets k).length
  · obtain ⟨l, hl⟩ := get_lt hlt
    have hl2 := lets_small hk l (List.mem_of_getElem? hl)
    have hy : ([p, q, r] : List Int)[l]? = some ([p, q, r].getD l 0) := by
      match l, hl2 with
      | 0, _ => rfl
      | 1, _ => rfl
      | 2, _ => rfl
    refine GX.wa_R ?_; intros
    refine GX.o (GX.ixs ?_ (strOf_get hl))
    refine GX.wa_R ?_; intros
    rw [letter hl2]
    refine GX.wa_R ?_; intros
    refine GX.nmB 81 ?_; rintro bb rfl
    refine GX.slPl (bl := bb) l l ?_ (hj := hy) (ho := by show 0 + l * 1 = l; omega)
    refine GX.wa_R ?_; intros
    refine GX.o (cl (putP_spec a c (want k p q r i) _ (want_rise k p q r i) (want_len k p q r i)) fun s => ?_)
    obtain ⟨a2, c2⟩ := s
    dsimp only
    rw [← want_succ hl]
    refine GX.wa_R ?_; intros
    exact again (i + 1, (a2, c2)) ⟨rfl, rfl, rfl, rfl, rfl, rfl, rfl, rfl, trivial⟩ (by dsimp only; omega) (by dsimp only; omega)
  have hi : i = (lets k).length := by omega
  subst hi
  rw [want_all hk ⟨by omega, by omega⟩ ⟨by omega, by omega⟩ ⟨by omega, by omega⟩]
  have hu : decide (uses ⟨k, p, q, r, 7, []⟩ = uses ⟨k, p, q, r, 7, []⟩) = true := decide_eq_true rfl
  by_cases hs : Sets (k : Int)
  · have ht1 : t = true := by rw [ht]; exact decide_eq_true hs
    have hd : def_ ⟨k, p, q, r, 7, []⟩ = p := if_pos ⟨hs, ⟨by dsimp only; omega, by dsimp only; omega⟩⟩
    refine GX.wa_R ?_; intros
    refine GX.o (cl (uses_spec _ ⟨k, p, q, r, 7, []⟩ (Nat.zero_le _)) fun s => ?_)
    obtain ⟨a2, c2⟩ := s
    dsimp only
    refine GX.wa_R ?_; intros
    refine GX.o (cl (ints_same _ _ _ _ (uses ⟨k, p, q, r, 7, []⟩) (uses ⟨k, p, q, r, 7, []⟩)) fun _ => ?_)
    rw [hu]
    refine GX.wa_R ?_; intros
    refine GX.o (cl (def_spec _ ⟨k, p, q, r, 7, []⟩) fun _ => ?_)
    rw [hd]
    refine GX.wa_R ?_; intros
    refine GX.o (cl known16_spec fun _ => ?_)
    refine GX.wa_R ?_; intros
    exact rt1 () rfl
  · have ht1 : t = false := by rw [ht]; exact decide_eq_false hs
    have hd : def_ ⟨k, p, q, r, 7, []⟩ = -1 := if_neg fun h => hs h.1
    refine GX.wa_R ?_; intros
    refine GX.o (cl (uses_spec _ ⟨k, p, q, r, 7, []⟩ (Nat.zero_le _)) fun s => ?_)
    obtain ⟨a2, c2⟩ := s
    dsimp only
    refine GX.wa_R ?_; intros
    refine GX.o (cl (ints_same _ _ _ _ (uses ⟨k, p, q, r, 7, []⟩) (uses ⟨k, p, q, r, 7, []⟩)) fun _ => ?_)
    rw [hu]
    refine GX.wa_R ?_; intros
    refine GX.o (cl (def_spec _ ⟨k, p, q, r, 7, []⟩) fun _ => ?_)
    rw [hd]
    refine GX.wa_R ?_; intros
    refine GX.o (cl known16_spec fun _ => ?_)
    refine GX.wa_R ?_; intros
    exact rt1 () rfl
theorem liveOps_own : ownKnob Try.prog.godebug = none := by kernel_rfl
theorem liveOps_laidOut : laidOutB Try.prog = true := by kernel_rfl
set_option maxRecDepth 100000 in
theorem liveOps_lifted (os : Os) (started : os.Started) (H : Type) (enc : TypeId × Value → H) :
    ReturnsInHanded {} Try.checked os 6 .any (Rows.liveOpsSpec.pre6 enc Try.prog Try.f6 Rows.liveOpsRow.domain false) (Rows.liveOpsSpec.post enc Try.prog Try.f6 false true false false) := by
  refine returnsInHanded_of_change (C := Try.checked) liveOps_own started (by kernel_rfl) Try.func6
    (ChangeSpec.witness6 (enc := enc) (C := Try.checked) false ⟨#[], #[.int .i64 0, .int .i64 0, .int .i64 0, .int .i64 0], []⟩ 8 (by kernel_rfl) (by kernel_rfl) (by kernel_rfl) (by kernel_rfl)) ?_
  intro W base args ds gs before hval0 hW hcnd _
  have hval : ∀ (j : Nat) t v, Try.f6.params[j]? = some t → args[j]? = some v → Value.okWide Try.prog W .any base t v := hval0
  have hW' := hW
  obtain ⟨p, q, hA0, hV, rfl, hfz, hnd⟩ := hW
  have hA : DataW.TrodAll enc Try.prog W 0 (fun _ => true) true Try.f6.params.toList args.toList ds p := hA0
  rw [Try.params6] at hA hval
  obtain ⟨v0, vs0, d0, ds0, p0, q0, hargs, rfl, rfl, h0, r0⟩ := trodAll_cons hA
  obtain ⟨v1, vs1, d1, ds1, p1, q1, rfl, rfl, rfl, h1, r1⟩ := trodAll_cons r0
  obtain ⟨v2, vs2, d2, ds2, p2, q2, rfl, rfl, rfl, h2, r2⟩ := trodAll_cons r1
  obtain ⟨v3, vs3, d3, ds3, p3, q3, rfl, rfl, rfl, h3, r3⟩ := trodAll_cons r2
  obtain ⟨rfl, rfl, rfl⟩ := trodAll_nil r3
  obtain rfl : args = #[v0, v1, v2, v3] := by cases args; simp_all
  obtain ⟨rfl, rfl⟩ := trodVars_none hV
  have hlt := hW'.lt
  have hl0 : ∀ x ∈ p0, x.block < W.heap.size := fun x hx => hlt x (by simp [hx])
  obtain ⟨a0, rfl, e0, g0, w0⟩ := open_int Try.underlying3 (hval 0 3 v0 rfl rfl) h0
  have b0 : -9223372036854775808 ≤ a0 ∧ a0 ≤ 9223372036854775807 := wf_i64 w0
  have hl1 : ∀ x ∈ p1, x.block < W.heap.size := fun x hx => hlt x (by simp [hx])
  obtain ⟨a1, rfl, e1, g1, w1⟩ := open_int Try.underlying3 (hval 1 3 v1 rfl rfl) h1
  have b1 : -9223372036854775808 ≤ a1 ∧ a1 ≤ 9223372036854775807 := wf_i64 w1
  have hl2 : ∀ x ∈ p2, x.block < W.heap.size := fun x hx => hlt x (by simp [hx])
  obtain ⟨a2, rfl, e2, g2, w2⟩ := open_int Try.underlying3 (hval 2 3 v2 rfl rfl) h2
  have b2 : -9223372036854775808 ≤ a2 ∧ a2 ≤ 9223372036854775807 := wf_i64 w2
  have hl3 : ∀ x ∈ p3, x.block < W.heap.size := fun x hx => hlt x (by simp [hx])
  obtain ⟨a3, rfl, e3, g3, w3⟩ := open_int Try.underlying3 (hval 3 3 v3 rfl rfl) h3
  have b3 : -9223372036854775808 ≤ a3 ∧ a3 ≤ 9223372036854775807 := wf_i64 w3
  refine ((liveOps_does a0 b0 a1 b1 a2 b2 a3 b3).calls W all_nil).mono fun e W' ⟨he, hu⟩ => ?_
  subst he
  have hb := hu.below
  exact ⟨_, rfl, _, _, _, [], _, [], hW', trodAll_cons_mk (shut_bool Try.underlying4 _) trodAll_mk0, (trodAll_cons_mk (hb.trod liveOps_laidOut (by kernel_rfl) (of_decide_eq_true (by kernel_rfl)) h0 hl0) (trodAll_cons_mk (hb.trod liveOps_laidOut (by kernel_rfl) (of_decide_eq_true (by kernel_rfl)) h1 hl1) (trodAll_cons_mk (hb.trod liveOps_laidOut (by kernel_rfl) (of_decide_eq_true (by kernel_rfl)) h2 hl2) (trodAll_cons_mk (hb.trod liveOps_laidOut (by kernel_rfl) (of_decide_eq_true (by kernel_rfl)) h3 hl3) trodAll_mk0)))), rfl, hb.frame _, fun h => by cases h⟩
theorem liveOps_holds : Rows.LiveOpsSaid :=
  OpenClaim.holds_of_wide 6 Try.f6 rfl rfl rfl rfl rfl rfl rfl ⟨rfl, rfl, rfl, rfl, rfl⟩ rfl rfl rfl rfl rfl (by kernel_rfl) Try.func6 (by kernel_rfl)
    (of_decide_eq_true (by kernel_rfl)) (by unfold Func.isWrapper; first | (rw [if_pos (by decide +kernel)]; kernel_rfl) | (rw [if_neg (by decide +kernel)]; exact ⟨rfl, rfl⟩))
    (fun os started H enc _ => liveOps_lifted os started H enc)
end Go.Proofs.Ytnpbadghodkhlaa
