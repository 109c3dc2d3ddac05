/- The walk over the reference's Sets. -/
import Derived.Test.YtfcmohfddjcfkaaRef15F
namespace Go.Proofs.Ytfcmohfddjcfkaa
open Go Go.RR Go.RX Go.FindM
attribute [local irreducible] wpList Code.wp wpPlan Exit.then Exit.inBlock bodyPost NoPanic Went

theorem elems_self {lst : List Nat} (hf : Fix lst) {i : Nat} (hi : i < lst.length) : elems lst i i = [] := by
  apply List.eq_nil_iff_forall_not_mem.2
  intro j hj
  obtain ⟨h1, h2⟩ := elems_mem.1 hj
  have := hf.le j (by omega)
  omega
/-- All sets whose heads are below i. -/
def setsBelow (lst : List Nat) (i : Nat) : List (List Nat) := (heads lst i).map (elems lst lst.length)
theorem setsBelow_succ (lst : List Nat) (i : Nat) : setsBelow lst (i + 1) = setsBelow lst i ++ (if lst.getD i 0 = i then [elems lst lst.length i] else []) := by
  unfold setsBelow
  rw [heads_succ, List.map_append]
  split <;> simp
theorem setsBelow_len (lst : List Nat) (i : Nat) : (setsBelow lst i).length ≤ i := by
  unfold setsBelow
  rw [List.length_map]; exact heads_len lst i

set_option maxHeartbeats 1000000 in
theorem rsets_any (w : World) (pb : Nat) (lv : Value) (lst : List Nat) (hf : RefAt w pb lv lst) (hfix : Fix lst) :
    Calls Try.prog 16 #[.pointer (some ⟨pb, 0, none⟩)] w fun e w' => ∃ v, e = .returned v ∧ SetsAt w' w.heap.size v (sets lst) ∧ Upd (fun _ => False) w w' := by
  have hsz := hf.size
  have hp0 := hf.head.cell_some (i := 0) rfl
  refine enter1 Try.func16 rfl Try.ntmps16 rfl ?_
  repeat (first
    | (refine RX.opw (by first | exact RX.plain rfl | exact RX.guarded rfl rfl rfl (by with_reducible rfl)) ?_; first | refine RX.soft (RX.move rfl) rfl ?_ | refine RX.soft (RX.assign rfl) rfl ?_ | refine RX.soft (RX.nilCheck_ptr rfl) rfl ?_ | refine RX.soft (RX.fieldAddr0 rfl) rfl ?_ | refine RX.soft (RX.fieldAddrH rfl) rfl ?_ | refine RX.soft (RX.fieldAddr rfl) rfl ?_ | refine RX.soft (RX.load_at rfl (by assumption)) rfl ?_ | refine RX.soft (RX.lookup_at rfl rfl (by assumption)) rfl ?_ | (refine RX.isBin ?_; first | refine RX.soft (RX.lss rfl rfl) rfl ?_ | refine RX.soft (RX.eql rfl rfl) rfl ?_ | refine RX.soft (RX.neq rfl rfl) rfl ?_ | refine RX.soft (RX.geq rfl rfl) rfl ?_ | refine RX.soft (RX.gtr rfl rfl) rfl ?_ | refine RX.soft (RX.leq rfl rfl) rfl ?_ | refine RX.soft (RX.add_one rfl rfl (by omega)) rfl ?_ | refine RX.soft (RX.add_in rfl rfl (by omega)) rfl ?_ | refine RX.soft (RX.sub_in rfl rfl (by omega)) rfl ?_ | refine RX.soft (RX.eql_ptr_nil rfl rfl) rfl ?_ | refine RX.soft (RX.eql_nil_nil rfl rfl) rfl ?_ | refine RX.soft (RX.neq_ptr_nil rfl rfl) rfl ?_ | refine RX.soft (RX.neq_nil_nil rfl rfl) rfl ?_ | refine RX.soft (RX.eql_same rfl rfl (by with_reducible rfl)) rfl ?_ | refine RX.soft (RX.eql_tf rfl rfl (by with_reducible rfl) (by with_reducible rfl)) rfl ?_ | refine RX.soft (RX.eql_ft rfl rfl (by with_reducible rfl) (by with_reducible rfl)) rfl ?_ | refine RX.soft (RX.neq_same rfl rfl (by with_reducible rfl)) rfl ?_ | refine RX.soft (RX.neq_tf rfl rfl (by with_reducible rfl) (by with_reducible rfl)) rfl ?_ | refine RX.soft (RX.neq_ft rfl rfl (by with_reducible rfl) (by with_reducible rfl)) rfl ?_ | refine RX.soft (RX.eql_bool rfl rfl) rfl ?_ | refine RX.soft (RX.neq_bool rfl rfl) rfl ?_) | (refine RX.isCall ?_; first | refine RX.soft (RX.len_slice rfl) rfl ?_ | refine RX.soft (RX.max2 rfl rfl) rfl ?_ | refine RX.soft (RX.min2 rfl rfl) rfl ?_) | refine RX.soft (RX.indexAddr1 rfl rfl (by omega)) rfl ?_ | refine RX.soft (RX.indexAddrO rfl rfl (by omega)) rfl ?_ | refine RX.soft (RX.indexAddrS rfl rfl (by omega)) rfl ?_ | refine RX.soft (RX.pick_true rfl (by with_reducible rfl) rfl) rfl ?_ | refine RX.soft (RX.pick_false rfl (by with_reducible rfl) rfl) rfl ?_ | refine RX.soft (RX.not_t rfl (by with_reducible rfl)) rfl ?_ | refine RX.soft (RX.not_f rfl (by with_reducible rfl)) rfl ?_ | refine RX.soft (RX.not rfl) rfl ?_ | refine RX.soft (RX.extract rfl rfl) rfl ?_ | refine RX.soft (RX.build rfl (by intro w; simp [Instr.build, Instr.fill] <;> rfl)) rfl ?_ | refine RX.slice_one rfl rfl rfl rfl ?_)
    | refine RX.guard_true rfl rfl (by with_reducible rfl) (by first | omega | (with_reducible assumption)) ?_
    | refine RX.guard_false rfl rfl (by with_reducible rfl) (by first | omega | (with_reducible assumption)) ?_
    | refine RX.nil ?_
    | refine RX.then_normal ?_
    | refine RX.seq ?_
    | refine RX.region ?_
    | refine RX.cond_true rfl (by with_reducible rfl) ?_
    | refine RX.cond_false rfl (by with_reducible rfl) ?_
    | refine RX.skip ?_
    | refine RX.block ?_
    | refine RX.inBlock_normal ?_
    | refine RX.exit ?_
    | refine RX.then_exit ?_
    | refine RX.inBlock_exit ?_
    | refine RX.inBlock_other rfl ?_
    | refine RX.ret ?_
    | refine RX.then_ret ?_
    | refine RX.inBlock_ret ?_
    | refine RX.unwanted (by first | exact RX.barred_t rfl rfl rfl (by with_reducible rfl) | exact RX.barred_f rfl rfl rfl (by with_reducible rfl)) rfl ?_
    | refine RX.unwanted_none (by first | exact RX.barred_t rfl rfl rfl (by with_reducible rfl) | exact RX.barred_f rfl rfl rfl (by with_reducible rfl)) ?_
    | refine RX.cond rfl (fun h => absurd h (by first | omega | (with_reducible assumption))) (fun _ => ?_)
    | refine RX.cond rfl (fun _ => ?_) (fun h => absurd (by first | omega | (with_reducible assumption)) h))
  refine RX.loop (σ := Nat × Value) (fun s => [(0, .pointer (some ⟨pb, 0, none⟩)), (3, s.2), (4, .int .i64 (s.1 : Int))])
    (fun s wr => s.1 ≤ lst.length ∧ (∃ cs, Grid wr w.heap.size 36 3 s.2 cs ((setsBelow lst s.1).map nats)) ∧ Upd (fun _ => False) w wr) (fun s => lst.length - s.1) (0, .slice none 0 0) ⟨rfl, rfl, rfl, trivial⟩ ⟨by simp, ⟨[], Grid.nil _ _ _ _⟩, Upd.refl _ _⟩ ?_
  rintro ⟨i, v⟩ wr ⟨hi, ⟨cs, hg⟩, hu⟩
  dsimp only at hi hg ⊢
  have hfr := hf.keep hu (by simp) (by simp)
  have hp := hfr.head.cell_some (i := 0) rfl
  have hb := hfr.body
  have hsl := setsBelow_len lst i
  clear hp0
  by_cases hlt : i < lst.length
  · obtain ⟨g, cap, rfl, _, harr⟩ := arr_of_owns hb (by omega)
    have hci := harr.cell (nats_get (i := i) hlt rfl)
    repeat (first
      | (refine RX.opw (by first | exact RX.plain rfl | exact RX.guarded rfl rfl rfl (by with_reducible rfl)) ?_; first | refine RX.soft (RX.move rfl) rfl ?_ | refine RX.soft (RX.assign rfl) rfl ?_ | refine RX.soft (RX.nilCheck_ptr rfl) rfl ?_ | refine RX.soft (RX.fieldAddr0 rfl) rfl ?_ | refine RX.soft (RX.fieldAddrH rfl) rfl ?_ | refine RX.soft (RX.fieldAddr rfl) rfl ?_ | refine RX.soft (RX.load_at rfl (by assumption)) rfl ?_ | refine RX.soft (RX.lookup_at rfl rfl (by assumption)) rfl ?_ | (refine RX.isBin ?_; first | refine RX.soft (RX.lss rfl rfl) rfl ?_ | refine RX.soft (RX.eql rfl rfl) rfl ?_ | refine RX.soft (RX.neq rfl rfl) rfl ?_ | refine RX.soft (RX.geq rfl rfl) rfl ?_ | refine RX.soft (RX.gtr rfl rfl) rfl ?_ | refine RX.soft (RX.leq rfl rfl) rfl ?_ | refine RX.soft (RX.add_one rfl rfl (by omega)) rfl ?_ | refine RX.soft (RX.add_in rfl rfl (by omega)) rfl ?_ | refine RX.soft (RX.sub_in rfl rfl (by omega)) rfl ?_ | refine RX.soft (RX.eql_ptr_nil rfl rfl) rfl ?_ | refine RX.soft (RX.eql_nil_nil rfl rfl) rfl ?_ | refine RX.soft (RX.neq_ptr_nil rfl rfl) rfl ?_ | refine RX.soft (RX.neq_nil_nil rfl rfl) rfl ?_ | refine RX.soft (RX.eql_same rfl rfl (by with_reducible rfl)) rfl ?_ | refine RX.soft (RX.eql_tf rfl rfl (by with_reducible rfl) (by with_reducible rfl)) rfl ?_ | refine RX.soft (RX.eql_ft rfl rfl (by with_reducible rfl) (by with_reducible rfl)) rfl ?_ | refine RX.soft (RX.neq_same rfl rfl (by with_reducible rfl)) rfl ?_ | refine RX.soft (RX.neq_tf rfl rfl (by with_reducible rfl) (by with_reducible rfl)) rfl ?_ | refine RX.soft (RX.neq_ft rfl rfl (by with_reducible rfl) (by with_reducible rfl)) rfl ?_ | refine RX.soft (RX.eql_bool rfl rfl) rfl ?_ | refine RX.soft (RX.neq_bool rfl rfl) rfl ?_) | (refine RX.isCall ?_; first | refine RX.soft (RX.len_slice rfl) rfl ?_ | refine RX.soft (RX.max2 rfl rfl) rfl ?_ | refine RX.soft (RX.min2 rfl rfl) rfl ?_) | refine RX.soft (RX.indexAddr1 rfl rfl (by omega)) rfl ?_ | refine RX.soft (RX.indexAddrO rfl rfl (by omega)) rfl ?_ | refine RX.soft (RX.indexAddrS rfl rfl (by omega)) rfl ?_ | refine RX.soft (RX.pick_true rfl (by with_reducible rfl) rfl) rfl ?_ | refine RX.soft (RX.pick_false rfl (by with_reducible rfl) rfl) rfl ?_ | refine RX.soft (RX.not_t rfl (by with_reducible rfl)) rfl ?_ | refine RX.soft (RX.not_f rfl (by with_reducible rfl)) rfl ?_ | refine RX.soft (RX.not rfl) rfl ?_ | refine RX.soft (RX.extract rfl rfl) rfl ?_ | refine RX.soft (RX.build rfl (by intro w; simp [Instr.build, Instr.fill] <;> rfl)) rfl ?_ | refine RX.slice_one rfl rfl rfl rfl ?_)
      | refine RX.guard_true rfl rfl (by with_reducible rfl) (by first | omega | (with_reducible assumption)) ?_
      | refine RX.guard_false rfl rfl (by with_reducible rfl) (by first | omega | (with_reducible assumption)) ?_
      | refine RX.nil ?_
      | refine RX.then_normal ?_
      | refine RX.seq ?_
      | refine RX.region ?_
      | refine RX.cond_true rfl (by with_reducible rfl) ?_
      | refine RX.cond_false rfl (by with_reducible rfl) ?_
      | refine RX.skip ?_
      | refine RX.block ?_
      | refine RX.inBlock_normal ?_
      | refine RX.exit ?_
      | refine RX.then_exit ?_
      | refine RX.inBlock_exit ?_
      | refine RX.inBlock_other rfl ?_
      | refine RX.ret ?_
      | refine RX.then_ret ?_
      | refine RX.inBlock_ret ?_
      | refine RX.unwanted (by first | exact RX.barred_t rfl rfl rfl (by with_reducible rfl) | exact RX.barred_f rfl rfl rfl (by with_reducible rfl)) rfl ?_
      | refine RX.unwanted_none (by first | exact RX.barred_t rfl rfl rfl (by with_reducible rfl) | exact RX.barred_f rfl rfl rfl (by with_reducible rfl)) ?_
      | refine RX.cond rfl (fun h => absurd h (by first | omega | (with_reducible assumption))) (fun _ => ?_)
      | refine RX.cond rfl (fun _ => ?_) (fun h => absurd (by first | omega | (with_reducible assumption)) h))
    refine RX.cond rfl (fun h => ?_) (fun h => ?_)
    · have hne : ¬ lst.getD i 0 = i := by omega
      repeat (first
        | (refine RX.opw (by first | exact RX.plain rfl | exact RX.guarded rfl rfl rfl (by with_reducible rfl)) ?_; first | refine RX.soft (RX.move rfl) rfl ?_ | refine RX.soft (RX.assign rfl) rfl ?_ | refine RX.soft (RX.nilCheck_ptr rfl) rfl ?_ | refine RX.soft (RX.fieldAddr0 rfl) rfl ?_ | refine RX.soft (RX.fieldAddrH rfl) rfl ?_ | refine RX.soft (RX.fieldAddr rfl) rfl ?_ | refine RX.soft (RX.load_at rfl (by assumption)) rfl ?_ | refine RX.soft (RX.lookup_at rfl rfl (by assumption)) rfl ?_ | (refine RX.isBin ?_; first | refine RX.soft (RX.lss rfl rfl) rfl ?_ | refine RX.soft (RX.eql rfl rfl) rfl ?_ | refine RX.soft (RX.neq rfl rfl) rfl ?_ | refine RX.soft (RX.geq rfl rfl) rfl ?_ | refine RX.soft (RX.gtr rfl rfl) rfl ?_ | refine RX.soft (RX.leq rfl rfl) rfl ?_ | refine RX.soft (RX.add_one rfl rfl (by omega)) rfl ?_ | refine RX.soft (RX.add_in rfl rfl (by omega)) rfl ?_ | refine RX.soft (RX.sub_in rfl rfl (by omega)) rfl ?_ | refine RX.soft (RX.eql_ptr_nil rfl rfl) rfl ?_ | refine RX.soft (RX.eql_nil_nil rfl rfl) rfl ?_ | refine RX.soft (RX.neq_ptr_nil rfl rfl) rfl ?_ | refine RX.soft (RX.neq_nil_nil rfl rfl) rfl ?_ | refine RX.soft (RX.eql_same rfl rfl (by with_reducible rfl)) rfl ?_ | refine RX.soft (RX.eql_tf rfl rfl (by with_reducible rfl) (by with_reducible rfl)) rfl ?_ | refine RX.soft (RX.eql_ft rfl rfl (by with_reducible rfl) (by with_reducible rfl)) rfl ?_ | refine RX.soft (RX.neq_same rfl rfl (by with_reducible rfl)) rfl ?_ | refine RX.soft (RX.neq_tf rfl rfl (by with_reducible rfl) (by with_reducible rfl)) rfl ?_ | refine RX.soft (RX.neq_ft rfl rfl (by with_reducible rfl) (by with_reducible rfl)) rfl ?_ | refine RX.soft (RX.eql_bool rfl rfl) rfl ?_ | refine RX.soft (RX.neq_bool rfl rfl) rfl ?_) | (refine RX.isCall ?_; first | refine RX.soft (RX.len_slice rfl) rfl ?_ | refine RX.soft (RX.max2 rfl rfl) rfl ?_ | refine RX.soft (RX.min2 rfl rfl) rfl ?_) | refine RX.soft (RX.indexAddr1 rfl rfl (by omega)) rfl ?_ | refine RX.soft (RX.indexAddrO rfl rfl (by omega)) rfl ?_ | refine RX.soft (RX.indexAddrS rfl rfl (by omega)) rfl ?_ | refine RX.soft (RX.pick_true rfl (by with_reducible rfl) rfl) rfl ?_ | refine RX.soft (RX.pick_false rfl (by with_reducible rfl) rfl) rfl ?_ | refine RX.soft (RX.not_t rfl (by with_reducible rfl)) rfl ?_ | refine RX.soft (RX.not_f rfl (by with_reducible rfl)) rfl ?_ | refine RX.soft (RX.not rfl) rfl ?_ | refine RX.soft (RX.extract rfl rfl) rfl ?_ | refine RX.soft (RX.build rfl (by intro w; simp [Instr.build, Instr.fill] <;> rfl)) rfl ?_ | refine RX.slice_one rfl rfl rfl rfl ?_)
        | refine RX.guard_true rfl rfl (by with_reducible rfl) (by first | omega | (with_reducible assumption)) ?_
        | refine RX.guard_false rfl rfl (by with_reducible rfl) (by first | omega | (with_reducible assumption)) ?_
        | refine RX.nil ?_
        | refine RX.then_normal ?_
        | refine RX.seq ?_
        | refine RX.region ?_
        | refine RX.cond_true rfl (by with_reducible rfl) ?_
        | refine RX.cond_false rfl (by with_reducible rfl) ?_
        | refine RX.skip ?_
        | refine RX.block ?_
        | refine RX.inBlock_normal ?_
        | refine RX.exit ?_
        | refine RX.then_exit ?_
        | refine RX.inBlock_exit ?_
        | refine RX.inBlock_other rfl ?_
        | refine RX.ret ?_
        | refine RX.then_ret ?_
        | refine RX.inBlock_ret ?_
        | refine RX.unwanted (by first | exact RX.barred_t rfl rfl rfl (by with_reducible rfl) | exact RX.barred_f rfl rfl rfl (by with_reducible rfl)) rfl ?_
        | refine RX.unwanted_none (by first | exact RX.barred_t rfl rfl rfl (by with_reducible rfl) | exact RX.barred_f rfl rfl rfl (by with_reducible rfl)) ?_
        | refine RX.cond rfl (fun h => absurd h (by first | omega | (with_reducible assumption))) (fun _ => ?_)
        | refine RX.cond rfl (fun _ => ?_) (fun h => absurd (by first | omega | (with_reducible assumption)) h))
      exact RX.again (i + 1, v) ⟨rfl, rfl, rfl, trivial⟩ ⟨by dsimp only; omega, ⟨cs, by dsimp only; rw [setsBelow_succ, if_neg hne, List.append_nil]; exact hg⟩, hu⟩ (by dsimp only; omega)
    · have heq : lst.getD i 0 = i := by omega
      repeat (first
        | (refine RX.opw (by first | exact RX.plain rfl | exact RX.guarded rfl rfl rfl (by with_reducible rfl)) ?_; first | refine RX.soft (RX.move rfl) rfl ?_ | refine RX.soft (RX.assign rfl) rfl ?_ | refine RX.soft (RX.nilCheck_ptr rfl) rfl ?_ | refine RX.soft (RX.fieldAddr0 rfl) rfl ?_ | refine RX.soft (RX.fieldAddrH rfl) rfl ?_ | refine RX.soft (RX.fieldAddr rfl) rfl ?_ | refine RX.soft (RX.load_at rfl (by assumption)) rfl ?_ | refine RX.soft (RX.lookup_at rfl rfl (by assumption)) rfl ?_ | (refine RX.isBin ?_; first | refine RX.soft (RX.lss rfl rfl) rfl ?_ | refine RX.soft (RX.eql rfl rfl) rfl ?_ | refine RX.soft (RX.neq rfl rfl) rfl ?_ | refine RX.soft (RX.geq rfl rfl) rfl ?_ | refine RX.soft (RX.gtr rfl rfl) rfl ?_ | refine RX.soft (RX.leq rfl rfl) rfl ?_ | refine RX.soft (RX.add_one rfl rfl (by omega)) rfl ?_ | refine RX.soft (RX.add_in rfl rfl (by omega)) rfl ?_ | refine RX.soft (RX.sub_in rfl rfl (by omega)) rfl ?_ | refine RX.soft (RX.eql_ptr_nil rfl rfl) rfl ?_ | refine RX.soft (RX.eql_nil_nil rfl rfl) rfl ?_ | refine RX.soft (RX.neq_ptr_nil rfl rfl) rfl ?_ | refine RX.soft (RX.neq_nil_nil rfl rfl) rfl ?_ | refine RX.soft (RX.eql_same rfl rfl (by with_reducible rfl)) rfl ?_ | refine RX.soft (RX.eql_tf rfl rfl (by with_reducible rfl) (by with_reducible rfl)) rfl ?_ | refine RX.soft (RX.eql_ft rfl rfl (by with_reducible rfl) (by with_reducible rfl)) rfl ?_ | refine RX.soft (RX.neq_same rfl rfl (by with_reducible rfl)) rfl ?_ | refine RX.soft (RX.neq_tf rfl rfl (by with_reducible rfl) (by with_reducible rfl)) rfl ?_ | refine RX.soft (RX.neq_ft rfl rfl (by with_reducible rfl) (by with_reducible rfl)) rfl ?_ | refine RX.soft (RX.eql_bool rfl rfl) rfl ?_ | refine RX.soft (RX.neq_bool rfl rfl) rfl ?_) | (refine RX.isCall ?_; first | refine RX.soft (RX.len_slice rfl) rfl ?_ | refine RX.soft (RX.max2 rfl rfl) rfl ?_ | refine RX.soft (RX.min2 rfl rfl) rfl ?_) | refine RX.soft (RX.indexAddr1 rfl rfl (by omega)) rfl ?_ | refine RX.soft (RX.indexAddrO rfl rfl (by omega)) rfl ?_ | refine RX.soft (RX.indexAddrS rfl rfl (by omega)) rfl ?_ | refine RX.soft (RX.pick_true rfl (by with_reducible rfl) rfl) rfl ?_ | refine RX.soft (RX.pick_false rfl (by with_reducible rfl) rfl) rfl ?_ | refine RX.soft (RX.not_t rfl (by with_reducible rfl)) rfl ?_ | refine RX.soft (RX.not_f rfl (by with_reducible rfl)) rfl ?_ | refine RX.soft (RX.not rfl) rfl ?_ | refine RX.soft (RX.extract rfl rfl) rfl ?_ | refine RX.soft (RX.build rfl (by intro w; simp [Instr.build, Instr.fill] <;> rfl)) rfl ?_ | refine RX.slice_one rfl rfl rfl rfl ?_)
        | refine RX.guard_true rfl rfl (by with_reducible rfl) (by first | omega | (with_reducible assumption)) ?_
        | refine RX.guard_false rfl rfl (by with_reducible rfl) (by first | omega | (with_reducible assumption)) ?_
        | refine RX.nil ?_
        | refine RX.then_normal ?_
        | refine RX.seq ?_
        | refine RX.region ?_
        | refine RX.cond_true rfl (by with_reducible rfl) ?_
        | refine RX.cond_false rfl (by with_reducible rfl) ?_
        | refine RX.skip ?_
        | refine RX.block ?_
        | refine RX.inBlock_normal ?_
        | refine RX.exit ?_
        | refine RX.then_exit ?_
        | refine RX.inBlock_exit ?_
        | refine RX.inBlock_other rfl ?_
        | refine RX.ret ?_
        | refine RX.then_ret ?_
        | refine RX.inBlock_ret ?_
        | refine RX.unwanted (by first | exact RX.barred_t rfl rfl rfl (by with_reducible rfl) | exact RX.barred_f rfl rfl rfl (by with_reducible rfl)) rfl ?_
        | refine RX.unwanted_none (by first | exact RX.barred_t rfl rfl rfl (by with_reducible rfl) | exact RX.barred_f rfl rfl rfl (by with_reducible rfl)) ?_
        | refine RX.cond rfl (fun h => absurd h (by first | omega | (with_reducible assumption))) (fun _ => ?_)
        | refine RX.cond rfl (fun _ => ?_) (fun h => absurd (by first | omega | (with_reducible assumption)) h))
      refine RX.loop (σ := Nat × Value) (fun s => [(0, .pointer (some ⟨pb, 0, none⟩)), (3, v), (4, .int .i64 (i : Int)), (5, s.2), (6, .int .i64 (s.1 : Int))])
        (fun s wk => i ≤ s.1 ∧ s.1 ≤ lst.length ∧ wk.ownsRow wr.heap.size 3 1 s.2 (elems lst s.1 i).length (nats (elems lst s.1 i)) ∧ Upd (fun _ => False) wr wk) (fun s => lst.length - s.1) (i, .slice none 0 0) ⟨rfl, rfl, rfl, rfl, rfl, trivial⟩ ⟨by simp, by simpa using hi, by dsimp only; rw [elems_self hfix hlt]; exact owns_nil _ _ _ _, Upd.refl _ _⟩ ?_
      rintro ⟨k, sv⟩ wk ⟨hik, hkn, hos, huk⟩
      dsimp only at hik hkn hos ⊢
      have hfk := hfr.keep huk (by simp) (by simp)
      clear hp hci
      have hp := hfk.head.cell_some (i := 0) rfl
      have harrk := harr.keep huk (fun h => h)
      have hwk := huk.size
      have hw := hu.size
      have hel := elems_len lst k i
      by_cases hk : k < lst.length
      · have hck := harrk.cell (nats_get (i := k) hk rfl)
        repeat (first
          | (refine RX.opw (by first | exact RX.plain rfl | exact RX.guarded rfl rfl rfl (by with_reducible rfl)) ?_; first | refine RX.soft (RX.move rfl) rfl ?_ | refine RX.soft (RX.assign rfl) rfl ?_ | refine RX.soft (RX.nilCheck_ptr rfl) rfl ?_ | refine RX.soft (RX.fieldAddr0 rfl) rfl ?_ | refine RX.soft (RX.fieldAddrH rfl) rfl ?_ | refine RX.soft (RX.fieldAddr rfl) rfl ?_ | refine RX.soft (RX.load_at rfl (by assumption)) rfl ?_ | refine RX.soft (RX.lookup_at rfl rfl (by assumption)) rfl ?_ | (refine RX.isBin ?_; first | refine RX.soft (RX.lss rfl rfl) rfl ?_ | refine RX.soft (RX.eql rfl rfl) rfl ?_ | refine RX.soft (RX.neq rfl rfl) rfl ?_ | refine RX.soft (RX.geq rfl rfl) rfl ?_ | refine RX.soft (RX.gtr rfl rfl) rfl ?_ | refine RX.soft (RX.leq rfl rfl) rfl ?_ | refine RX.soft (RX.add_one rfl rfl (by omega)) rfl ?_ | refine RX.soft (RX.add_in rfl rfl (by omega)) rfl ?_ | refine RX.soft (RX.sub_in rfl rfl (by omega)) rfl ?_ | refine RX.soft (RX.eql_ptr_nil rfl rfl) rfl ?_ | refine RX.soft (RX.eql_nil_nil rfl rfl) rfl ?_ | refine RX.soft (RX.neq_ptr_nil rfl rfl) rfl ?_ | refine RX.soft (RX.neq_nil_nil rfl rfl) rfl ?_ | refine RX.soft (RX.eql_same rfl rfl (by with_reducible rfl)) rfl ?_ | refine RX.soft (RX.eql_tf rfl rfl (by with_reducible rfl) (by with_reducible rfl)) rfl ?_ | refine RX.soft (RX.eql_ft rfl rfl (by with_reducible rfl) (by with_reducible rfl)) rfl ?_ | refine RX.soft (RX.neq_same rfl rfl (by with_reducible rfl)) rfl ?_ | refine RX.soft (RX.neq_tf rfl rfl (by with_reducible rfl) (by with_reducible rfl)) rfl ?_ | refine RX.soft (RX.neq_ft rfl rfl (by with_reducible rfl) (by with_reducible rfl)) rfl ?_ | refine RX.soft (RX.eql_bool rfl rfl) rfl ?_ | refine RX.soft (RX.neq_bool rfl rfl) rfl ?_) | (refine RX.isCall ?_; first | refine RX.soft (RX.len_slice rfl) rfl ?_ | refine RX.soft (RX.max2 rfl rfl) rfl ?_ | refine RX.soft (RX.min2 rfl rfl) rfl ?_) | refine RX.soft (RX.indexAddr1 rfl rfl (by omega)) rfl ?_ | refine RX.soft (RX.indexAddrO rfl rfl (by omega)) rfl ?_ | refine RX.soft (RX.indexAddrS rfl rfl (by omega)) rfl ?_ | refine RX.soft (RX.pick_true rfl (by with_reducible rfl) rfl) rfl ?_ | refine RX.soft (RX.pick_false rfl (by with_reducible rfl) rfl) rfl ?_ | refine RX.soft (RX.not_t rfl (by with_reducible rfl)) rfl ?_ | refine RX.soft (RX.not_f rfl (by with_reducible rfl)) rfl ?_ | refine RX.soft (RX.not rfl) rfl ?_ | refine RX.soft (RX.extract rfl rfl) rfl ?_ | refine RX.soft (RX.build rfl (by intro w; simp [Instr.build, Instr.fill] <;> rfl)) rfl ?_ | refine RX.slice_one rfl rfl rfl rfl ?_)
          | refine RX.guard_true rfl rfl (by with_reducible rfl) (by first | omega | (with_reducible assumption)) ?_
          | refine RX.guard_false rfl rfl (by with_reducible rfl) (by first | omega | (with_reducible assumption)) ?_
          | refine RX.nil ?_
          | refine RX.then_normal ?_
          | refine RX.seq ?_
          | refine RX.region ?_
          | refine RX.cond_true rfl (by with_reducible rfl) ?_
          | refine RX.cond_false rfl (by with_reducible rfl) ?_
          | refine RX.skip ?_
          | refine RX.block ?_
          | refine RX.inBlock_normal ?_
          | refine RX.exit ?_
          | refine RX.then_exit ?_
          | refine RX.inBlock_exit ?_
          | refine RX.inBlock_other rfl ?_
          | refine RX.ret ?_
          | refine RX.then_ret ?_
          | refine RX.inBlock_ret ?_
          | refine RX.unwanted (by first | exact RX.barred_t rfl rfl rfl (by with_reducible rfl) | exact RX.barred_f rfl rfl rfl (by with_reducible rfl)) rfl ?_
          | refine RX.unwanted_none (by first | exact RX.barred_t rfl rfl rfl (by with_reducible rfl) | exact RX.barred_f rfl rfl rfl (by with_reducible rfl)) ?_
          | refine RX.cond rfl (fun h => absurd h (by first | omega | (with_reducible assumption))) (fun _ => ?_)
          | refine RX.cond rfl (fun _ => ?_) (fun h => absurd (by first | omega | (with_reducible assumption)) h))
        refine RX.cond rfl (fun h => ?_) (fun h => ?_)
        · have hki : lst.getD k 0 = i := by omega
          have hsc : elems lst (k + 1) i = elems lst k i ++ [k] := by rw [elems_succ, if_pos hki]
          repeat (first
            | (refine RX.opw (by first | exact RX.plain rfl | exact RX.guarded rfl rfl rfl (by with_reducible rfl)) ?_; first | refine RX.soft (RX.move rfl) rfl ?_ | refine RX.soft (RX.assign rfl) rfl ?_ | refine RX.soft (RX.nilCheck_ptr rfl) rfl ?_ | refine RX.soft (RX.fieldAddr0 rfl) rfl ?_ | refine RX.soft (RX.fieldAddrH rfl) rfl ?_ | refine RX.soft (RX.fieldAddr rfl) rfl ?_ | refine RX.soft (RX.load_at rfl (by assumption)) rfl ?_ | refine RX.soft (RX.lookup_at rfl rfl (by assumption)) rfl ?_ | (refine RX.isBin ?_; first | refine RX.soft (RX.lss rfl rfl) rfl ?_ | refine RX.soft (RX.eql rfl rfl) rfl ?_ | refine RX.soft (RX.neq rfl rfl) rfl ?_ | refine RX.soft (RX.geq rfl rfl) rfl ?_ | refine RX.soft (RX.gtr rfl rfl) rfl ?_ | refine RX.soft (RX.leq rfl rfl) rfl ?_ | refine RX.soft (RX.add_one rfl rfl (by omega)) rfl ?_ | refine RX.soft (RX.add_in rfl rfl (by omega)) rfl ?_ | refine RX.soft (RX.sub_in rfl rfl (by omega)) rfl ?_ | refine RX.soft (RX.eql_ptr_nil rfl rfl) rfl ?_ | refine RX.soft (RX.eql_nil_nil rfl rfl) rfl ?_ | refine RX.soft (RX.neq_ptr_nil rfl rfl) rfl ?_ | refine RX.soft (RX.neq_nil_nil rfl rfl) rfl ?_ | refine RX.soft (RX.eql_same rfl rfl (by with_reducible rfl)) rfl ?_ | refine RX.soft (RX.eql_tf rfl rfl (by with_reducible rfl) (by with_reducible rfl)) rfl ?_ | refine RX.soft (RX.eql_ft rfl rfl (by with_reducible rfl) (by with_reducible rfl)) rfl ?_ | refine RX.soft (RX.neq_same rfl rfl (by with_reducible rfl)) rfl ?_ | refine RX.soft (RX.neq_tf rfl rfl (by with_reducible rfl) (by with_reducible rfl)) rfl ?_ | refine RX.soft (RX.neq_ft rfl rfl (by with_reducible rfl) (by with_reducible rfl)) rfl ?_ | refine RX.soft (RX.eql_bool rfl rfl) rfl ?_ | refine RX.soft (RX.neq_bool rfl rfl) rfl ?_) | (refine RX.isCall ?_; first | refine RX.soft (RX.len_slice rfl) rfl ?_ | refine RX.soft (RX.max2 rfl rfl) rfl ?_ | refine RX.soft (RX.min2 rfl rfl) rfl ?_) | refine RX.soft (RX.indexAddr1 rfl rfl (by omega)) rfl ?_ | refine RX.soft (RX.indexAddrO rfl rfl (by omega)) rfl ?_ | refine RX.soft (RX.indexAddrS rfl rfl (by omega)) rfl ?_ | refine RX.soft (RX.pick_true rfl (by with_reducible rfl) rfl) rfl ?_ | refine RX.soft (RX.pick_false rfl (by with_reducible rfl) rfl) rfl ?_ | refine RX.soft (RX.not_t rfl (by with_reducible rfl)) rfl ?_ | refine RX.soft (RX.not_f rfl (by with_reducible rfl)) rfl ?_ | refine RX.soft (RX.not rfl) rfl ?_ | refine RX.soft (RX.extract rfl rfl) rfl ?_ | refine RX.soft (RX.build rfl (by intro w; simp [Instr.build, Instr.fill] <;> rfl)) rfl ?_ | refine RX.slice_one rfl rfl rfl rfl ?_)
            | refine RX.guard_true rfl rfl (by with_reducible rfl) (by first | omega | (with_reducible assumption)) ?_
            | refine RX.guard_false rfl rfl (by with_reducible rfl) (by first | omega | (with_reducible assumption)) ?_
            | refine RX.nil ?_
            | refine RX.then_normal ?_
            | refine RX.seq ?_
            | refine RX.region ?_
            | refine RX.cond_true rfl (by with_reducible rfl) ?_
            | refine RX.cond_false rfl (by with_reducible rfl) ?_
            | refine RX.skip ?_
            | refine RX.block ?_
            | refine RX.inBlock_normal ?_
            | refine RX.exit ?_
            | refine RX.then_exit ?_
            | refine RX.inBlock_exit ?_
            | refine RX.inBlock_other rfl ?_
            | refine RX.ret ?_
            | refine RX.then_ret ?_
            | refine RX.inBlock_ret ?_
            | refine RX.unwanted (by first | exact RX.barred_t rfl rfl rfl (by with_reducible rfl) | exact RX.barred_f rfl rfl rfl (by with_reducible rfl)) rfl ?_
            | refine RX.unwanted_none (by first | exact RX.barred_t rfl rfl rfl (by with_reducible rfl) | exact RX.barred_f rfl rfl rfl (by with_reducible rfl)) ?_
            | refine RX.cond rfl (fun h => absurd h (by first | omega | (with_reducible assumption))) (fun _ => ?_)
            | refine RX.cond rfl (fun _ => ?_) (fun h => absurd (by first | omega | (with_reducible assumption)) h))
          refine RX.op rfl ?_
          refine append_one (B := wr.heap.size) (k := (elems lst k i).length) (xs := nats (elems lst k i)) (news := [.int .i64 (k : Int)]) rfl rfl rfl hos hwk rfl (by simp [Value.oneCell']) rfl (by omega) (by simp [maxLen]; omega) (by omega) (fun sv' w2 ho2 hu2 hn2 => ?_)
          rw [nats_snoc, ← hsc] at ho2
          repeat (first
            | (refine RX.opw (by first | exact RX.plain rfl | exact RX.guarded rfl rfl rfl (by with_reducible rfl)) ?_; first | refine RX.soft (RX.move rfl) rfl ?_ | refine RX.soft (RX.assign rfl) rfl ?_ | refine RX.soft (RX.nilCheck_ptr rfl) rfl ?_ | refine RX.soft (RX.fieldAddr0 rfl) rfl ?_ | refine RX.soft (RX.fieldAddrH rfl) rfl ?_ | refine RX.soft (RX.fieldAddr rfl) rfl ?_ | refine RX.soft (RX.load_at rfl (by assumption)) rfl ?_ | refine RX.soft (RX.lookup_at rfl rfl (by assumption)) rfl ?_ | (refine RX.isBin ?_; first | refine RX.soft (RX.lss rfl rfl) rfl ?_ | refine RX.soft (RX.eql rfl rfl) rfl ?_ | refine RX.soft (RX.neq rfl rfl) rfl ?_ | refine RX.soft (RX.geq rfl rfl) rfl ?_ | refine RX.soft (RX.gtr rfl rfl) rfl ?_ | refine RX.soft (RX.leq rfl rfl) rfl ?_ | refine RX.soft (RX.add_one rfl rfl (by omega)) rfl ?_ | refine RX.soft (RX.add_in rfl rfl (by omega)) rfl ?_ | refine RX.soft (RX.sub_in rfl rfl (by omega)) rfl ?_ | refine RX.soft (RX.eql_ptr_nil rfl rfl) rfl ?_ | refine RX.soft (RX.eql_nil_nil rfl rfl) rfl ?_ | refine RX.soft (RX.neq_ptr_nil rfl rfl) rfl ?_ | refine RX.soft (RX.neq_nil_nil rfl rfl) rfl ?_ | refine RX.soft (RX.eql_same rfl rfl (by with_reducible rfl)) rfl ?_ | refine RX.soft (RX.eql_tf rfl rfl (by with_reducible rfl) (by with_reducible rfl)) rfl ?_ | refine RX.soft (RX.eql_ft rfl rfl (by with_reducible rfl) (by with_reducible rfl)) rfl ?_ | refine RX.soft (RX.neq_same rfl rfl (by with_reducible rfl)) rfl ?_ | refine RX.soft (RX.neq_tf rfl rfl (by with_reducible rfl) (by with_reducible rfl)) rfl ?_ | refine RX.soft (RX.neq_ft rfl rfl (by with_reducible rfl) (by with_reducible rfl)) rfl ?_ | refine RX.soft (RX.eql_bool rfl rfl) rfl ?_ | refine RX.soft (RX.neq_bool rfl rfl) rfl ?_) | (refine RX.isCall ?_; first | refine RX.soft (RX.len_slice rfl) rfl ?_ | refine RX.soft (RX.max2 rfl rfl) rfl ?_ | refine RX.soft (RX.min2 rfl rfl) rfl ?_) | refine RX.soft (RX.indexAddr1 rfl rfl (by omega)) rfl ?_ | refine RX.soft (RX.indexAddrO rfl rfl (by omega)) rfl ?_ | refine RX.soft (RX.indexAddrS rfl rfl (by omega)) rfl ?_ | refine RX.soft (RX.pick_true rfl (by with_reducible rfl) rfl) rfl ?_ | refine RX.soft (RX.pick_false rfl (by with_reducible rfl) rfl) rfl ?_ | refine RX.soft (RX.not_t rfl (by with_reducible rfl)) rfl ?_ | refine RX.soft (RX.not_f rfl (by with_reducible rfl)) rfl ?_ | refine RX.soft (RX.not rfl) rfl ?_ | refine RX.soft (RX.extract rfl rfl) rfl ?_ | refine RX.soft (RX.build rfl (by intro w; simp [Instr.build, Instr.fill] <;> rfl)) rfl ?_ | refine RX.slice_one rfl rfl rfl rfl ?_)
            | refine RX.guard_true rfl rfl (by with_reducible rfl) (by first | omega | (with_reducible assumption)) ?_
            | refine RX.guard_false rfl rfl (by with_reducible rfl) (by first | omega | (with_reducible assumption)) ?_
            | refine RX.nil ?_
            | refine RX.then_normal ?_
            | refine RX.seq ?_
            | refine RX.region ?_
            | refine RX.cond_true rfl (by with_reducible rfl) ?_
            | refine RX.cond_false rfl (by with_reducible rfl) ?_
            | refine RX.skip ?_
            | refine RX.block ?_
            | refine RX.inBlock_normal ?_
            | refine RX.exit ?_
            | refine RX.then_exit ?_
            | refine RX.inBlock_exit ?_
            | refine RX.inBlock_other rfl ?_
            | refine RX.ret ?_
            | refine RX.then_ret ?_
            | refine RX.inBlock_ret ?_
            | refine RX.unwanted (by first | exact RX.barred_t rfl rfl rfl (by with_reducible rfl) | exact RX.barred_f rfl rfl rfl (by with_reducible rfl)) rfl ?_
            | refine RX.unwanted_none (by first | exact RX.barred_t rfl rfl rfl (by with_reducible rfl) | exact RX.barred_f rfl rfl rfl (by with_reducible rfl)) ?_
            | refine RX.cond rfl (fun h => absurd h (by first | omega | (with_reducible assumption))) (fun _ => ?_)
            | refine RX.cond rfl (fun _ => ?_) (fun h => absurd (by first | omega | (with_reducible assumption)) h))
          refine RX.again (k + 1, sv') ⟨rfl, rfl, rfl, rfl, rfl, trivial⟩ ⟨by dsimp only; omega, by dsimp only; omega, by dsimp only; rw [show (elems lst (k + 1) i).length = (elems lst k i).length + 1 by rw [hsc]; simp]; exact ho2, huk.trans hu2 (fun _ _ h => h) (fun j hj h => ?_)⟩ (by dsimp only; omega)
          have := (owns_lt hos h).1
          omega
        · have hki : ¬ lst.getD k 0 = i := by omega
          have hsc : elems lst (k + 1) i = elems lst k i := by rw [elems_succ, if_neg hki, List.append_nil]
          repeat (first
            | (refine RX.opw (by first | exact RX.plain rfl | exact RX.guarded rfl rfl rfl (by with_reducible rfl)) ?_; first | refine RX.soft (RX.move rfl) rfl ?_ | refine RX.soft (RX.assign rfl) rfl ?_ | refine RX.soft (RX.nilCheck_ptr rfl) rfl ?_ | refine RX.soft (RX.fieldAddr0 rfl) rfl ?_ | refine RX.soft (RX.fieldAddrH rfl) rfl ?_ | refine RX.soft (RX.fieldAddr rfl) rfl ?_ | refine RX.soft (RX.load_at rfl (by assumption)) rfl ?_ | refine RX.soft (RX.lookup_at rfl rfl (by assumption)) rfl ?_ | (refine RX.isBin ?_; first | refine RX.soft (RX.lss rfl rfl) rfl ?_ | refine RX.soft (RX.eql rfl rfl) rfl ?_ | refine RX.soft (RX.neq rfl rfl) rfl ?_ | refine RX.soft (RX.geq rfl rfl) rfl ?_ | refine RX.soft (RX.gtr rfl rfl) rfl ?_ | refine RX.soft (RX.leq rfl rfl) rfl ?_ | refine RX.soft (RX.add_one rfl rfl (by omega)) rfl ?_ | refine RX.soft (RX.add_in rfl rfl (by omega)) rfl ?_ | refine RX.soft (RX.sub_in rfl rfl (by omega)) rfl ?_ | refine RX.soft (RX.eql_ptr_nil rfl rfl) rfl ?_ | refine RX.soft (RX.eql_nil_nil rfl rfl) rfl ?_ | refine RX.soft (RX.neq_ptr_nil rfl rfl) rfl ?_ | refine RX.soft (RX.neq_nil_nil rfl rfl) rfl ?_ | refine RX.soft (RX.eql_same rfl rfl (by with_reducible rfl)) rfl ?_ | refine RX.soft (RX.eql_tf rfl rfl (by with_reducible rfl) (by with_reducible rfl)) rfl ?_ | refine RX.soft (RX.eql_ft rfl rfl (by with_reducible rfl) (by with_reducible rfl)) rfl ?_ | refine RX.soft (RX.neq_same rfl rfl (by with_reducible rfl)) rfl ?_ | refine RX.soft (RX.neq_tf rfl rfl (by with_reducible rfl) (by with_reducible rfl)) rfl ?_ | refine RX.soft (RX.neq_ft rfl rfl (by with_reducible rfl) (by with_reducible rfl)) rfl ?_ | refine RX.soft (RX.eql_bool rfl rfl) rfl ?_ | refine RX.soft (RX.neq_bool rfl rfl) rfl ?_) | (refine RX.isCall ?_; first | refine RX.soft (RX.len_slice rfl) rfl ?_ | refine RX.soft (RX.max2 rfl rfl) rfl ?_ | refine RX.soft (RX.min2 rfl rfl) rfl ?_) | refine RX.soft (RX.indexAddr1 rfl rfl (by omega)) rfl ?_ | refine RX.soft (RX.indexAddrO rfl rfl (by omega)) rfl ?_ | refine RX.soft (RX.indexAddrS rfl rfl (by omega)) rfl ?_ | refine RX.soft (RX.pick_true rfl (by with_reducible rfl) rfl) rfl ?_ | refine RX.soft (RX.pick_false rfl (by with_reducible rfl) rfl) rfl ?_ | refine RX.soft (RX.not_t rfl (by with_reducible rfl)) rfl ?_ | refine RX.soft (RX.not_f rfl (by with_reducible rfl)) rfl ?_ | refine RX.soft (RX.not rfl) rfl ?_ | refine RX.soft (RX.extract rfl rfl) rfl ?_ | refine RX.soft (RX.build rfl (by intro w; simp [Instr.build, Instr.fill] <;> rfl)) rfl ?_ | refine RX.slice_one rfl rfl rfl rfl ?_)
            | refine RX.guard_true rfl rfl (by with_reducible rfl) (by first | omega | (with_reducible assumption)) ?_
            | refine RX.guard_false rfl rfl (by with_reducible rfl) (by first | omega | (with_reducible assumption)) ?_
            | refine RX.nil ?_
            | refine RX.then_normal ?_
            | refine RX.seq ?_
            | refine RX.region ?_
            | refine RX.cond_true rfl (by with_reducible rfl) ?_
            | refine RX.cond_false rfl (by with_reducible rfl) ?_
            | refine RX.skip ?_
            | refine RX.block ?_
            | refine RX.inBlock_normal ?_
            | refine RX.exit ?_
            | refine RX.then_exit ?_
            | refine RX.inBlock_exit ?_
            | refine RX.inBlock_other rfl ?_
            | refine RX.ret ?_
            | refine RX.then_ret ?_
            | refine RX.inBlock_ret ?_
            | refine RX.unwanted (by first | exact RX.barred_t rfl rfl rfl (by with_reducible rfl) | exact RX.barred_f rfl rfl rfl (by with_reducible rfl)) rfl ?_
            | refine RX.unwanted_none (by first | exact RX.barred_t rfl rfl rfl (by with_reducible rfl) | exact RX.barred_f rfl rfl rfl (by with_reducible rfl)) ?_
            | refine RX.cond rfl (fun h => absurd h (by first | omega | (with_reducible assumption))) (fun _ => ?_)
            | refine RX.cond rfl (fun _ => ?_) (fun h => absurd (by first | omega | (with_reducible assumption)) h))
          exact RX.again (k + 1, sv) ⟨rfl, rfl, rfl, rfl, rfl, trivial⟩ ⟨by dsimp only; omega, by dsimp only; omega, by dsimp only; rw [hsc]; exact hos, huk⟩ (by dsimp only; omega)
      · have hkn : k = lst.length := by omega
        subst hkn
        have hgk := hg.keep huk (fun _ _ _ h => h)
        have hosB : wk.ownsRow w.heap.size 3 1 sv (nats (elems lst lst.length i)).length (nats (elems lst lst.length i)) := by
          rw [nats_length]; exact owns_mono hos hw
        have hosv : sv.oneCell' = true := by rcases owns_slice hos with ⟨a, c, rfl⟩; rfl
        repeat (first
          | (refine RX.opw (by first | exact RX.plain rfl | exact RX.guarded rfl rfl rfl (by with_reducible rfl)) ?_; first | refine RX.soft (RX.move rfl) rfl ?_ | refine RX.soft (RX.assign rfl) rfl ?_ | refine RX.soft (RX.nilCheck_ptr rfl) rfl ?_ | refine RX.soft (RX.fieldAddr0 rfl) rfl ?_ | refine RX.soft (RX.fieldAddrH rfl) rfl ?_ | refine RX.soft (RX.fieldAddr rfl) rfl ?_ | refine RX.soft (RX.load_at rfl (by assumption)) rfl ?_ | refine RX.soft (RX.lookup_at rfl rfl (by assumption)) rfl ?_ | (refine RX.isBin ?_; first | refine RX.soft (RX.lss rfl rfl) rfl ?_ | refine RX.soft (RX.eql rfl rfl) rfl ?_ | refine RX.soft (RX.neq rfl rfl) rfl ?_ | refine RX.soft (RX.geq rfl rfl) rfl ?_ | refine RX.soft (RX.gtr rfl rfl) rfl ?_ | refine RX.soft (RX.leq rfl rfl) rfl ?_ | refine RX.soft (RX.add_one rfl rfl (by omega)) rfl ?_ | refine RX.soft (RX.add_in rfl rfl (by omega)) rfl ?_ | refine RX.soft (RX.sub_in rfl rfl (by omega)) rfl ?_ | refine RX.soft (RX.eql_ptr_nil rfl rfl) rfl ?_ | refine RX.soft (RX.eql_nil_nil rfl rfl) rfl ?_ | refine RX.soft (RX.neq_ptr_nil rfl rfl) rfl ?_ | refine RX.soft (RX.neq_nil_nil rfl rfl) rfl ?_ | refine RX.soft (RX.eql_same rfl rfl (by with_reducible rfl)) rfl ?_ | refine RX.soft (RX.eql_tf rfl rfl (by with_reducible rfl) (by with_reducible rfl)) rfl ?_ | refine RX.soft (RX.eql_ft rfl rfl (by with_reducible rfl) (by with_reducible rfl)) rfl ?_ | refine RX.soft (RX.neq_same rfl rfl (by with_reducible rfl)) rfl ?_ | refine RX.soft (RX.neq_tf rfl rfl (by with_reducible rfl) (by with_reducible rfl)) rfl ?_ | refine RX.soft (RX.neq_ft rfl rfl (by with_reducible rfl) (by with_reducible rfl)) rfl ?_ | refine RX.soft (RX.eql_bool rfl rfl) rfl ?_ | refine RX.soft (RX.neq_bool rfl rfl) rfl ?_) | (refine RX.isCall ?_; first | refine RX.soft (RX.len_slice rfl) rfl ?_ | refine RX.soft (RX.max2 rfl rfl) rfl ?_ | refine RX.soft (RX.min2 rfl rfl) rfl ?_) | refine RX.soft (RX.indexAddr1 rfl rfl (by omega)) rfl ?_ | refine RX.soft (RX.indexAddrO rfl rfl (by omega)) rfl ?_ | refine RX.soft (RX.indexAddrS rfl rfl (by omega)) rfl ?_ | refine RX.soft (RX.pick_true rfl (by with_reducible rfl) rfl) rfl ?_ | refine RX.soft (RX.pick_false rfl (by with_reducible rfl) rfl) rfl ?_ | refine RX.soft (RX.not_t rfl (by with_reducible rfl)) rfl ?_ | refine RX.soft (RX.not_f rfl (by with_reducible rfl)) rfl ?_ | refine RX.soft (RX.not rfl) rfl ?_ | refine RX.soft (RX.extract rfl rfl) rfl ?_ | refine RX.soft (RX.build rfl (by intro w; simp [Instr.build, Instr.fill] <;> rfl)) rfl ?_ | refine RX.slice_one rfl rfl rfl rfl ?_)
          | refine RX.guard_true rfl rfl (by with_reducible rfl) (by first | omega | (with_reducible assumption)) ?_
          | refine RX.guard_false rfl rfl (by with_reducible rfl) (by first | omega | (with_reducible assumption)) ?_
          | refine RX.nil ?_
          | refine RX.then_normal ?_
          | refine RX.seq ?_
          | refine RX.region ?_
          | refine RX.cond_true rfl (by with_reducible rfl) ?_
          | refine RX.cond_false rfl (by with_reducible rfl) ?_
          | refine RX.skip ?_
          | refine RX.block ?_
          | refine RX.inBlock_normal ?_
          | refine RX.exit ?_
          | refine RX.then_exit ?_
          | refine RX.inBlock_exit ?_
          | refine RX.inBlock_other rfl ?_
          | refine RX.ret ?_
          | refine RX.then_ret ?_
          | refine RX.inBlock_ret ?_
          | refine RX.unwanted (by first | exact RX.barred_t rfl rfl rfl (by with_reducible rfl) | exact RX.barred_f rfl rfl rfl (by with_reducible rfl)) rfl ?_
          | refine RX.unwanted_none (by first | exact RX.barred_t rfl rfl rfl (by with_reducible rfl) | exact RX.barred_f rfl rfl rfl (by with_reducible rfl)) ?_
          | refine RX.cond rfl (fun h => absurd h (by first | omega | (with_reducible assumption))) (fun _ => ?_)
          | refine RX.cond rfl (fun _ => ?_) (fun h => absurd (by first | omega | (with_reducible assumption)) h))
        refine RX.op rfl ?_
        refine slice_one rfl hosv rfl rfl ?_
        repeat (first
          | (refine RX.opw (by first | exact RX.plain rfl | exact RX.guarded rfl rfl rfl (by with_reducible rfl)) ?_; first | refine RX.soft (RX.move rfl) rfl ?_ | refine RX.soft (RX.assign rfl) rfl ?_ | refine RX.soft (RX.nilCheck_ptr rfl) rfl ?_ | refine RX.soft (RX.fieldAddr0 rfl) rfl ?_ | refine RX.soft (RX.fieldAddrH rfl) rfl ?_ | refine RX.soft (RX.fieldAddr rfl) rfl ?_ | refine RX.soft (RX.load_at rfl (by assumption)) rfl ?_ | refine RX.soft (RX.lookup_at rfl rfl (by assumption)) rfl ?_ | (refine RX.isBin ?_; first | refine RX.soft (RX.lss rfl rfl) rfl ?_ | refine RX.soft (RX.eql rfl rfl) rfl ?_ | refine RX.soft (RX.neq rfl rfl) rfl ?_ | refine RX.soft (RX.geq rfl rfl) rfl ?_ | refine RX.soft (RX.gtr rfl rfl) rfl ?_ | refine RX.soft (RX.leq rfl rfl) rfl ?_ | refine RX.soft (RX.add_one rfl rfl (by omega)) rfl ?_ | refine RX.soft (RX.add_in rfl rfl (by omega)) rfl ?_ | refine RX.soft (RX.sub_in rfl rfl (by omega)) rfl ?_ | refine RX.soft (RX.eql_ptr_nil rfl rfl) rfl ?_ | refine RX.soft (RX.eql_nil_nil rfl rfl) rfl ?_ | refine RX.soft (RX.neq_ptr_nil rfl rfl) rfl ?_ | refine RX.soft (RX.neq_nil_nil rfl rfl) rfl ?_ | refine RX.soft (RX.eql_same rfl rfl (by with_reducible rfl)) rfl ?_ | refine RX.soft (RX.eql_tf rfl rfl (by with_reducible rfl) (by with_reducible rfl)) rfl ?_ | refine RX.soft (RX.eql_ft rfl rfl (by with_reducible rfl) (by with_reducible rfl)) rfl ?_ | refine RX.soft (RX.neq_same rfl rfl (by with_reducible rfl)) rfl ?_ | refine RX.soft (RX.neq_tf rfl rfl (by with_reducible rfl) (by with_reducible rfl)) rfl ?_ | refine RX.soft (RX.neq_ft rfl rfl (by with_reducible rfl) (by with_reducible rfl)) rfl ?_ | refine RX.soft (RX.eql_bool rfl rfl) rfl ?_ | refine RX.soft (RX.neq_bool rfl rfl) rfl ?_) | (refine RX.isCall ?_; first | refine RX.soft (RX.len_slice rfl) rfl ?_ | refine RX.soft (RX.max2 rfl rfl) rfl ?_ | refine RX.soft (RX.min2 rfl rfl) rfl ?_) | refine RX.soft (RX.indexAddr1 rfl rfl (by omega)) rfl ?_ | refine RX.soft (RX.indexAddrO rfl rfl (by omega)) rfl ?_ | refine RX.soft (RX.indexAddrS rfl rfl (by omega)) rfl ?_ | refine RX.soft (RX.pick_true rfl (by with_reducible rfl) rfl) rfl ?_ | refine RX.soft (RX.pick_false rfl (by with_reducible rfl) rfl) rfl ?_ | refine RX.soft (RX.not_t rfl (by with_reducible rfl)) rfl ?_ | refine RX.soft (RX.not_f rfl (by with_reducible rfl)) rfl ?_ | refine RX.soft (RX.not rfl) rfl ?_ | refine RX.soft (RX.extract rfl rfl) rfl ?_ | refine RX.soft (RX.build rfl (by intro w; simp [Instr.build, Instr.fill] <;> rfl)) rfl ?_ | refine RX.slice_one rfl rfl rfl rfl ?_)
          | refine RX.guard_true rfl rfl (by with_reducible rfl) (by first | omega | (with_reducible assumption)) ?_
          | refine RX.guard_false rfl rfl (by with_reducible rfl) (by first | omega | (with_reducible assumption)) ?_
          | refine RX.nil ?_
          | refine RX.then_normal ?_
          | refine RX.seq ?_
          | refine RX.region ?_
          | refine RX.cond_true rfl (by with_reducible rfl) ?_
          | refine RX.cond_false rfl (by with_reducible rfl) ?_
          | refine RX.skip ?_
          | refine RX.block ?_
          | refine RX.inBlock_normal ?_
          | refine RX.exit ?_
          | refine RX.then_exit ?_
          | refine RX.inBlock_exit ?_
          | refine RX.inBlock_other rfl ?_
          | refine RX.ret ?_
          | refine RX.then_ret ?_
          | refine RX.inBlock_ret ?_
          | refine RX.unwanted (by first | exact RX.barred_t rfl rfl rfl (by with_reducible rfl) | exact RX.barred_f rfl rfl rfl (by with_reducible rfl)) rfl ?_
          | refine RX.unwanted_none (by first | exact RX.barred_t rfl rfl rfl (by with_reducible rfl) | exact RX.barred_f rfl rfl rfl (by with_reducible rfl)) ?_
          | refine RX.cond rfl (fun h => absurd h (by first | omega | (with_reducible assumption))) (fun _ => ?_)
          | refine RX.cond rfl (fun _ => ?_) (fun h => absurd (by first | omega | (with_reducible assumption)) h))
        refine RX.op rfl ?_
        refine append_one (B := w.heap.size) (k := ((setsBelow lst i).map nats).length) (xs := cs) (news := [sv]) rfl rfl rfl hgk.outer (by omega) rfl (by simpa using hosv) rfl (by omega) (by simp [maxLen]; omega) (by simp; omega) (fun v' w2 ho2 hu2 hn2 => ?_)
        have hg2 := hgk.push hosB (fun j hj => ⟨fun h => by have := (owns_lt hg.outer h).2; have := (owns_lt hos hj).1; omega, fun q d hd h => by
          have h1 := (owns_lt (hg.inner q d _ hd (List.getElem?_eq_getElem (by rw [← hg.len]; exact (List.getElem?_eq_some_iff.1 hd).1))) h).2
          have := (owns_lt hos hj).1; omega⟩) ho2 hu2 (fun j hj => (hn2 j hj).imp id Nat.le_of_lt)
        repeat (first
          | (refine RX.opw (by first | exact RX.plain rfl | exact RX.guarded rfl rfl rfl (by with_reducible rfl)) ?_; first | refine RX.soft (RX.move rfl) rfl ?_ | refine RX.soft (RX.assign rfl) rfl ?_ | refine RX.soft (RX.nilCheck_ptr rfl) rfl ?_ | refine RX.soft (RX.fieldAddr0 rfl) rfl ?_ | refine RX.soft (RX.fieldAddrH rfl) rfl ?_ | refine RX.soft (RX.fieldAddr rfl) rfl ?_ | refine RX.soft (RX.load_at rfl (by assumption)) rfl ?_ | refine RX.soft (RX.lookup_at rfl rfl (by assumption)) rfl ?_ | (refine RX.isBin ?_; first | refine RX.soft (RX.lss rfl rfl) rfl ?_ | refine RX.soft (RX.eql rfl rfl) rfl ?_ | refine RX.soft (RX.neq rfl rfl) rfl ?_ | refine RX.soft (RX.geq rfl rfl) rfl ?_ | refine RX.soft (RX.gtr rfl rfl) rfl ?_ | refine RX.soft (RX.leq rfl rfl) rfl ?_ | refine RX.soft (RX.add_one rfl rfl (by omega)) rfl ?_ | refine RX.soft (RX.add_in rfl rfl (by omega)) rfl ?_ | refine RX.soft (RX.sub_in rfl rfl (by omega)) rfl ?_ | refine RX.soft (RX.eql_ptr_nil rfl rfl) rfl ?_ | refine RX.soft (RX.eql_nil_nil rfl rfl) rfl ?_ | refine RX.soft (RX.neq_ptr_nil rfl rfl) rfl ?_ | refine RX.soft (RX.neq_nil_nil rfl rfl) rfl ?_ | refine RX.soft (RX.eql_same rfl rfl (by with_reducible rfl)) rfl ?_ | refine RX.soft (RX.eql_tf rfl rfl (by with_reducible rfl) (by with_reducible rfl)) rfl ?_ | refine RX.soft (RX.eql_ft rfl rfl (by with_reducible rfl) (by with_reducible rfl)) rfl ?_ | refine RX.soft (RX.neq_same rfl rfl (by with_reducible rfl)) rfl ?_ | refine RX.soft (RX.neq_tf rfl rfl (by with_reducible rfl) (by with_reducible rfl)) rfl ?_ | refine RX.soft (RX.neq_ft rfl rfl (by with_reducible rfl) (by with_reducible rfl)) rfl ?_ | refine RX.soft (RX.eql_bool rfl rfl) rfl ?_ | refine RX.soft (RX.neq_bool rfl rfl) rfl ?_) | (refine RX.isCall ?_; first | refine RX.soft (RX.len_slice rfl) rfl ?_ | refine RX.soft (RX.max2 rfl rfl) rfl ?_ | refine RX.soft (RX.min2 rfl rfl) rfl ?_) | refine RX.soft (RX.indexAddr1 rfl rfl (by omega)) rfl ?_ | refine RX.soft (RX.indexAddrO rfl rfl (by omega)) rfl ?_ | refine RX.soft (RX.indexAddrS rfl rfl (by omega)) rfl ?_ | refine RX.soft (RX.pick_true rfl (by with_reducible rfl) rfl) rfl ?_ | refine RX.soft (RX.pick_false rfl (by with_reducible rfl) rfl) rfl ?_ | refine RX.soft (RX.not_t rfl (by with_reducible rfl)) rfl ?_ | refine RX.soft (RX.not_f rfl (by with_reducible rfl)) rfl ?_ | refine RX.soft (RX.not rfl) rfl ?_ | refine RX.soft (RX.extract rfl rfl) rfl ?_ | refine RX.soft (RX.build rfl (by intro w; simp [Instr.build, Instr.fill] <;> rfl)) rfl ?_ | refine RX.slice_one rfl rfl rfl rfl ?_)
          | refine RX.guard_true rfl rfl (by with_reducible rfl) (by first | omega | (with_reducible assumption)) ?_
          | refine RX.guard_false rfl rfl (by with_reducible rfl) (by first | omega | (with_reducible assumption)) ?_
          | refine RX.nil ?_
          | refine RX.then_normal ?_
          | refine RX.seq ?_
          | refine RX.region ?_
          | refine RX.cond_true rfl (by with_reducible rfl) ?_
          | refine RX.cond_false rfl (by with_reducible rfl) ?_
          | refine RX.skip ?_
          | refine RX.block ?_
          | refine RX.inBlock_normal ?_
          | refine RX.exit ?_
          | refine RX.then_exit ?_
          | refine RX.inBlock_exit ?_
          | refine RX.inBlock_other rfl ?_
          | refine RX.ret ?_
          | refine RX.then_ret ?_
          | refine RX.inBlock_ret ?_
          | refine RX.unwanted (by first | exact RX.barred_t rfl rfl rfl (by with_reducible rfl) | exact RX.barred_f rfl rfl rfl (by with_reducible rfl)) rfl ?_
          | refine RX.unwanted_none (by first | exact RX.barred_t rfl rfl rfl (by with_reducible rfl) | exact RX.barred_f rfl rfl rfl (by with_reducible rfl)) ?_
          | refine RX.cond rfl (fun h => absurd h (by first | omega | (with_reducible assumption))) (fun _ => ?_)
          | refine RX.cond rfl (fun _ => ?_) (fun h => absurd (by first | omega | (with_reducible assumption)) h))
        refine RX.again (i + 1, v') ⟨rfl, rfl, rfl, trivial⟩ ⟨by dsimp only; omega, ⟨_, by dsimp only; rw [setsBelow_succ, if_pos heq, List.map_append]; exact hg2⟩, (hu.trans huk (fun _ _ h => h) (fun _ _ h => h)).trans hu2 (fun _ _ h => h) (fun j hj h => ?_)⟩ (by dsimp only; omega)
        have := (owns_lt hgk.outer h).1
        omega
  · have hin : i = lst.length := by omega
    subst hin
    obtain ⟨ao, cap, rfl⟩ := owns_slice hb
    repeat (first
      | (refine RX.opw (by first | exact RX.plain rfl | exact RX.guarded rfl rfl rfl (by with_reducible rfl)) ?_; first | refine RX.soft (RX.move rfl) rfl ?_ | refine RX.soft (RX.assign rfl) rfl ?_ | refine RX.soft (RX.nilCheck_ptr rfl) rfl ?_ | refine RX.soft (RX.fieldAddr0 rfl) rfl ?_ | refine RX.soft (RX.fieldAddrH rfl) rfl ?_ | refine RX.soft (RX.fieldAddr rfl) rfl ?_ | refine RX.soft (RX.load_at rfl (by assumption)) rfl ?_ | refine RX.soft (RX.lookup_at rfl rfl (by assumption)) rfl ?_ | (refine RX.isBin ?_; first | refine RX.soft (RX.lss rfl rfl) rfl ?_ | refine RX.soft (RX.eql rfl rfl) rfl ?_ | refine RX.soft (RX.neq rfl rfl) rfl ?_ | refine RX.soft (RX.geq rfl rfl) rfl ?_ | refine RX.soft (RX.gtr rfl rfl) rfl ?_ | refine RX.soft (RX.leq rfl rfl) rfl ?_ | refine RX.soft (RX.add_one rfl rfl (by omega)) rfl ?_ | refine RX.soft (RX.add_in rfl rfl (by omega)) rfl ?_ | refine RX.soft (RX.sub_in rfl rfl (by omega)) rfl ?_ | refine RX.soft (RX.eql_ptr_nil rfl rfl) rfl ?_ | refine RX.soft (RX.eql_nil_nil rfl rfl) rfl ?_ | refine RX.soft (RX.neq_ptr_nil rfl rfl) rfl ?_ | refine RX.soft (RX.neq_nil_nil rfl rfl) rfl ?_ | refine RX.soft (RX.eql_same rfl rfl (by with_reducible rfl)) rfl ?_ | refine RX.soft (RX.eql_tf rfl rfl (by with_reducible rfl) (by with_reducible rfl)) rfl ?_ | refine RX.soft (RX.eql_ft rfl rfl (by with_reducible rfl) (by with_reducible rfl)) rfl ?_ | refine RX.soft (RX.neq_same rfl rfl (by with_reducible rfl)) rfl ?_ | refine RX.soft (RX.neq_tf rfl rfl (by with_reducible rfl) (by with_reducible rfl)) rfl ?_ | refine RX.soft (RX.neq_ft rfl rfl (by with_reducible rfl) (by with_reducible rfl)) rfl ?_ | refine RX.soft (RX.eql_bool rfl rfl) rfl ?_ | refine RX.soft (RX.neq_bool rfl rfl) rfl ?_) | (refine RX.isCall ?_; first | refine RX.soft (RX.len_slice rfl) rfl ?_ | refine RX.soft (RX.max2 rfl rfl) rfl ?_ | refine RX.soft (RX.min2 rfl rfl) rfl ?_) | refine RX.soft (RX.indexAddr1 rfl rfl (by omega)) rfl ?_ | refine RX.soft (RX.indexAddrO rfl rfl (by omega)) rfl ?_ | refine RX.soft (RX.indexAddrS rfl rfl (by omega)) rfl ?_ | refine RX.soft (RX.pick_true rfl (by with_reducible rfl) rfl) rfl ?_ | refine RX.soft (RX.pick_false rfl (by with_reducible rfl) rfl) rfl ?_ | refine RX.soft (RX.not_t rfl (by with_reducible rfl)) rfl ?_ | refine RX.soft (RX.not_f rfl (by with_reducible rfl)) rfl ?_ | refine RX.soft (RX.not rfl) rfl ?_ | refine RX.soft (RX.extract rfl rfl) rfl ?_ | refine RX.soft (RX.build rfl (by intro w; simp [Instr.build, Instr.fill] <;> rfl)) rfl ?_ | refine RX.slice_one rfl rfl rfl rfl ?_)
      | refine RX.guard_true rfl rfl (by with_reducible rfl) (by first | omega | (with_reducible assumption)) ?_
      | refine RX.guard_false rfl rfl (by with_reducible rfl) (by first | omega | (with_reducible assumption)) ?_
      | refine RX.nil ?_
      | refine RX.then_normal ?_
      | refine RX.seq ?_
      | refine RX.region ?_
      | refine RX.cond_true rfl (by with_reducible rfl) ?_
      | refine RX.cond_false rfl (by with_reducible rfl) ?_
      | refine RX.skip ?_
      | refine RX.block ?_
      | refine RX.inBlock_normal ?_
      | refine RX.exit ?_
      | refine RX.then_exit ?_
      | refine RX.inBlock_exit ?_
      | refine RX.inBlock_other rfl ?_
      | refine RX.ret ?_
      | refine RX.then_ret ?_
      | refine RX.inBlock_ret ?_
      | refine RX.unwanted (by first | exact RX.barred_t rfl rfl rfl (by with_reducible rfl) | exact RX.barred_f rfl rfl rfl (by with_reducible rfl)) rfl ?_
      | refine RX.unwanted_none (by first | exact RX.barred_t rfl rfl rfl (by with_reducible rfl) | exact RX.barred_f rfl rfl rfl (by with_reducible rfl)) ?_
      | refine RX.cond rfl (fun h => absurd h (by first | omega | (with_reducible assumption))) (fun _ => ?_)
      | refine RX.cond rfl (fun _ => ?_) (fun h => absurd (by first | omega | (with_reducible assumption)) h))
    exact ret1 rfl rfl ⟨v, rfl, ⟨cs, hg⟩, hu⟩
end Go.Proofs.Ytfcmohfddjcfkaa
