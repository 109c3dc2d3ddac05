/- The walks over the reference's Find: New, Join, Sets. -/
import Derived.Test.YtfcmohfddjcfkaaRef15
namespace Go.Proofs.Ytfcmohfddjcfkaa
open Go Go.RR Go.RX Go.FindM
attribute [local irreducible] wpList Code.wp wpPlan Exit.then Exit.inBlock bodyPost NoPanic Went

theorem list_set_same {α : Type} (l : List α) (i : Nat) (x : α) (h : l[i]? = some x) : l.set i x = l := by
  apply List.ext_getElem?
  intro j
  rw [List.getElem?_set]
  split
  · rename_i e; subst e
    rw [if_pos (List.getElem?_eq_some_iff.1 h).1, h]
  · rfl

theorem many_iff (n : Int) (k : Nat) : k < many n ↔ (k : Int) < n ∧ k < 10000 := by unfold many; omega
theorem many_le (n : Int) : many n ≤ 10000 := by unfold many; omega
theorem nats_snoc (l : List Nat) (x : Nat) : nats l ++ [.int .i64 (x : Int)] = nats (l ++ [x]) := by simp [nats]

theorem rnew_any (n : Int) (w : World) :
    Calls Try.prog 9 #[.int .i64 n] w fun e w' => ∃ pb lv, e = .returned (.pointer (some ⟨pb, 0, none⟩)) ∧ w.heap.size ≤ pb ∧ (∀ k, lv.ownBlock = some k → w.heap.size ≤ k) ∧ RefAt w' pb lv (List.range (many n)) ∧ Upd (fun _ => False) w w' := by
  refine enter1 Try.func9 rfl Try.ntmps9 rfl ?_
  repeat (first
    | (refine RX.opw (by first | exact RX.plain rfl | exact RX.guarded rfl rfl rfl (by with_reducible rfl)) ?_; first | refine RX.soft (RX.move rfl) rfl ?_ | refine RX.soft (RX.assign rfl) rfl ?_ | refine RX.soft (RX.nilCheck_ptr rfl) rfl ?_ | refine RX.soft (RX.fieldAddr0 rfl) rfl ?_ | refine RX.soft (RX.fieldAddrH rfl) rfl ?_ | refine RX.soft (RX.fieldAddr rfl) rfl ?_ | refine RX.soft (RX.load_at rfl (by assumption)) rfl ?_ | refine RX.soft (RX.lookup_at rfl rfl (by assumption)) rfl ?_ | (refine RX.isBin ?_; first | refine RX.soft (RX.lss rfl rfl) rfl ?_ | refine RX.soft (RX.eql rfl rfl) rfl ?_ | refine RX.soft (RX.neq rfl rfl) rfl ?_ | refine RX.soft (RX.geq rfl rfl) rfl ?_ | refine RX.soft (RX.gtr rfl rfl) rfl ?_ | refine RX.soft (RX.leq rfl rfl) rfl ?_ | refine RX.soft (RX.add_one rfl rfl (by omega)) rfl ?_ | refine RX.soft (RX.add_in rfl rfl (by omega)) rfl ?_ | refine RX.soft (RX.sub_in rfl rfl (by omega)) rfl ?_ | refine RX.soft (RX.eql_ptr_nil rfl rfl) rfl ?_ | refine RX.soft (RX.eql_nil_nil rfl rfl) rfl ?_ | refine RX.soft (RX.neq_ptr_nil rfl rfl) rfl ?_ | refine RX.soft (RX.neq_nil_nil rfl rfl) rfl ?_ | refine RX.soft (RX.eql_same rfl rfl (by with_reducible rfl)) rfl ?_ | refine RX.soft (RX.eql_tf rfl rfl (by with_reducible rfl) (by with_reducible rfl)) rfl ?_ | refine RX.soft (RX.eql_ft rfl rfl (by with_reducible rfl) (by with_reducible rfl)) rfl ?_ | refine RX.soft (RX.neq_same rfl rfl (by with_reducible rfl)) rfl ?_ | refine RX.soft (RX.neq_tf rfl rfl (by with_reducible rfl) (by with_reducible rfl)) rfl ?_ | refine RX.soft (RX.neq_ft rfl rfl (by with_reducible rfl) (by with_reducible rfl)) rfl ?_ | refine RX.soft (RX.eql_bool rfl rfl) rfl ?_ | refine RX.soft (RX.neq_bool rfl rfl) rfl ?_) | (refine RX.isCall ?_; first | refine RX.soft (RX.len_slice rfl) rfl ?_ | refine RX.soft (RX.max2 rfl rfl) rfl ?_ | refine RX.soft (RX.min2 rfl rfl) rfl ?_) | refine RX.soft (RX.indexAddr1 rfl rfl (by omega)) rfl ?_ | refine RX.soft (RX.indexAddrO rfl rfl (by omega)) rfl ?_ | refine RX.soft (RX.indexAddrS rfl rfl (by omega)) rfl ?_ | refine RX.soft (RX.pick_true rfl (by with_reducible rfl) rfl) rfl ?_ | refine RX.soft (RX.pick_false rfl (by with_reducible rfl) rfl) rfl ?_ | refine RX.soft (RX.not_t rfl (by with_reducible rfl)) rfl ?_ | refine RX.soft (RX.not_f rfl (by with_reducible rfl)) rfl ?_ | refine RX.soft (RX.not rfl) rfl ?_ | refine RX.soft (RX.extract rfl rfl) rfl ?_ | refine RX.soft (RX.build rfl (by intro w; simp [Instr.build, Instr.fill] <;> rfl)) rfl ?_ | refine RX.slice_one rfl rfl rfl rfl ?_)
    | refine RX.guard_true rfl rfl (by with_reducible rfl) (by first | omega | (with_reducible assumption)) ?_
    | refine RX.guard_false rfl rfl (by with_reducible rfl) (by first | omega | (with_reducible assumption)) ?_
    | refine RX.nil ?_
    | refine RX.then_normal ?_
    | refine RX.seq ?_
    | refine RX.region ?_
    | refine RX.cond_true rfl (by with_reducible rfl) ?_
    | refine RX.cond_false rfl (by with_reducible rfl) ?_
    | refine RX.skip ?_
    | refine RX.block ?_
    | refine RX.inBlock_normal ?_
    | refine RX.exit ?_
    | refine RX.then_exit ?_
    | refine RX.inBlock_exit ?_
    | refine RX.inBlock_other rfl ?_
    | refine RX.ret ?_
    | refine RX.then_ret ?_
    | refine RX.inBlock_ret ?_
    | refine RX.unwanted (by first | exact RX.barred_t rfl rfl rfl (by with_reducible rfl) | exact RX.barred_f rfl rfl rfl (by with_reducible rfl)) rfl ?_
    | refine RX.unwanted_none (by first | exact RX.barred_t rfl rfl rfl (by with_reducible rfl) | exact RX.barred_f rfl rfl rfl (by with_reducible rfl)) ?_
    | refine RX.cond rfl (fun h => absurd h (by first | omega | (with_reducible assumption))) (fun _ => ?_)
    | refine RX.cond rfl (fun _ => ?_) (fun h => absurd (by first | omega | (with_reducible assumption)) h))
  refine RX.op rfl ?_
  refine box rfl rfl (fun pb w1 hpb hr1 hu1 => ?_)
  have hr1 : Row w1 pb 44 [.slice none 0 0] := hr1
  repeat (first
    | (refine RX.opw (by first | exact RX.plain rfl | exact RX.guarded rfl rfl rfl (by with_reducible rfl)) ?_; first | refine RX.soft (RX.move rfl) rfl ?_ | refine RX.soft (RX.assign rfl) rfl ?_ | refine RX.soft (RX.nilCheck_ptr rfl) rfl ?_ | refine RX.soft (RX.fieldAddr0 rfl) rfl ?_ | refine RX.soft (RX.fieldAddrH rfl) rfl ?_ | refine RX.soft (RX.fieldAddr rfl) rfl ?_ | refine RX.soft (RX.load_at rfl (by assumption)) rfl ?_ | refine RX.soft (RX.lookup_at rfl rfl (by assumption)) rfl ?_ | (refine RX.isBin ?_; first | refine RX.soft (RX.lss rfl rfl) rfl ?_ | refine RX.soft (RX.eql rfl rfl) rfl ?_ | refine RX.soft (RX.neq rfl rfl) rfl ?_ | refine RX.soft (RX.geq rfl rfl) rfl ?_ | refine RX.soft (RX.gtr rfl rfl) rfl ?_ | refine RX.soft (RX.leq rfl rfl) rfl ?_ | refine RX.soft (RX.add_one rfl rfl (by omega)) rfl ?_ | refine RX.soft (RX.add_in rfl rfl (by omega)) rfl ?_ | refine RX.soft (RX.sub_in rfl rfl (by omega)) rfl ?_ | refine RX.soft (RX.eql_ptr_nil rfl rfl) rfl ?_ | refine RX.soft (RX.eql_nil_nil rfl rfl) rfl ?_ | refine RX.soft (RX.neq_ptr_nil rfl rfl) rfl ?_ | refine RX.soft (RX.neq_nil_nil rfl rfl) rfl ?_ | refine RX.soft (RX.eql_same rfl rfl (by with_reducible rfl)) rfl ?_ | refine RX.soft (RX.eql_tf rfl rfl (by with_reducible rfl) (by with_reducible rfl)) rfl ?_ | refine RX.soft (RX.eql_ft rfl rfl (by with_reducible rfl) (by with_reducible rfl)) rfl ?_ | refine RX.soft (RX.neq_same rfl rfl (by with_reducible rfl)) rfl ?_ | refine RX.soft (RX.neq_tf rfl rfl (by with_reducible rfl) (by with_reducible rfl)) rfl ?_ | refine RX.soft (RX.neq_ft rfl rfl (by with_reducible rfl) (by with_reducible rfl)) rfl ?_ | refine RX.soft (RX.eql_bool rfl rfl) rfl ?_ | refine RX.soft (RX.neq_bool rfl rfl) rfl ?_) | (refine RX.isCall ?_; first | refine RX.soft (RX.len_slice rfl) rfl ?_ | refine RX.soft (RX.max2 rfl rfl) rfl ?_ | refine RX.soft (RX.min2 rfl rfl) rfl ?_) | refine RX.soft (RX.indexAddr1 rfl rfl (by omega)) rfl ?_ | refine RX.soft (RX.indexAddrO rfl rfl (by omega)) rfl ?_ | refine RX.soft (RX.indexAddrS rfl rfl (by omega)) rfl ?_ | refine RX.soft (RX.pick_true rfl (by with_reducible rfl) rfl) rfl ?_ | refine RX.soft (RX.pick_false rfl (by with_reducible rfl) rfl) rfl ?_ | refine RX.soft (RX.not_t rfl (by with_reducible rfl)) rfl ?_ | refine RX.soft (RX.not_f rfl (by with_reducible rfl)) rfl ?_ | refine RX.soft (RX.not rfl) rfl ?_ | refine RX.soft (RX.extract rfl rfl) rfl ?_ | refine RX.soft (RX.build rfl (by intro w; simp [Instr.build, Instr.fill] <;> rfl)) rfl ?_ | refine RX.slice_one rfl rfl rfl rfl ?_)
    | refine RX.guard_true rfl rfl (by with_reducible rfl) (by first | omega | (with_reducible assumption)) ?_
    | refine RX.guard_false rfl rfl (by with_reducible rfl) (by first | omega | (with_reducible assumption)) ?_
    | refine RX.nil ?_
    | refine RX.then_normal ?_
    | refine RX.seq ?_
    | refine RX.region ?_
    | refine RX.cond_true rfl (by with_reducible rfl) ?_
    | refine RX.cond_false rfl (by with_reducible rfl) ?_
    | refine RX.skip ?_
    | refine RX.block ?_
    | refine RX.inBlock_normal ?_
    | refine RX.exit ?_
    | refine RX.then_exit ?_
    | refine RX.inBlock_exit ?_
    | refine RX.inBlock_other rfl ?_
    | refine RX.ret ?_
    | refine RX.then_ret ?_
    | refine RX.inBlock_ret ?_
    | refine RX.unwanted (by first | exact RX.barred_t rfl rfl rfl (by with_reducible rfl) | exact RX.barred_f rfl rfl rfl (by with_reducible rfl)) rfl ?_
    | refine RX.unwanted_none (by first | exact RX.barred_t rfl rfl rfl (by with_reducible rfl) | exact RX.barred_f rfl rfl rfl (by with_reducible rfl)) ?_
    | refine RX.cond rfl (fun h => absurd h (by first | omega | (with_reducible assumption))) (fun _ => ?_)
    | refine RX.cond rfl (fun _ => ?_) (fun h => absurd (by first | omega | (with_reducible assumption)) h))
  refine RX.loop (σ := Nat) (fun k => [(0, .int .i64 n), (3, .pointer (some ⟨pb, 0, none⟩)), (4, .int .i64 (k : Int))])
    (fun k wr => k ≤ many n ∧ (∃ lv, Row wr pb 44 [lv] ∧ wr.ownsRow 0 3 1 lv k (nats (List.range k)) ∧ lv.ownBlock ≠ some pb ∧ (∀ j, lv.ownBlock = some j → w.heap.size ≤ j)) ∧ Upd (fun _ => False) w wr) (fun k => many n - k) 0 ⟨rfl, rfl, rfl, trivial⟩
    ⟨by omega, ⟨_, hr1, owns_nil _ _ _ _, by simp [Value.ownBlock], by simp [Value.ownBlock]⟩, hu1⟩ ?_
  rintro k wr ⟨hk, ⟨lv, hr, ho, hne, hge⟩, hu⟩
  have hp := hr.cell_some (i := 0) rfl
  have hml := many_le n
  by_cases hlt : k < many n
  · obtain ⟨h1, h2⟩ := (many_iff n k).1 hlt
    have h2 : (k : Int) < 10000 := by omega
    repeat (first
      | (refine RX.opw (by first | exact RX.plain rfl | exact RX.guarded rfl rfl rfl (by with_reducible rfl)) ?_; first | refine RX.soft (RX.move rfl) rfl ?_ | refine RX.soft (RX.assign rfl) rfl ?_ | refine RX.soft (RX.nilCheck_ptr rfl) rfl ?_ | refine RX.soft (RX.fieldAddr0 rfl) rfl ?_ | refine RX.soft (RX.fieldAddrH rfl) rfl ?_ | refine RX.soft (RX.fieldAddr rfl) rfl ?_ | refine RX.soft (RX.load_at rfl (by assumption)) rfl ?_ | refine RX.soft (RX.lookup_at rfl rfl (by assumption)) rfl ?_ | (refine RX.isBin ?_; first | refine RX.soft (RX.lss rfl rfl) rfl ?_ | refine RX.soft (RX.eql rfl rfl) rfl ?_ | refine RX.soft (RX.neq rfl rfl) rfl ?_ | refine RX.soft (RX.geq rfl rfl) rfl ?_ | refine RX.soft (RX.gtr rfl rfl) rfl ?_ | refine RX.soft (RX.leq rfl rfl) rfl ?_ | refine RX.soft (RX.add_one rfl rfl (by omega)) rfl ?_ | refine RX.soft (RX.add_in rfl rfl (by omega)) rfl ?_ | refine RX.soft (RX.sub_in rfl rfl (by omega)) rfl ?_ | refine RX.soft (RX.eql_ptr_nil rfl rfl) rfl ?_ | refine RX.soft (RX.eql_nil_nil rfl rfl) rfl ?_ | refine RX.soft (RX.neq_ptr_nil rfl rfl) rfl ?_ | refine RX.soft (RX.neq_nil_nil rfl rfl) rfl ?_ | refine RX.soft (RX.eql_same rfl rfl (by with_reducible rfl)) rfl ?_ | refine RX.soft (RX.eql_tf rfl rfl (by with_reducible rfl) (by with_reducible rfl)) rfl ?_ | refine RX.soft (RX.eql_ft rfl rfl (by with_reducible rfl) (by with_reducible rfl)) rfl ?_ | refine RX.soft (RX.neq_same rfl rfl (by with_reducible rfl)) rfl ?_ | refine RX.soft (RX.neq_tf rfl rfl (by with_reducible rfl) (by with_reducible rfl)) rfl ?_ | refine RX.soft (RX.neq_ft rfl rfl (by with_reducible rfl) (by with_reducible rfl)) rfl ?_ | refine RX.soft (RX.eql_bool rfl rfl) rfl ?_ | refine RX.soft (RX.neq_bool rfl rfl) rfl ?_) | (refine RX.isCall ?_; first | refine RX.soft (RX.len_slice rfl) rfl ?_ | refine RX.soft (RX.max2 rfl rfl) rfl ?_ | refine RX.soft (RX.min2 rfl rfl) rfl ?_) | refine RX.soft (RX.indexAddr1 rfl rfl (by omega)) rfl ?_ | refine RX.soft (RX.indexAddrO rfl rfl (by omega)) rfl ?_ | refine RX.soft (RX.indexAddrS rfl rfl (by omega)) rfl ?_ | refine RX.soft (RX.pick_true rfl (by with_reducible rfl) rfl) rfl ?_ | refine RX.soft (RX.pick_false rfl (by with_reducible rfl) rfl) rfl ?_ | refine RX.soft (RX.not_t rfl (by with_reducible rfl)) rfl ?_ | refine RX.soft (RX.not_f rfl (by with_reducible rfl)) rfl ?_ | refine RX.soft (RX.not rfl) rfl ?_ | refine RX.soft (RX.extract rfl rfl) rfl ?_ | refine RX.soft (RX.build rfl (by intro w; simp [Instr.build, Instr.fill] <;> rfl)) rfl ?_ | refine RX.slice_one rfl rfl rfl rfl ?_)
      | refine RX.guard_true rfl rfl (by with_reducible rfl) (by first | omega | (with_reducible assumption)) ?_
      | refine RX.guard_false rfl rfl (by with_reducible rfl) (by first | omega | (with_reducible assumption)) ?_
      | refine RX.nil ?_
      | refine RX.then_normal ?_
      | refine RX.seq ?_
      | refine RX.region ?_
      | refine RX.cond_true rfl (by with_reducible rfl) ?_
      | refine RX.cond_false rfl (by with_reducible rfl) ?_
      | refine RX.skip ?_
      | refine RX.block ?_
      | refine RX.inBlock_normal ?_
      | refine RX.exit ?_
      | refine RX.then_exit ?_
      | refine RX.inBlock_exit ?_
      | refine RX.inBlock_other rfl ?_
      | refine RX.ret ?_
      | refine RX.then_ret ?_
      | refine RX.inBlock_ret ?_
      | refine RX.unwanted (by first | exact RX.barred_t rfl rfl rfl (by with_reducible rfl) | exact RX.barred_f rfl rfl rfl (by with_reducible rfl)) rfl ?_
      | refine RX.unwanted_none (by first | exact RX.barred_t rfl rfl rfl (by with_reducible rfl) | exact RX.barred_f rfl rfl rfl (by with_reducible rfl)) ?_
      | refine RX.cond rfl (fun h => absurd h (by first | omega | (with_reducible assumption))) (fun _ => ?_)
      | refine RX.cond rfl (fun _ => ?_) (fun h => absurd (by first | omega | (with_reducible assumption)) h))
    refine RX.op rfl ?_
    refine append_one (B := 0) (k := k) (xs := nats (List.range k)) (news := [.int .i64 (k : Int)]) rfl rfl rfl ho (by omega) rfl (by simp [Value.oneCell']) rfl (by omega) (by simp [maxLen]; omega) (by omega) (fun lv' w2 ho2 hu2 hn2 => ?_)
    rw [nats_snoc, ← List.range_succ] at ho2
    have hr2 := hr.keep hu2 hne
    have hwr : w.heap.size ≤ wr.heap.size := hu.size
    repeat (first
      | (refine RX.opw (by first | exact RX.plain rfl | exact RX.guarded rfl rfl rfl (by with_reducible rfl)) ?_; first | refine RX.soft (RX.move rfl) rfl ?_ | refine RX.soft (RX.assign rfl) rfl ?_ | refine RX.soft (RX.nilCheck_ptr rfl) rfl ?_ | refine RX.soft (RX.fieldAddr0 rfl) rfl ?_ | refine RX.soft (RX.fieldAddrH rfl) rfl ?_ | refine RX.soft (RX.fieldAddr rfl) rfl ?_ | refine RX.soft (RX.load_at rfl (by assumption)) rfl ?_ | refine RX.soft (RX.lookup_at rfl rfl (by assumption)) rfl ?_ | (refine RX.isBin ?_; first | refine RX.soft (RX.lss rfl rfl) rfl ?_ | refine RX.soft (RX.eql rfl rfl) rfl ?_ | refine RX.soft (RX.neq rfl rfl) rfl ?_ | refine RX.soft (RX.geq rfl rfl) rfl ?_ | refine RX.soft (RX.gtr rfl rfl) rfl ?_ | refine RX.soft (RX.leq rfl rfl) rfl ?_ | refine RX.soft (RX.add_one rfl rfl (by omega)) rfl ?_ | refine RX.soft (RX.add_in rfl rfl (by omega)) rfl ?_ | refine RX.soft (RX.sub_in rfl rfl (by omega)) rfl ?_ | refine RX.soft (RX.eql_ptr_nil rfl rfl) rfl ?_ | refine RX.soft (RX.eql_nil_nil rfl rfl) rfl ?_ | refine RX.soft (RX.neq_ptr_nil rfl rfl) rfl ?_ | refine RX.soft (RX.neq_nil_nil rfl rfl) rfl ?_ | refine RX.soft (RX.eql_same rfl rfl (by with_reducible rfl)) rfl ?_ | refine RX.soft (RX.eql_tf rfl rfl (by with_reducible rfl) (by with_reducible rfl)) rfl ?_ | refine RX.soft (RX.eql_ft rfl rfl (by with_reducible rfl) (by with_reducible rfl)) rfl ?_ | refine RX.soft (RX.neq_same rfl rfl (by with_reducible rfl)) rfl ?_ | refine RX.soft (RX.neq_tf rfl rfl (by with_reducible rfl) (by with_reducible rfl)) rfl ?_ | refine RX.soft (RX.neq_ft rfl rfl (by with_reducible rfl) (by with_reducible rfl)) rfl ?_ | refine RX.soft (RX.eql_bool rfl rfl) rfl ?_ | refine RX.soft (RX.neq_bool rfl rfl) rfl ?_) | (refine RX.isCall ?_; first | refine RX.soft (RX.len_slice rfl) rfl ?_ | refine RX.soft (RX.max2 rfl rfl) rfl ?_ | refine RX.soft (RX.min2 rfl rfl) rfl ?_) | refine RX.soft (RX.indexAddr1 rfl rfl (by omega)) rfl ?_ | refine RX.soft (RX.indexAddrO rfl rfl (by omega)) rfl ?_ | refine RX.soft (RX.indexAddrS rfl rfl (by omega)) rfl ?_ | refine RX.soft (RX.pick_true rfl (by with_reducible rfl) rfl) rfl ?_ | refine RX.soft (RX.pick_false rfl (by with_reducible rfl) rfl) rfl ?_ | refine RX.soft (RX.not_t rfl (by with_reducible rfl)) rfl ?_ | refine RX.soft (RX.not_f rfl (by with_reducible rfl)) rfl ?_ | refine RX.soft (RX.not rfl) rfl ?_ | refine RX.soft (RX.extract rfl rfl) rfl ?_ | refine RX.soft (RX.build rfl (by intro w; simp [Instr.build, Instr.fill] <;> rfl)) rfl ?_ | refine RX.slice_one rfl rfl rfl rfl ?_)
      | refine RX.guard_true rfl rfl (by with_reducible rfl) (by first | omega | (with_reducible assumption)) ?_
      | refine RX.guard_false rfl rfl (by with_reducible rfl) (by first | omega | (with_reducible assumption)) ?_
      | refine RX.nil ?_
      | refine RX.then_normal ?_
      | refine RX.seq ?_
      | refine RX.region ?_
      | refine RX.cond_true rfl (by with_reducible rfl) ?_
      | refine RX.cond_false rfl (by with_reducible rfl) ?_
      | refine RX.skip ?_
      | refine RX.block ?_
      | refine RX.inBlock_normal ?_
      | refine RX.exit ?_
      | refine RX.then_exit ?_
      | refine RX.inBlock_exit ?_
      | refine RX.inBlock_other rfl ?_
      | refine RX.ret ?_
      | refine RX.then_ret ?_
      | refine RX.inBlock_ret ?_
      | refine RX.unwanted (by first | exact RX.barred_t rfl rfl rfl (by with_reducible rfl) | exact RX.barred_f rfl rfl rfl (by with_reducible rfl)) rfl ?_
      | refine RX.unwanted_none (by first | exact RX.barred_t rfl rfl rfl (by with_reducible rfl) | exact RX.barred_f rfl rfl rfl (by with_reducible rfl)) ?_
      | refine RX.cond rfl (fun h => absurd h (by first | omega | (with_reducible assumption))) (fun _ => ?_)
      | refine RX.cond rfl (fun _ => ?_) (fun h => absurd (by first | omega | (with_reducible assumption)) h))
    refine RX.op rfl ?_
    refine store_row rfl rfl hr2 (by rcases owns_slice ho2 with ⟨a, c, rfl⟩; rfl) (by simp) (fun w3 hr3 hu3 => ?_)
    have hr3 : Row w3 pb 44 [lv'] := hr3
    have hne' : lv'.ownBlock ≠ some pb := fun e => by
      rcases hn2 _ e with h | h
      · exact hne h
      · have := hr.lt; omega
    repeat (first
      | (refine RX.opw (by first | exact RX.plain rfl | exact RX.guarded rfl rfl rfl (by with_reducible rfl)) ?_; first | refine RX.soft (RX.move rfl) rfl ?_ | refine RX.soft (RX.assign rfl) rfl ?_ | refine RX.soft (RX.nilCheck_ptr rfl) rfl ?_ | refine RX.soft (RX.fieldAddr0 rfl) rfl ?_ | refine RX.soft (RX.fieldAddrH rfl) rfl ?_ | refine RX.soft (RX.fieldAddr rfl) rfl ?_ | refine RX.soft (RX.load_at rfl (by assumption)) rfl ?_ | refine RX.soft (RX.lookup_at rfl rfl (by assumption)) rfl ?_ | (refine RX.isBin ?_; first | refine RX.soft (RX.lss rfl rfl) rfl ?_ | refine RX.soft (RX.eql rfl rfl) rfl ?_ | refine RX.soft (RX.neq rfl rfl) rfl ?_ | refine RX.soft (RX.geq rfl rfl) rfl ?_ | refine RX.soft (RX.gtr rfl rfl) rfl ?_ | refine RX.soft (RX.leq rfl rfl) rfl ?_ | refine RX.soft (RX.add_one rfl rfl (by omega)) rfl ?_ | refine RX.soft (RX.add_in rfl rfl (by omega)) rfl ?_ | refine RX.soft (RX.sub_in rfl rfl (by omega)) rfl ?_ | refine RX.soft (RX.eql_ptr_nil rfl rfl) rfl ?_ | refine RX.soft (RX.eql_nil_nil rfl rfl) rfl ?_ | refine RX.soft (RX.neq_ptr_nil rfl rfl) rfl ?_ | refine RX.soft (RX.neq_nil_nil rfl rfl) rfl ?_ | refine RX.soft (RX.eql_same rfl rfl (by with_reducible rfl)) rfl ?_ | refine RX.soft (RX.eql_tf rfl rfl (by with_reducible rfl) (by with_reducible rfl)) rfl ?_ | refine RX.soft (RX.eql_ft rfl rfl (by with_reducible rfl) (by with_reducible rfl)) rfl ?_ | refine RX.soft (RX.neq_same rfl rfl (by with_reducible rfl)) rfl ?_ | refine RX.soft (RX.neq_tf rfl rfl (by with_reducible rfl) (by with_reducible rfl)) rfl ?_ | refine RX.soft (RX.neq_ft rfl rfl (by with_reducible rfl) (by with_reducible rfl)) rfl ?_ | refine RX.soft (RX.eql_bool rfl rfl) rfl ?_ | refine RX.soft (RX.neq_bool rfl rfl) rfl ?_) | (refine RX.isCall ?_; first | refine RX.soft (RX.len_slice rfl) rfl ?_ | refine RX.soft (RX.max2 rfl rfl) rfl ?_ | refine RX.soft (RX.min2 rfl rfl) rfl ?_) | refine RX.soft (RX.indexAddr1 rfl rfl (by omega)) rfl ?_ | refine RX.soft (RX.indexAddrO rfl rfl (by omega)) rfl ?_ | refine RX.soft (RX.indexAddrS rfl rfl (by omega)) rfl ?_ | refine RX.soft (RX.pick_true rfl (by with_reducible rfl) rfl) rfl ?_ | refine RX.soft (RX.pick_false rfl (by with_reducible rfl) rfl) rfl ?_ | refine RX.soft (RX.not_t rfl (by with_reducible rfl)) rfl ?_ | refine RX.soft (RX.not_f rfl (by with_reducible rfl)) rfl ?_ | refine RX.soft (RX.not rfl) rfl ?_ | refine RX.soft (RX.extract rfl rfl) rfl ?_ | refine RX.soft (RX.build rfl (by intro w; simp [Instr.build, Instr.fill] <;> rfl)) rfl ?_ | refine RX.slice_one rfl rfl rfl rfl ?_)
      | refine RX.guard_true rfl rfl (by with_reducible rfl) (by first | omega | (with_reducible assumption)) ?_
      | refine RX.guard_false rfl rfl (by with_reducible rfl) (by first | omega | (with_reducible assumption)) ?_
      | refine RX.nil ?_
      | refine RX.then_normal ?_
      | refine RX.seq ?_
      | refine RX.region ?_
      | refine RX.cond_true rfl (by with_reducible rfl) ?_
      | refine RX.cond_false rfl (by with_reducible rfl) ?_
      | refine RX.skip ?_
      | refine RX.block ?_
      | refine RX.inBlock_normal ?_
      | refine RX.exit ?_
      | refine RX.then_exit ?_
      | refine RX.inBlock_exit ?_
      | refine RX.inBlock_other rfl ?_
      | refine RX.ret ?_
      | refine RX.then_ret ?_
      | refine RX.inBlock_ret ?_
      | refine RX.unwanted (by first | exact RX.barred_t rfl rfl rfl (by with_reducible rfl) | exact RX.barred_f rfl rfl rfl (by with_reducible rfl)) rfl ?_
      | refine RX.unwanted_none (by first | exact RX.barred_t rfl rfl rfl (by with_reducible rfl) | exact RX.barred_f rfl rfl rfl (by with_reducible rfl)) ?_
      | refine RX.cond rfl (fun h => absurd h (by first | omega | (with_reducible assumption))) (fun _ => ?_)
      | refine RX.cond rfl (fun _ => ?_) (fun h => absurd (by first | omega | (with_reducible assumption)) h))
    refine RX.again (k + 1) ⟨rfl, rfl, rfl, trivial⟩ ⟨by omega, ⟨lv', hr3, owns_keep ho2 hu3 (fun j hj e => hne' (by rw [← e]; exact hj)), hne', fun j hj => ?_⟩, ?_⟩ (by omega)
    · rcases hn2 _ hj with h | h
      · exact hge _ h
      · omega
    · exact (hu.trans hu2 (fun _ _ h => h) (fun j hj h => by have := hge _ h; omega)).trans hu3 (fun _ _ h => h) (fun j hj e => by have := hu1.size; omega)
  · have hk : k = many n := by omega
    have hfin : RefAt wr pb lv (List.range (many n)) := ⟨hr, by rw [← hk]; simpa using ho, hne, by simpa using hml⟩
    by_cases h1 : (k : Int) < n
    · have h2 : ¬ (k : Int) < 10000 := by have := (many_iff n k).2; omega
      repeat (first
        | (refine RX.opw (by first | exact RX.plain rfl | exact RX.guarded rfl rfl rfl (by with_reducible rfl)) ?_; first | refine RX.soft (RX.move rfl) rfl ?_ | refine RX.soft (RX.assign rfl) rfl ?_ | refine RX.soft (RX.nilCheck_ptr rfl) rfl ?_ | refine RX.soft (RX.fieldAddr0 rfl) rfl ?_ | refine RX.soft (RX.fieldAddrH rfl) rfl ?_ | refine RX.soft (RX.fieldAddr rfl) rfl ?_ | refine RX.soft (RX.load_at rfl (by assumption)) rfl ?_ | refine RX.soft (RX.lookup_at rfl rfl (by assumption)) rfl ?_ | (refine RX.isBin ?_; first | refine RX.soft (RX.lss rfl rfl) rfl ?_ | refine RX.soft (RX.eql rfl rfl) rfl ?_ | refine RX.soft (RX.neq rfl rfl) rfl ?_ | refine RX.soft (RX.geq rfl rfl) rfl ?_ | refine RX.soft (RX.gtr rfl rfl) rfl ?_ | refine RX.soft (RX.leq rfl rfl) rfl ?_ | refine RX.soft (RX.add_one rfl rfl (by omega)) rfl ?_ | refine RX.soft (RX.add_in rfl rfl (by omega)) rfl ?_ | refine RX.soft (RX.sub_in rfl rfl (by omega)) rfl ?_ | refine RX.soft (RX.eql_ptr_nil rfl rfl) rfl ?_ | refine RX.soft (RX.eql_nil_nil rfl rfl) rfl ?_ | refine RX.soft (RX.neq_ptr_nil rfl rfl) rfl ?_ | refine RX.soft (RX.neq_nil_nil rfl rfl) rfl ?_ | refine RX.soft (RX.eql_same rfl rfl (by with_reducible rfl)) rfl ?_ | refine RX.soft (RX.eql_tf rfl rfl (by with_reducible rfl) (by with_reducible rfl)) rfl ?_ | refine RX.soft (RX.eql_ft rfl rfl (by with_reducible rfl) (by with_reducible rfl)) rfl ?_ | refine RX.soft (RX.neq_same rfl rfl (by with_reducible rfl)) rfl ?_ | refine RX.soft (RX.neq_tf rfl rfl (by with_reducible rfl) (by with_reducible rfl)) rfl ?_ | refine RX.soft (RX.neq_ft rfl rfl (by with_reducible rfl) (by with_reducible rfl)) rfl ?_ | refine RX.soft (RX.eql_bool rfl rfl) rfl ?_ | refine RX.soft (RX.neq_bool rfl rfl) rfl ?_) | (refine RX.isCall ?_; first | refine RX.soft (RX.len_slice rfl) rfl ?_ | refine RX.soft (RX.max2 rfl rfl) rfl ?_ | refine RX.soft (RX.min2 rfl rfl) rfl ?_) | refine RX.soft (RX.indexAddr1 rfl rfl (by omega)) rfl ?_ | refine RX.soft (RX.indexAddrO rfl rfl (by omega)) rfl ?_ | refine RX.soft (RX.indexAddrS rfl rfl (by omega)) rfl ?_ | refine RX.soft (RX.pick_true rfl (by with_reducible rfl) rfl) rfl ?_ | refine RX.soft (RX.pick_false rfl (by with_reducible rfl) rfl) rfl ?_ | refine RX.soft (RX.not_t rfl (by with_reducible rfl)) rfl ?_ | refine RX.soft (RX.not_f rfl (by with_reducible rfl)) rfl ?_ | refine RX.soft (RX.not rfl) rfl ?_ | refine RX.soft (RX.extract rfl rfl) rfl ?_ | refine RX.soft (RX.build rfl (by intro w; simp [Instr.build, Instr.fill] <;> rfl)) rfl ?_ | refine RX.slice_one rfl rfl rfl rfl ?_)
        | refine RX.guard_true rfl rfl (by with_reducible rfl) (by first | omega | (with_reducible assumption)) ?_
        | refine RX.guard_false rfl rfl (by with_reducible rfl) (by first | omega | (with_reducible assumption)) ?_
        | refine RX.nil ?_
        | refine RX.then_normal ?_
        | refine RX.seq ?_
        | refine RX.region ?_
        | refine RX.cond_true rfl (by with_reducible rfl) ?_
        | refine RX.cond_false rfl (by with_reducible rfl) ?_
        | refine RX.skip ?_
        | refine RX.block ?_
        | refine RX.inBlock_normal ?_
        | refine RX.exit ?_
        | refine RX.then_exit ?_
        | refine RX.inBlock_exit ?_
        | refine RX.inBlock_other rfl ?_
        | refine RX.ret ?_
        | refine RX.then_ret ?_
        | refine RX.inBlock_ret ?_
        | refine RX.unwanted (by first | exact RX.barred_t rfl rfl rfl (by with_reducible rfl) | exact RX.barred_f rfl rfl rfl (by with_reducible rfl)) rfl ?_
        | refine RX.unwanted_none (by first | exact RX.barred_t rfl rfl rfl (by with_reducible rfl) | exact RX.barred_f rfl rfl rfl (by with_reducible rfl)) ?_
        | refine RX.cond rfl (fun h => absurd h (by first | omega | (with_reducible assumption))) (fun _ => ?_)
        | refine RX.cond rfl (fun _ => ?_) (fun h => absurd (by first | omega | (with_reducible assumption)) h))
      exact ret1 rfl rfl ⟨pb, lv, rfl, hpb, hge, hfin, hu⟩
    · repeat (first
        | (refine RX.opw (by first | exact RX.plain rfl | exact RX.guarded rfl rfl rfl (by with_reducible rfl)) ?_; first | refine RX.soft (RX.move rfl) rfl ?_ | refine RX.soft (RX.assign rfl) rfl ?_ | refine RX.soft (RX.nilCheck_ptr rfl) rfl ?_ | refine RX.soft (RX.fieldAddr0 rfl) rfl ?_ | refine RX.soft (RX.fieldAddrH rfl) rfl ?_ | refine RX.soft (RX.fieldAddr rfl) rfl ?_ | refine RX.soft (RX.load_at rfl (by assumption)) rfl ?_ | refine RX.soft (RX.lookup_at rfl rfl (by assumption)) rfl ?_ | (refine RX.isBin ?_; first | refine RX.soft (RX.lss rfl rfl) rfl ?_ | refine RX.soft (RX.eql rfl rfl) rfl ?_ | refine RX.soft (RX.neq rfl rfl) rfl ?_ | refine RX.soft (RX.geq rfl rfl) rfl ?_ | refine RX.soft (RX.gtr rfl rfl) rfl ?_ | refine RX.soft (RX.leq rfl rfl) rfl ?_ | refine RX.soft (RX.add_one rfl rfl (by omega)) rfl ?_ | refine RX.soft (RX.add_in rfl rfl (by omega)) rfl ?_ | refine RX.soft (RX.sub_in rfl rfl (by omega)) rfl ?_ | refine RX.soft (RX.eql_ptr_nil rfl rfl) rfl ?_ | refine RX.soft (RX.eql_nil_nil rfl rfl) rfl ?_ | refine RX.soft (RX.neq_ptr_nil rfl rfl) rfl ?_ | refine RX.soft (RX.neq_nil_nil rfl rfl) rfl ?_ | refine RX.soft (RX.eql_same rfl rfl (by with_reducible rfl)) rfl ?_ | refine RX.soft (RX.eql_tf rfl rfl (by with_reducible rfl) (by with_reducible rfl)) rfl ?_ | refine RX.soft (RX.eql_ft rfl rfl (by with_reducible rfl) (by with_reducible rfl)) rfl ?_ | refine RX.soft (RX.neq_same rfl rfl (by with_reducible rfl)) rfl ?_ | refine RX.soft (RX.neq_tf rfl rfl (by with_reducible rfl) (by with_reducible rfl)) rfl ?_ | refine RX.soft (RX.neq_ft rfl rfl (by with_reducible rfl) (by with_reducible rfl)) rfl ?_ | refine RX.soft (RX.eql_bool rfl rfl) rfl ?_ | refine RX.soft (RX.neq_bool rfl rfl) rfl ?_) | (refine RX.isCall ?_; first | refine RX.soft (RX.len_slice rfl) rfl ?_ | refine RX.soft (RX.max2 rfl rfl) rfl ?_ | refine RX.soft (RX.min2 rfl rfl) rfl ?_) | refine RX.soft (RX.indexAddr1 rfl rfl (by omega)) rfl ?_ | refine RX.soft (RX.indexAddrO rfl rfl (by omega)) rfl ?_ | refine RX.soft (RX.indexAddrS rfl rfl (by omega)) rfl ?_ | refine RX.soft (RX.pick_true rfl (by with_reducible rfl) rfl) rfl ?_ | refine RX.soft (RX.pick_false rfl (by with_reducible rfl) rfl) rfl ?_ | refine RX.soft (RX.not_t rfl (by with_reducible rfl)) rfl ?_ | refine RX.soft (RX.not_f rfl (by with_reducible rfl)) rfl ?_ | refine RX.soft (RX.not rfl) rfl ?_ | refine RX.soft (RX.extract rfl rfl) rfl ?_ | refine RX.soft (RX.build rfl (by intro w; simp [Instr.build, Instr.fill] <;> rfl)) rfl ?_ | refine RX.slice_one rfl rfl rfl rfl ?_)
        | refine RX.guard_true rfl rfl (by with_reducible rfl) (by first | omega | (with_reducible assumption)) ?_
        | refine RX.guard_false rfl rfl (by with_reducible rfl) (by first | omega | (with_reducible assumption)) ?_
        | refine RX.nil ?_
        | refine RX.then_normal ?_
        | refine RX.seq ?_
        | refine RX.region ?_
        | refine RX.cond_true rfl (by with_reducible rfl) ?_
        | refine RX.cond_false rfl (by with_reducible rfl) ?_
        | refine RX.skip ?_
        | refine RX.block ?_
        | refine RX.inBlock_normal ?_
        | refine RX.exit ?_
        | refine RX.then_exit ?_
        | refine RX.inBlock_exit ?_
        | refine RX.inBlock_other rfl ?_
        | refine RX.ret ?_
        | refine RX.then_ret ?_
        | refine RX.inBlock_ret ?_
        | refine RX.unwanted (by first | exact RX.barred_t rfl rfl rfl (by with_reducible rfl) | exact RX.barred_f rfl rfl rfl (by with_reducible rfl)) rfl ?_
        | refine RX.unwanted_none (by first | exact RX.barred_t rfl rfl rfl (by with_reducible rfl) | exact RX.barred_f rfl rfl rfl (by with_reducible rfl)) ?_
        | refine RX.cond rfl (fun h => absurd h (by first | omega | (with_reducible assumption))) (fun _ => ?_)
        | refine RX.cond rfl (fun _ => ?_) (fun h => absurd (by first | omega | (with_reducible assumption)) h))
      exact ret1 rfl rfl ⟨pb, lv, rfl, hpb, hge, hfin, hu⟩

theorem range_getD {β : Type} (f : Nat → β) (l : List Nat) : (List.range l.length).map (fun j => f (l.getD j 0)) = l.map f := by
  apply List.ext_getElem
  · simp
  · intro i h1 h2
    simp at h1
    simp [h1]

theorem RefAt.lt {w : World} {pb : Nat} {lv : Value} {lst : List Nat} (h : RefAt w pb lv lst) : pb < w.heap.size ∧ ∀ k, lv.ownBlock = some k → k < w.heap.size := ⟨h.head.lt, fun k hk => (owns_lt h.body hk).2⟩

set_option maxHeartbeats 1000000 in
theorem rjoin_any (a b : Int) (w : World) (pb : Nat) (lv : Value) (lst : List Nat) (hf : RefAt w pb lv lst) (hfix : Fix lst) :
    Calls Try.prog 11 #[.pointer (some ⟨pb, 0, none⟩), .int .i64 a, .int .i64 b] w fun e w' => e = .returned (.bool (join lst a b).1) ∧ RefAt w' pb lv (join lst a b).2 ∧ Upd (fun k => lv.ownBlock = some k) w w' := by
  have hp := hf.head.cell_some (i := 0) rfl
  have hsz := hf.size
  have hbd := least_bd lst hfix a
  have hbd2 := least_bd lst hfix b
  refine enter3 Try.func11 rfl Try.ntmps11 rfl ?_
  repeat (first
    | (refine RX.opw (by first | exact RX.plain rfl | exact RX.guarded rfl rfl rfl (by with_reducible rfl)) ?_; first | refine RX.soft (RX.move rfl) rfl ?_ | refine RX.soft (RX.assign rfl) rfl ?_ | refine RX.soft (RX.nilCheck_ptr rfl) rfl ?_ | refine RX.soft (RX.fieldAddr0 rfl) rfl ?_ | refine RX.soft (RX.fieldAddrH rfl) rfl ?_ | refine RX.soft (RX.fieldAddr rfl) rfl ?_ | refine RX.soft (RX.load_at rfl (by assumption)) rfl ?_ | refine RX.soft (RX.lookup_at rfl rfl (by assumption)) rfl ?_ | (refine RX.isBin ?_; first | refine RX.soft (RX.lss rfl rfl) rfl ?_ | refine RX.soft (RX.eql rfl rfl) rfl ?_ | refine RX.soft (RX.neq rfl rfl) rfl ?_ | refine RX.soft (RX.geq rfl rfl) rfl ?_ | refine RX.soft (RX.gtr rfl rfl) rfl ?_ | refine RX.soft (RX.leq rfl rfl) rfl ?_ | refine RX.soft (RX.add_one rfl rfl (by omega)) rfl ?_ | refine RX.soft (RX.add_in rfl rfl (by omega)) rfl ?_ | refine RX.soft (RX.sub_in rfl rfl (by omega)) rfl ?_ | refine RX.soft (RX.eql_ptr_nil rfl rfl) rfl ?_ | refine RX.soft (RX.eql_nil_nil rfl rfl) rfl ?_ | refine RX.soft (RX.neq_ptr_nil rfl rfl) rfl ?_ | refine RX.soft (RX.neq_nil_nil rfl rfl) rfl ?_ | refine RX.soft (RX.eql_same rfl rfl (by with_reducible rfl)) rfl ?_ | refine RX.soft (RX.eql_tf rfl rfl (by with_reducible rfl) (by with_reducible rfl)) rfl ?_ | refine RX.soft (RX.eql_ft rfl rfl (by with_reducible rfl) (by with_reducible rfl)) rfl ?_ | refine RX.soft (RX.neq_same rfl rfl (by with_reducible rfl)) rfl ?_ | refine RX.soft (RX.neq_tf rfl rfl (by with_reducible rfl) (by with_reducible rfl)) rfl ?_ | refine RX.soft (RX.neq_ft rfl rfl (by with_reducible rfl) (by with_reducible rfl)) rfl ?_ | refine RX.soft (RX.eql_bool rfl rfl) rfl ?_ | refine RX.soft (RX.neq_bool rfl rfl) rfl ?_) | (refine RX.isCall ?_; first | refine RX.soft (RX.len_slice rfl) rfl ?_ | refine RX.soft (RX.max2 rfl rfl) rfl ?_ | refine RX.soft (RX.min2 rfl rfl) rfl ?_) | refine RX.soft (RX.indexAddr1 rfl rfl (by omega)) rfl ?_ | refine RX.soft (RX.indexAddrO rfl rfl (by omega)) rfl ?_ | refine RX.soft (RX.indexAddrS rfl rfl (by omega)) rfl ?_ | refine RX.soft (RX.pick_true rfl (by with_reducible rfl) rfl) rfl ?_ | refine RX.soft (RX.pick_false rfl (by with_reducible rfl) rfl) rfl ?_ | refine RX.soft (RX.not_t rfl (by with_reducible rfl)) rfl ?_ | refine RX.soft (RX.not_f rfl (by with_reducible rfl)) rfl ?_ | refine RX.soft (RX.not rfl) rfl ?_ | refine RX.soft (RX.extract rfl rfl) rfl ?_ | refine RX.soft (RX.build rfl (by intro w; simp [Instr.build, Instr.fill] <;> rfl)) rfl ?_ | refine RX.slice_one rfl rfl rfl rfl ?_)
    | refine RX.guard_true rfl rfl (by with_reducible rfl) (by first | omega | (with_reducible assumption)) ?_
    | refine RX.guard_false rfl rfl (by with_reducible rfl) (by first | omega | (with_reducible assumption)) ?_
    | refine RX.nil ?_
    | refine RX.then_normal ?_
    | refine RX.seq ?_
    | refine RX.region ?_
    | refine RX.cond_true rfl (by with_reducible rfl) ?_
    | refine RX.cond_false rfl (by with_reducible rfl) ?_
    | refine RX.skip ?_
    | refine RX.block ?_
    | refine RX.inBlock_normal ?_
    | refine RX.exit ?_
    | refine RX.then_exit ?_
    | refine RX.inBlock_exit ?_
    | refine RX.inBlock_other rfl ?_
    | refine RX.ret ?_
    | refine RX.then_ret ?_
    | refine RX.inBlock_ret ?_
    | refine RX.unwanted (by first | exact RX.barred_t rfl rfl rfl (by with_reducible rfl) | exact RX.barred_f rfl rfl rfl (by with_reducible rfl)) rfl ?_
    | refine RX.unwanted_none (by first | exact RX.barred_t rfl rfl rfl (by with_reducible rfl) | exact RX.barred_f rfl rfl rfl (by with_reducible rfl)) ?_
    | refine RX.cond rfl (fun h => absurd h (by first | omega | (with_reducible assumption))) (fun _ => ?_)
    | refine RX.cond rfl (fun _ => ?_) (fun h => absurd (by first | omega | (with_reducible assumption)) h))
  refine RX.op rfl ?_
  refine call rfl (rleast_any a _ pb lv lst hf) rfl ?_
  rintro e w1 ⟨rfl, rfl⟩; refine ⟨_, rfl, ?_⟩
  repeat (first
    | (refine RX.opw (by first | exact RX.plain rfl | exact RX.guarded rfl rfl rfl (by with_reducible rfl)) ?_; first | refine RX.soft (RX.move rfl) rfl ?_ | refine RX.soft (RX.assign rfl) rfl ?_ | refine RX.soft (RX.nilCheck_ptr rfl) rfl ?_ | refine RX.soft (RX.fieldAddr0 rfl) rfl ?_ | refine RX.soft (RX.fieldAddrH rfl) rfl ?_ | refine RX.soft (RX.fieldAddr rfl) rfl ?_ | refine RX.soft (RX.load_at rfl (by assumption)) rfl ?_ | refine RX.soft (RX.lookup_at rfl rfl (by assumption)) rfl ?_ | (refine RX.isBin ?_; first | refine RX.soft (RX.lss rfl rfl) rfl ?_ | refine RX.soft (RX.eql rfl rfl) rfl ?_ | refine RX.soft (RX.neq rfl rfl) rfl ?_ | refine RX.soft (RX.geq rfl rfl) rfl ?_ | refine RX.soft (RX.gtr rfl rfl) rfl ?_ | refine RX.soft (RX.leq rfl rfl) rfl ?_ | refine RX.soft (RX.add_one rfl rfl (by omega)) rfl ?_ | refine RX.soft (RX.add_in rfl rfl (by omega)) rfl ?_ | refine RX.soft (RX.sub_in rfl rfl (by omega)) rfl ?_ | refine RX.soft (RX.eql_ptr_nil rfl rfl) rfl ?_ | refine RX.soft (RX.eql_nil_nil rfl rfl) rfl ?_ | refine RX.soft (RX.neq_ptr_nil rfl rfl) rfl ?_ | refine RX.soft (RX.neq_nil_nil rfl rfl) rfl ?_ | refine RX.soft (RX.eql_same rfl rfl (by with_reducible rfl)) rfl ?_ | refine RX.soft (RX.eql_tf rfl rfl (by with_reducible rfl) (by with_reducible rfl)) rfl ?_ | refine RX.soft (RX.eql_ft rfl rfl (by with_reducible rfl) (by with_reducible rfl)) rfl ?_ | refine RX.soft (RX.neq_same rfl rfl (by with_reducible rfl)) rfl ?_ | refine RX.soft (RX.neq_tf rfl rfl (by with_reducible rfl) (by with_reducible rfl)) rfl ?_ | refine RX.soft (RX.neq_ft rfl rfl (by with_reducible rfl) (by with_reducible rfl)) rfl ?_ | refine RX.soft (RX.eql_bool rfl rfl) rfl ?_ | refine RX.soft (RX.neq_bool rfl rfl) rfl ?_) | (refine RX.isCall ?_; first | refine RX.soft (RX.len_slice rfl) rfl ?_ | refine RX.soft (RX.max2 rfl rfl) rfl ?_ | refine RX.soft (RX.min2 rfl rfl) rfl ?_) | refine RX.soft (RX.indexAddr1 rfl rfl (by omega)) rfl ?_ | refine RX.soft (RX.indexAddrO rfl rfl (by omega)) rfl ?_ | refine RX.soft (RX.indexAddrS rfl rfl (by omega)) rfl ?_ | refine RX.soft (RX.pick_true rfl (by with_reducible rfl) rfl) rfl ?_ | refine RX.soft (RX.pick_false rfl (by with_reducible rfl) rfl) rfl ?_ | refine RX.soft (RX.not_t rfl (by with_reducible rfl)) rfl ?_ | refine RX.soft (RX.not_f rfl (by with_reducible rfl)) rfl ?_ | refine RX.soft (RX.not rfl) rfl ?_ | refine RX.soft (RX.extract rfl rfl) rfl ?_ | refine RX.soft (RX.build rfl (by intro w; simp [Instr.build, Instr.fill] <;> rfl)) rfl ?_ | refine RX.slice_one rfl rfl rfl rfl ?_)
    | refine RX.guard_true rfl rfl (by with_reducible rfl) (by first | omega | (with_reducible assumption)) ?_
    | refine RX.guard_false rfl rfl (by with_reducible rfl) (by first | omega | (with_reducible assumption)) ?_
    | refine RX.nil ?_
    | refine RX.then_normal ?_
    | refine RX.seq ?_
    | refine RX.region ?_
    | refine RX.cond_true rfl (by with_reducible rfl) ?_
    | refine RX.cond_false rfl (by with_reducible rfl) ?_
    | refine RX.skip ?_
    | refine RX.block ?_
    | refine RX.inBlock_normal ?_
    | refine RX.exit ?_
    | refine RX.then_exit ?_
    | refine RX.inBlock_exit ?_
    | refine RX.inBlock_other rfl ?_
    | refine RX.ret ?_
    | refine RX.then_ret ?_
    | refine RX.inBlock_ret ?_
    | refine RX.unwanted (by first | exact RX.barred_t rfl rfl rfl (by with_reducible rfl) | exact RX.barred_f rfl rfl rfl (by with_reducible rfl)) rfl ?_
    | refine RX.unwanted_none (by first | exact RX.barred_t rfl rfl rfl (by with_reducible rfl) | exact RX.barred_f rfl rfl rfl (by with_reducible rfl)) ?_
    | refine RX.cond rfl (fun h => absurd h (by first | omega | (with_reducible assumption))) (fun _ => ?_)
    | refine RX.cond rfl (fun _ => ?_) (fun h => absurd (by first | omega | (with_reducible assumption)) h))
  refine RX.op rfl ?_
  refine call rfl (rleast_any b _ pb lv lst hf) rfl ?_
  rintro e w1 ⟨rfl, rfl⟩; refine ⟨_, rfl, ?_⟩
  by_cases hno : least lst a < 0 ∨ least lst b < 0 ∨ least lst a = least lst b
  · have hj : join lst a b = (false, lst) := by unfold join; rw [if_pos hno]
    rw [hj]
    by_cases h1 : least lst a < 0
    · repeat (first
        | (refine RX.opw (by first | exact RX.plain rfl | exact RX.guarded rfl rfl rfl (by with_reducible rfl)) ?_; first | refine RX.soft (RX.move rfl) rfl ?_ | refine RX.soft (RX.assign rfl) rfl ?_ | refine RX.soft (RX.nilCheck_ptr rfl) rfl ?_ | refine RX.soft (RX.fieldAddr0 rfl) rfl ?_ | refine RX.soft (RX.fieldAddrH rfl) rfl ?_ | refine RX.soft (RX.fieldAddr rfl) rfl ?_ | refine RX.soft (RX.load_at rfl (by assumption)) rfl ?_ | refine RX.soft (RX.lookup_at rfl rfl (by assumption)) rfl ?_ | (refine RX.isBin ?_; first | refine RX.soft (RX.lss rfl rfl) rfl ?_ | refine RX.soft (RX.eql rfl rfl) rfl ?_ | refine RX.soft (RX.neq rfl rfl) rfl ?_ | refine RX.soft (RX.geq rfl rfl) rfl ?_ | refine RX.soft (RX.gtr rfl rfl) rfl ?_ | refine RX.soft (RX.leq rfl rfl) rfl ?_ | refine RX.soft (RX.add_one rfl rfl (by omega)) rfl ?_ | refine RX.soft (RX.add_in rfl rfl (by omega)) rfl ?_ | refine RX.soft (RX.sub_in rfl rfl (by omega)) rfl ?_ | refine RX.soft (RX.eql_ptr_nil rfl rfl) rfl ?_ | refine RX.soft (RX.eql_nil_nil rfl rfl) rfl ?_ | refine RX.soft (RX.neq_ptr_nil rfl rfl) rfl ?_ | refine RX.soft (RX.neq_nil_nil rfl rfl) rfl ?_ | refine RX.soft (RX.eql_same rfl rfl (by with_reducible rfl)) rfl ?_ | refine RX.soft (RX.eql_tf rfl rfl (by with_reducible rfl) (by with_reducible rfl)) rfl ?_ | refine RX.soft (RX.eql_ft rfl rfl (by with_reducible rfl) (by with_reducible rfl)) rfl ?_ | refine RX.soft (RX.neq_same rfl rfl (by with_reducible rfl)) rfl ?_ | refine RX.soft (RX.neq_tf rfl rfl (by with_reducible rfl) (by with_reducible rfl)) rfl ?_ | refine RX.soft (RX.neq_ft rfl rfl (by with_reducible rfl) (by with_reducible rfl)) rfl ?_ | refine RX.soft (RX.eql_bool rfl rfl) rfl ?_ | refine RX.soft (RX.neq_bool rfl rfl) rfl ?_) | (refine RX.isCall ?_; first | refine RX.soft (RX.len_slice rfl) rfl ?_ | refine RX.soft (RX.max2 rfl rfl) rfl ?_ | refine RX.soft (RX.min2 rfl rfl) rfl ?_) | refine RX.soft (RX.indexAddr1 rfl rfl (by omega)) rfl ?_ | refine RX.soft (RX.indexAddrO rfl rfl (by omega)) rfl ?_ | refine RX.soft (RX.indexAddrS rfl rfl (by omega)) rfl ?_ | refine RX.soft (RX.pick_true rfl (by with_reducible rfl) rfl) rfl ?_ | refine RX.soft (RX.pick_false rfl (by with_reducible rfl) rfl) rfl ?_ | refine RX.soft (RX.not_t rfl (by with_reducible rfl)) rfl ?_ | refine RX.soft (RX.not_f rfl (by with_reducible rfl)) rfl ?_ | refine RX.soft (RX.not rfl) rfl ?_ | refine RX.soft (RX.extract rfl rfl) rfl ?_ | refine RX.soft (RX.build rfl (by intro w; simp [Instr.build, Instr.fill] <;> rfl)) rfl ?_ | refine RX.slice_one rfl rfl rfl rfl ?_)
        | refine RX.guard_true rfl rfl (by with_reducible rfl) (by first | omega | (with_reducible assumption)) ?_
        | refine RX.guard_false rfl rfl (by with_reducible rfl) (by first | omega | (with_reducible assumption)) ?_
        | refine RX.nil ?_
        | refine RX.then_normal ?_
        | refine RX.seq ?_
        | refine RX.region ?_
        | refine RX.cond_true rfl (by with_reducible rfl) ?_
        | refine RX.cond_false rfl (by with_reducible rfl) ?_
        | refine RX.skip ?_
        | refine RX.block ?_
        | refine RX.inBlock_normal ?_
        | refine RX.exit ?_
        | refine RX.then_exit ?_
        | refine RX.inBlock_exit ?_
        | refine RX.inBlock_other rfl ?_
        | refine RX.ret ?_
        | refine RX.then_ret ?_
        | refine RX.inBlock_ret ?_
        | refine RX.unwanted (by first | exact RX.barred_t rfl rfl rfl (by with_reducible rfl) | exact RX.barred_f rfl rfl rfl (by with_reducible rfl)) rfl ?_
        | refine RX.unwanted_none (by first | exact RX.barred_t rfl rfl rfl (by with_reducible rfl) | exact RX.barred_f rfl rfl rfl (by with_reducible rfl)) ?_
        | refine RX.cond rfl (fun h => absurd h (by first | omega | (with_reducible assumption))) (fun _ => ?_)
        | refine RX.cond rfl (fun _ => ?_) (fun h => absurd (by first | omega | (with_reducible assumption)) h))
      exact ret1 rfl rfl ⟨rfl, hf, Upd.refl _ _⟩
    · by_cases h2 : least lst b < 0
      · repeat (first
          | (refine RX.opw (by first | exact RX.plain rfl | exact RX.guarded rfl rfl rfl (by with_reducible rfl)) ?_; first | refine RX.soft (RX.move rfl) rfl ?_ | refine RX.soft (RX.assign rfl) rfl ?_ | refine RX.soft (RX.nilCheck_ptr rfl) rfl ?_ | refine RX.soft (RX.fieldAddr0 rfl) rfl ?_ | refine RX.soft (RX.fieldAddrH rfl) rfl ?_ | refine RX.soft (RX.fieldAddr rfl) rfl ?_ | refine RX.soft (RX.load_at rfl (by assumption)) rfl ?_ | refine RX.soft (RX.lookup_at rfl rfl (by assumption)) rfl ?_ | (refine RX.isBin ?_; first | refine RX.soft (RX.lss rfl rfl) rfl ?_ | refine RX.soft (RX.eql rfl rfl) rfl ?_ | refine RX.soft (RX.neq rfl rfl) rfl ?_ | refine RX.soft (RX.geq rfl rfl) rfl ?_ | refine RX.soft (RX.gtr rfl rfl) rfl ?_ | refine RX.soft (RX.leq rfl rfl) rfl ?_ | refine RX.soft (RX.add_one rfl rfl (by omega)) rfl ?_ | refine RX.soft (RX.add_in rfl rfl (by omega)) rfl ?_ | refine RX.soft (RX.sub_in rfl rfl (by omega)) rfl ?_ | refine RX.soft (RX.eql_ptr_nil rfl rfl) rfl ?_ | refine RX.soft (RX.eql_nil_nil rfl rfl) rfl ?_ | refine RX.soft (RX.neq_ptr_nil rfl rfl) rfl ?_ | refine RX.soft (RX.neq_nil_nil rfl rfl) rfl ?_ | refine RX.soft (RX.eql_same rfl rfl (by with_reducible rfl)) rfl ?_ | refine RX.soft (RX.eql_tf rfl rfl (by with_reducible rfl) (by with_reducible rfl)) rfl ?_ | refine RX.soft (RX.eql_ft rfl rfl (by with_reducible rfl) (by with_reducible rfl)) rfl ?_ | refine RX.soft (RX.neq_same rfl rfl (by with_reducible rfl)) rfl ?_ | refine RX.soft (RX.neq_tf rfl rfl (by with_reducible rfl) (by with_reducible rfl)) rfl ?_ | refine RX.soft (RX.neq_ft rfl rfl (by with_reducible rfl) (by with_reducible rfl)) rfl ?_ | refine RX.soft (RX.eql_bool rfl rfl) rfl ?_ | refine RX.soft (RX.neq_bool rfl rfl) rfl ?_) | (refine RX.isCall ?_; first | refine RX.soft (RX.len_slice rfl) rfl ?_ | refine RX.soft (RX.max2 rfl rfl) rfl ?_ | refine RX.soft (RX.min2 rfl rfl) rfl ?_) | refine RX.soft (RX.indexAddr1 rfl rfl (by omega)) rfl ?_ | refine RX.soft (RX.indexAddrO rfl rfl (by omega)) rfl ?_ | refine RX.soft (RX.indexAddrS rfl rfl (by omega)) rfl ?_ | refine RX.soft (RX.pick_true rfl (by with_reducible rfl) rfl) rfl ?_ | refine RX.soft (RX.pick_false rfl (by with_reducible rfl) rfl) rfl ?_ | refine RX.soft (RX.not_t rfl (by with_reducible rfl)) rfl ?_ | refine RX.soft (RX.not_f rfl (by with_reducible rfl)) rfl ?_ | refine RX.soft (RX.not rfl) rfl ?_ | refine RX.soft (RX.extract rfl rfl) rfl ?_ | refine RX.soft (RX.build rfl (by intro w; simp [Instr.build, Instr.fill] <;> rfl)) rfl ?_ | refine RX.slice_one rfl rfl rfl rfl ?_)
          | refine RX.guard_true rfl rfl (by with_reducible rfl) (by first | omega | (with_reducible assumption)) ?_
          | refine RX.guard_false rfl rfl (by with_reducible rfl) (by first | omega | (with_reducible assumption)) ?_
          | refine RX.nil ?_
          | refine RX.then_normal ?_
          | refine RX.seq ?_
          | refine RX.region ?_
          | refine RX.cond_true rfl (by with_reducible rfl) ?_
          | refine RX.cond_false rfl (by with_reducible rfl) ?_
          | refine RX.skip ?_
          | refine RX.block ?_
          | refine RX.inBlock_normal ?_
          | refine RX.exit ?_
          | refine RX.then_exit ?_
          | refine RX.inBlock_exit ?_
          | refine RX.inBlock_other rfl ?_
          | refine RX.ret ?_
          | refine RX.then_ret ?_
          | refine RX.inBlock_ret ?_
          | refine RX.unwanted (by first | exact RX.barred_t rfl rfl rfl (by with_reducible rfl) | exact RX.barred_f rfl rfl rfl (by with_reducible rfl)) rfl ?_
          | refine RX.unwanted_none (by first | exact RX.barred_t rfl rfl rfl (by with_reducible rfl) | exact RX.barred_f rfl rfl rfl (by with_reducible rfl)) ?_
          | refine RX.cond rfl (fun h => absurd h (by first | omega | (with_reducible assumption))) (fun _ => ?_)
          | refine RX.cond rfl (fun _ => ?_) (fun h => absurd (by first | omega | (with_reducible assumption)) h))
        exact ret1 rfl rfl ⟨rfl, hf, Upd.refl _ _⟩
      · have h3 : least lst a = least lst b := by omega
        repeat (first
          | (refine RX.opw (by first | exact RX.plain rfl | exact RX.guarded rfl rfl rfl (by with_reducible rfl)) ?_; first | refine RX.soft (RX.move rfl) rfl ?_ | refine RX.soft (RX.assign rfl) rfl ?_ | refine RX.soft (RX.nilCheck_ptr rfl) rfl ?_ | refine RX.soft (RX.fieldAddr0 rfl) rfl ?_ | refine RX.soft (RX.fieldAddrH rfl) rfl ?_ | refine RX.soft (RX.fieldAddr rfl) rfl ?_ | refine RX.soft (RX.load_at rfl (by assumption)) rfl ?_ | refine RX.soft (RX.lookup_at rfl rfl (by assumption)) rfl ?_ | (refine RX.isBin ?_; first | refine RX.soft (RX.lss rfl rfl) rfl ?_ | refine RX.soft (RX.eql rfl rfl) rfl ?_ | refine RX.soft (RX.neq rfl rfl) rfl ?_ | refine RX.soft (RX.geq rfl rfl) rfl ?_ | refine RX.soft (RX.gtr rfl rfl) rfl ?_ | refine RX.soft (RX.leq rfl rfl) rfl ?_ | refine RX.soft (RX.add_one rfl rfl (by omega)) rfl ?_ | refine RX.soft (RX.add_in rfl rfl (by omega)) rfl ?_ | refine RX.soft (RX.sub_in rfl rfl (by omega)) rfl ?_ | refine RX.soft (RX.eql_ptr_nil rfl rfl) rfl ?_ | refine RX.soft (RX.eql_nil_nil rfl rfl) rfl ?_ | refine RX.soft (RX.neq_ptr_nil rfl rfl) rfl ?_ | refine RX.soft (RX.neq_nil_nil rfl rfl) rfl ?_ | refine RX.soft (RX.eql_same rfl rfl (by with_reducible rfl)) rfl ?_ | refine RX.soft (RX.eql_tf rfl rfl (by with_reducible rfl) (by with_reducible rfl)) rfl ?_ | refine RX.soft (RX.eql_ft rfl rfl (by with_reducible rfl) (by with_reducible rfl)) rfl ?_ | refine RX.soft (RX.neq_same rfl rfl (by with_reducible rfl)) rfl ?_ | refine RX.soft (RX.neq_tf rfl rfl (by with_reducible rfl) (by with_reducible rfl)) rfl ?_ | refine RX.soft (RX.neq_ft rfl rfl (by with_reducible rfl) (by with_reducible rfl)) rfl ?_ | refine RX.soft (RX.eql_bool rfl rfl) rfl ?_ | refine RX.soft (RX.neq_bool rfl rfl) rfl ?_) | (refine RX.isCall ?_; first | refine RX.soft (RX.len_slice rfl) rfl ?_ | refine RX.soft (RX.max2 rfl rfl) rfl ?_ | refine RX.soft (RX.min2 rfl rfl) rfl ?_) | refine RX.soft (RX.indexAddr1 rfl rfl (by omega)) rfl ?_ | refine RX.soft (RX.indexAddrO rfl rfl (by omega)) rfl ?_ | refine RX.soft (RX.indexAddrS rfl rfl (by omega)) rfl ?_ | refine RX.soft (RX.pick_true rfl (by with_reducible rfl) rfl) rfl ?_ | refine RX.soft (RX.pick_false rfl (by with_reducible rfl) rfl) rfl ?_ | refine RX.soft (RX.not_t rfl (by with_reducible rfl)) rfl ?_ | refine RX.soft (RX.not_f rfl (by with_reducible rfl)) rfl ?_ | refine RX.soft (RX.not rfl) rfl ?_ | refine RX.soft (RX.extract rfl rfl) rfl ?_ | refine RX.soft (RX.build rfl (by intro w; simp [Instr.build, Instr.fill] <;> rfl)) rfl ?_ | refine RX.slice_one rfl rfl rfl rfl ?_)
          | refine RX.guard_true rfl rfl (by with_reducible rfl) (by first | omega | (with_reducible assumption)) ?_
          | refine RX.guard_false rfl rfl (by with_reducible rfl) (by first | omega | (with_reducible assumption)) ?_
          | refine RX.nil ?_
          | refine RX.then_normal ?_
          | refine RX.seq ?_
          | refine RX.region ?_
          | refine RX.cond_true rfl (by with_reducible rfl) ?_
          | refine RX.cond_false rfl (by with_reducible rfl) ?_
          | refine RX.skip ?_
          | refine RX.block ?_
          | refine RX.inBlock_normal ?_
          | refine RX.exit ?_
          | refine RX.then_exit ?_
          | refine RX.inBlock_exit ?_
          | refine RX.inBlock_other rfl ?_
          | refine RX.ret ?_
          | refine RX.then_ret ?_
          | refine RX.inBlock_ret ?_
          | refine RX.unwanted (by first | exact RX.barred_t rfl rfl rfl (by with_reducible rfl) | exact RX.barred_f rfl rfl rfl (by with_reducible rfl)) rfl ?_
          | refine RX.unwanted_none (by first | exact RX.barred_t rfl rfl rfl (by with_reducible rfl) | exact RX.barred_f rfl rfl rfl (by with_reducible rfl)) ?_
          | refine RX.cond rfl (fun h => absurd h (by first | omega | (with_reducible assumption))) (fun _ => ?_)
          | refine RX.cond rfl (fun _ => ?_) (fun h => absurd (by first | omega | (with_reducible assumption)) h))
        exact ret1 rfl rfl ⟨rfl, hf, Upd.refl _ _⟩
  · have hj : join lst a b = (true, joined lst (least lst a).toNat (least lst b).toNat) := by unfold join; rw [if_neg hno]
    rw [hj]
    have h1 : ¬ least lst a < 0 := fun h => hno (.inl h)
    have h2 : ¬ least lst b < 0 := fun h => hno (.inr (.inl h))
    have h3 : ¬ least lst a = least lst b := fun h => hno (.inr (.inr h))
    obtain ⟨x0, hx, hxl, hxe⟩ := least_of (show 0 ≤ least lst a by omega)
    obtain ⟨y0, hy, hyl, hye⟩ := least_of (show 0 ≤ least lst b by omega)
    rw [hxe] at h1 h3
    rw [hye] at h2 h3
    rw [hxe, hye]
    simp only [Int.toNat_natCast]
    generalize hx' : lst.getD x0 0 = x at *
    generalize hy' : lst.getD y0 0 = y at *
    obtain ⟨g, cap, rfl, _, harr⟩ := arr_of_owns hf.body (by omega)
    have hgne : g ≠ pb := fun e => hf.ne (by rw [e]; rfl)
    repeat (first
      | (refine RX.opw (by first | exact RX.plain rfl | exact RX.guarded rfl rfl rfl (by with_reducible rfl)) ?_; first | refine RX.soft (RX.move rfl) rfl ?_ | refine RX.soft (RX.assign rfl) rfl ?_ | refine RX.soft (RX.nilCheck_ptr rfl) rfl ?_ | refine RX.soft (RX.fieldAddr0 rfl) rfl ?_ | refine RX.soft (RX.fieldAddrH rfl) rfl ?_ | refine RX.soft (RX.fieldAddr rfl) rfl ?_ | refine RX.soft (RX.load_at rfl (by assumption)) rfl ?_ | refine RX.soft (RX.lookup_at rfl rfl (by assumption)) rfl ?_ | (refine RX.isBin ?_; first | refine RX.soft (RX.lss rfl rfl) rfl ?_ | refine RX.soft (RX.eql rfl rfl) rfl ?_ | refine RX.soft (RX.neq rfl rfl) rfl ?_ | refine RX.soft (RX.geq rfl rfl) rfl ?_ | refine RX.soft (RX.gtr rfl rfl) rfl ?_ | refine RX.soft (RX.leq rfl rfl) rfl ?_ | refine RX.soft (RX.add_one rfl rfl (by omega)) rfl ?_ | refine RX.soft (RX.add_in rfl rfl (by omega)) rfl ?_ | refine RX.soft (RX.sub_in rfl rfl (by omega)) rfl ?_ | refine RX.soft (RX.eql_ptr_nil rfl rfl) rfl ?_ | refine RX.soft (RX.eql_nil_nil rfl rfl) rfl ?_ | refine RX.soft (RX.neq_ptr_nil rfl rfl) rfl ?_ | refine RX.soft (RX.neq_nil_nil rfl rfl) rfl ?_ | refine RX.soft (RX.eql_same rfl rfl (by with_reducible rfl)) rfl ?_ | refine RX.soft (RX.eql_tf rfl rfl (by with_reducible rfl) (by with_reducible rfl)) rfl ?_ | refine RX.soft (RX.eql_ft rfl rfl (by with_reducible rfl) (by with_reducible rfl)) rfl ?_ | refine RX.soft (RX.neq_same rfl rfl (by with_reducible rfl)) rfl ?_ | refine RX.soft (RX.neq_tf rfl rfl (by with_reducible rfl) (by with_reducible rfl)) rfl ?_ | refine RX.soft (RX.neq_ft rfl rfl (by with_reducible rfl) (by with_reducible rfl)) rfl ?_ | refine RX.soft (RX.eql_bool rfl rfl) rfl ?_ | refine RX.soft (RX.neq_bool rfl rfl) rfl ?_) | (refine RX.isCall ?_; first | refine RX.soft (RX.len_slice rfl) rfl ?_ | refine RX.soft (RX.max2 rfl rfl) rfl ?_ | refine RX.soft (RX.min2 rfl rfl) rfl ?_) | refine RX.soft (RX.indexAddr1 rfl rfl (by omega)) rfl ?_ | refine RX.soft (RX.indexAddrO rfl rfl (by omega)) rfl ?_ | refine RX.soft (RX.indexAddrS rfl rfl (by omega)) rfl ?_ | refine RX.soft (RX.pick_true rfl (by with_reducible rfl) rfl) rfl ?_ | refine RX.soft (RX.pick_false rfl (by with_reducible rfl) rfl) rfl ?_ | refine RX.soft (RX.not_t rfl (by with_reducible rfl)) rfl ?_ | refine RX.soft (RX.not_f rfl (by with_reducible rfl)) rfl ?_ | refine RX.soft (RX.not rfl) rfl ?_ | refine RX.soft (RX.extract rfl rfl) rfl ?_ | refine RX.soft (RX.build rfl (by intro w; simp [Instr.build, Instr.fill] <;> rfl)) rfl ?_ | refine RX.slice_one rfl rfl rfl rfl ?_)
      | refine RX.guard_true rfl rfl (by with_reducible rfl) (by first | omega | (with_reducible assumption)) ?_
      | refine RX.guard_false rfl rfl (by with_reducible rfl) (by first | omega | (with_reducible assumption)) ?_
      | refine RX.nil ?_
      | refine RX.then_normal ?_
      | refine RX.seq ?_
      | refine RX.region ?_
      | refine RX.cond_true rfl (by with_reducible rfl) ?_
      | refine RX.cond_false rfl (by with_reducible rfl) ?_
      | refine RX.skip ?_
      | refine RX.block ?_
      | refine RX.inBlock_normal ?_
      | refine RX.exit ?_
      | refine RX.then_exit ?_
      | refine RX.inBlock_exit ?_
      | refine RX.inBlock_other rfl ?_
      | refine RX.ret ?_
      | refine RX.then_ret ?_
      | refine RX.inBlock_ret ?_
      | refine RX.unwanted (by first | exact RX.barred_t rfl rfl rfl (by with_reducible rfl) | exact RX.barred_f rfl rfl rfl (by with_reducible rfl)) rfl ?_
      | refine RX.unwanted_none (by first | exact RX.barred_t rfl rfl rfl (by with_reducible rfl) | exact RX.barred_f rfl rfl rfl (by with_reducible rfl)) ?_
      | refine RX.cond rfl (fun h => absurd h (by first | omega | (with_reducible assumption))) (fun _ => ?_)
      | refine RX.cond rfl (fun _ => ?_) (fun h => absurd (by first | omega | (with_reducible assumption)) h))
    refine RX.loop (σ := Nat) (fun k => [(0, .pointer (some ⟨pb, 0, none⟩)), (7, .int .i64 (x : Int)), (8, .int .i64 (y : Int)), (9, .int .i64 (k : Int))])
      (fun k wr => k ≤ lst.length ∧ Row wr pb 44 [.slice (some ⟨g, 0, none⟩) lst.length cap] ∧ Arr wr g 3 lst.length cap (ints (mixed lst.length (fun j => ((if lst.getD j 0 = x ∨ lst.getD j 0 = y then min x y else lst.getD j 0 : Nat) : Int)) (fun j => (lst.getD j 0 : Nat)) k)) ∧ Upd (fun k => k = g) w wr)
      (fun k => lst.length - k) 0 ⟨rfl, rfl, rfl, rfl, trivial⟩ ⟨by omega, hf.head, ?_, Upd.refl _ _⟩ ?_
    · have e : RX.ints (lst.map fun v : Nat => (v : Int)) = nats lst := by simp [nats, RX.ints]
      rw [mixed_zero, range_getD (fun v => (v : Int)), e]; exact harr
    · rintro k wr ⟨hk, hr, ha, hu⟩
      clear hp
      have hp := hr.cell_some (i := 0) rfl
      by_cases hlt : k < lst.length
      · have hck := ha.cell (i := k) (by rw [ints_get, mixed_get _ _ _ _ _ hlt, if_neg (by omega)]; rfl)
        have hstep := mixed_set lst.length (fun j => ((if lst.getD j 0 = x ∨ lst.getD j 0 = y then min x y else lst.getD j 0 : Nat) : Int)) (fun j => (lst.getD j 0 : Nat)) k
        by_cases hv : lst.getD k 0 = x ∨ lst.getD k 0 = y
        · have hmin : min (x : Int) (y : Int) = ((min x y : Nat) : Int) := by omega
          rw [if_pos hv] at hstep
          by_cases hvx : lst.getD k 0 = x
          · have hd : ((lst.getD k 0 : Nat) : Int) = (x : Int) := by omega
            repeat (first
              | (refine RX.opw (by first | exact RX.plain rfl | exact RX.guarded rfl rfl rfl (by with_reducible rfl)) ?_; first | refine RX.soft (RX.move rfl) rfl ?_ | refine RX.soft (RX.assign rfl) rfl ?_ | refine RX.soft (RX.nilCheck_ptr rfl) rfl ?_ | refine RX.soft (RX.fieldAddr0 rfl) rfl ?_ | refine RX.soft (RX.fieldAddrH rfl) rfl ?_ | refine RX.soft (RX.fieldAddr rfl) rfl ?_ | refine RX.soft (RX.load_at rfl (by assumption)) rfl ?_ | refine RX.soft (RX.lookup_at rfl rfl (by assumption)) rfl ?_ | (refine RX.isBin ?_; first | refine RX.soft (RX.lss rfl rfl) rfl ?_ | refine RX.soft (RX.eql rfl rfl) rfl ?_ | refine RX.soft (RX.neq rfl rfl) rfl ?_ | refine RX.soft (RX.geq rfl rfl) rfl ?_ | refine RX.soft (RX.gtr rfl rfl) rfl ?_ | refine RX.soft (RX.leq rfl rfl) rfl ?_ | refine RX.soft (RX.add_one rfl rfl (by omega)) rfl ?_ | refine RX.soft (RX.add_in rfl rfl (by omega)) rfl ?_ | refine RX.soft (RX.sub_in rfl rfl (by omega)) rfl ?_ | refine RX.soft (RX.eql_ptr_nil rfl rfl) rfl ?_ | refine RX.soft (RX.eql_nil_nil rfl rfl) rfl ?_ | refine RX.soft (RX.neq_ptr_nil rfl rfl) rfl ?_ | refine RX.soft (RX.neq_nil_nil rfl rfl) rfl ?_ | refine RX.soft (RX.eql_same rfl rfl (by with_reducible rfl)) rfl ?_ | refine RX.soft (RX.eql_tf rfl rfl (by with_reducible rfl) (by with_reducible rfl)) rfl ?_ | refine RX.soft (RX.eql_ft rfl rfl (by with_reducible rfl) (by with_reducible rfl)) rfl ?_ | refine RX.soft (RX.neq_same rfl rfl (by with_reducible rfl)) rfl ?_ | refine RX.soft (RX.neq_tf rfl rfl (by with_reducible rfl) (by with_reducible rfl)) rfl ?_ | refine RX.soft (RX.neq_ft rfl rfl (by with_reducible rfl) (by with_reducible rfl)) rfl ?_ | refine RX.soft (RX.eql_bool rfl rfl) rfl ?_ | refine RX.soft (RX.neq_bool rfl rfl) rfl ?_) | (refine RX.isCall ?_; first | refine RX.soft (RX.len_slice rfl) rfl ?_ | refine RX.soft (RX.max2 rfl rfl) rfl ?_ | refine RX.soft (RX.min2 rfl rfl) rfl ?_) | refine RX.soft (RX.indexAddr1 rfl rfl (by omega)) rfl ?_ | refine RX.soft (RX.indexAddrO rfl rfl (by omega)) rfl ?_ | refine RX.soft (RX.indexAddrS rfl rfl (by omega)) rfl ?_ | refine RX.soft (RX.pick_true rfl (by with_reducible rfl) rfl) rfl ?_ | refine RX.soft (RX.pick_false rfl (by with_reducible rfl) rfl) rfl ?_ | refine RX.soft (RX.not_t rfl (by with_reducible rfl)) rfl ?_ | refine RX.soft (RX.not_f rfl (by with_reducible rfl)) rfl ?_ | refine RX.soft (RX.not rfl) rfl ?_ | refine RX.soft (RX.extract rfl rfl) rfl ?_ | refine RX.soft (RX.build rfl (by intro w; simp [Instr.build, Instr.fill] <;> rfl)) rfl ?_ | refine RX.slice_one rfl rfl rfl rfl ?_)
              | refine RX.guard_true rfl rfl (by with_reducible rfl) (by first | omega | (with_reducible assumption)) ?_
              | refine RX.guard_false rfl rfl (by with_reducible rfl) (by first | omega | (with_reducible assumption)) ?_
              | refine RX.nil ?_
              | refine RX.then_normal ?_
              | refine RX.seq ?_
              | refine RX.region ?_
              | refine RX.cond_true rfl (by with_reducible rfl) ?_
              | refine RX.cond_false rfl (by with_reducible rfl) ?_
              | refine RX.skip ?_
              | refine RX.block ?_
              | refine RX.inBlock_normal ?_
              | refine RX.exit ?_
              | refine RX.then_exit ?_
              | refine RX.inBlock_exit ?_
              | refine RX.inBlock_other rfl ?_
              | refine RX.ret ?_
              | refine RX.then_ret ?_
              | refine RX.inBlock_ret ?_
              | refine RX.unwanted (by first | exact RX.barred_t rfl rfl rfl (by with_reducible rfl) | exact RX.barred_f rfl rfl rfl (by with_reducible rfl)) rfl ?_
              | refine RX.unwanted_none (by first | exact RX.barred_t rfl rfl rfl (by with_reducible rfl) | exact RX.barred_f rfl rfl rfl (by with_reducible rfl)) ?_
              | refine RX.cond rfl (fun h => absurd h (by first | omega | (with_reducible assumption))) (fun _ => ?_)
              | refine RX.cond rfl (fun _ => ?_) (fun h => absurd (by first | omega | (with_reducible assumption)) h))
            refine RX.op rfl ?_
            refine store_arr rfl rfl ha rfl hlt (fun w3 ha3 hu3 => ?_)
            rw [hmin, ints_set, hstep] at ha3
            repeat (first
              | (refine RX.opw (by first | exact RX.plain rfl | exact RX.guarded rfl rfl rfl (by with_reducible rfl)) ?_; first | refine RX.soft (RX.move rfl) rfl ?_ | refine RX.soft (RX.assign rfl) rfl ?_ | refine RX.soft (RX.nilCheck_ptr rfl) rfl ?_ | refine RX.soft (RX.fieldAddr0 rfl) rfl ?_ | refine RX.soft (RX.fieldAddrH rfl) rfl ?_ | refine RX.soft (RX.fieldAddr rfl) rfl ?_ | refine RX.soft (RX.load_at rfl (by assumption)) rfl ?_ | refine RX.soft (RX.lookup_at rfl rfl (by assumption)) rfl ?_ | (refine RX.isBin ?_; first | refine RX.soft (RX.lss rfl rfl) rfl ?_ | refine RX.soft (RX.eql rfl rfl) rfl ?_ | refine RX.soft (RX.neq rfl rfl) rfl ?_ | refine RX.soft (RX.geq rfl rfl) rfl ?_ | refine RX.soft (RX.gtr rfl rfl) rfl ?_ | refine RX.soft (RX.leq rfl rfl) rfl ?_ | refine RX.soft (RX.add_one rfl rfl (by omega)) rfl ?_ | refine RX.soft (RX.add_in rfl rfl (by omega)) rfl ?_ | refine RX.soft (RX.sub_in rfl rfl (by omega)) rfl ?_ | refine RX.soft (RX.eql_ptr_nil rfl rfl) rfl ?_ | refine RX.soft (RX.eql_nil_nil rfl rfl) rfl ?_ | refine RX.soft (RX.neq_ptr_nil rfl rfl) rfl ?_ | refine RX.soft (RX.neq_nil_nil rfl rfl) rfl ?_ | refine RX.soft (RX.eql_same rfl rfl (by with_reducible rfl)) rfl ?_ | refine RX.soft (RX.eql_tf rfl rfl (by with_reducible rfl) (by with_reducible rfl)) rfl ?_ | refine RX.soft (RX.eql_ft rfl rfl (by with_reducible rfl) (by with_reducible rfl)) rfl ?_ | refine RX.soft (RX.neq_same rfl rfl (by with_reducible rfl)) rfl ?_ | refine RX.soft (RX.neq_tf rfl rfl (by with_reducible rfl) (by with_reducible rfl)) rfl ?_ | refine RX.soft (RX.neq_ft rfl rfl (by with_reducible rfl) (by with_reducible rfl)) rfl ?_ | refine RX.soft (RX.eql_bool rfl rfl) rfl ?_ | refine RX.soft (RX.neq_bool rfl rfl) rfl ?_) | (refine RX.isCall ?_; first | refine RX.soft (RX.len_slice rfl) rfl ?_ | refine RX.soft (RX.max2 rfl rfl) rfl ?_ | refine RX.soft (RX.min2 rfl rfl) rfl ?_) | refine RX.soft (RX.indexAddr1 rfl rfl (by omega)) rfl ?_ | refine RX.soft (RX.indexAddrO rfl rfl (by omega)) rfl ?_ | refine RX.soft (RX.indexAddrS rfl rfl (by omega)) rfl ?_ | refine RX.soft (RX.pick_true rfl (by with_reducible rfl) rfl) rfl ?_ | refine RX.soft (RX.pick_false rfl (by with_reducible rfl) rfl) rfl ?_ | refine RX.soft (RX.not_t rfl (by with_reducible rfl)) rfl ?_ | refine RX.soft (RX.not_f rfl (by with_reducible rfl)) rfl ?_ | refine RX.soft (RX.not rfl) rfl ?_ | refine RX.soft (RX.extract rfl rfl) rfl ?_ | refine RX.soft (RX.build rfl (by intro w; simp [Instr.build, Instr.fill] <;> rfl)) rfl ?_ | refine RX.slice_one rfl rfl rfl rfl ?_)
              | refine RX.guard_true rfl rfl (by with_reducible rfl) (by first | omega | (with_reducible assumption)) ?_
              | refine RX.guard_false rfl rfl (by with_reducible rfl) (by first | omega | (with_reducible assumption)) ?_
              | refine RX.nil ?_
              | refine RX.then_normal ?_
              | refine RX.seq ?_
              | refine RX.region ?_
              | refine RX.cond_true rfl (by with_reducible rfl) ?_
              | refine RX.cond_false rfl (by with_reducible rfl) ?_
              | refine RX.skip ?_
              | refine RX.block ?_
              | refine RX.inBlock_normal ?_
              | refine RX.exit ?_
              | refine RX.then_exit ?_
              | refine RX.inBlock_exit ?_
              | refine RX.inBlock_other rfl ?_
              | refine RX.ret ?_
              | refine RX.then_ret ?_
              | refine RX.inBlock_ret ?_
              | refine RX.unwanted (by first | exact RX.barred_t rfl rfl rfl (by with_reducible rfl) | exact RX.barred_f rfl rfl rfl (by with_reducible rfl)) rfl ?_
              | refine RX.unwanted_none (by first | exact RX.barred_t rfl rfl rfl (by with_reducible rfl) | exact RX.barred_f rfl rfl rfl (by with_reducible rfl)) ?_
              | refine RX.cond rfl (fun h => absurd h (by first | omega | (with_reducible assumption))) (fun _ => ?_)
              | refine RX.cond rfl (fun _ => ?_) (fun h => absurd (by first | omega | (with_reducible assumption)) h))
            exact RX.again (k + 1) ⟨rfl, rfl, rfl, rfl, trivial⟩ ⟨by omega, hr.keep hu3 (by omega), ha3, hu.trans hu3 (fun _ _ h => h) (fun _ _ h => h)⟩ (by omega)
          · have hd : ¬ ((lst.getD k 0 : Nat) : Int) = (x : Int) := by omega
            have hd2 : ((lst.getD k 0 : Nat) : Int) = (y : Int) := by omega
            repeat (first
              | (refine RX.opw (by first | exact RX.plain rfl | exact RX.guarded rfl rfl rfl (by with_reducible rfl)) ?_; first | refine RX.soft (RX.move rfl) rfl ?_ | refine RX.soft (RX.assign rfl) rfl ?_ | refine RX.soft (RX.nilCheck_ptr rfl) rfl ?_ | refine RX.soft (RX.fieldAddr0 rfl) rfl ?_ | refine RX.soft (RX.fieldAddrH rfl) rfl ?_ | refine RX.soft (RX.fieldAddr rfl) rfl ?_ | refine RX.soft (RX.load_at rfl (by assumption)) rfl ?_ | refine RX.soft (RX.lookup_at rfl rfl (by assumption)) rfl ?_ | (refine RX.isBin ?_; first | refine RX.soft (RX.lss rfl rfl) rfl ?_ | refine RX.soft (RX.eql rfl rfl) rfl ?_ | refine RX.soft (RX.neq rfl rfl) rfl ?_ | refine RX.soft (RX.geq rfl rfl) rfl ?_ | refine RX.soft (RX.gtr rfl rfl) rfl ?_ | refine RX.soft (RX.leq rfl rfl) rfl ?_ | refine RX.soft (RX.add_one rfl rfl (by omega)) rfl ?_ | refine RX.soft (RX.add_in rfl rfl (by omega)) rfl ?_ | refine RX.soft (RX.sub_in rfl rfl (by omega)) rfl ?_ | refine RX.soft (RX.eql_ptr_nil rfl rfl) rfl ?_ | refine RX.soft (RX.eql_nil_nil rfl rfl) rfl ?_ | refine RX.soft (RX.neq_ptr_nil rfl rfl) rfl ?_ | refine RX.soft (RX.neq_nil_nil rfl rfl) rfl ?_ | refine RX.soft (RX.eql_same rfl rfl (by with_reducible rfl)) rfl ?_ | refine RX.soft (RX.eql_tf rfl rfl (by with_reducible rfl) (by with_reducible rfl)) rfl ?_ | refine RX.soft (RX.eql_ft rfl rfl (by with_reducible rfl) (by with_reducible rfl)) rfl ?_ | refine RX.soft (RX.neq_same rfl rfl (by with_reducible rfl)) rfl ?_ | refine RX.soft (RX.neq_tf rfl rfl (by with_reducible rfl) (by with_reducible rfl)) rfl ?_ | refine RX.soft (RX.neq_ft rfl rfl (by with_reducible rfl) (by with_reducible rfl)) rfl ?_ | refine RX.soft (RX.eql_bool rfl rfl) rfl ?_ | refine RX.soft (RX.neq_bool rfl rfl) rfl ?_) | (refine RX.isCall ?_; first | refine RX.soft (RX.len_slice rfl) rfl ?_ | refine RX.soft (RX.max2 rfl rfl) rfl ?_ | refine RX.soft (RX.min2 rfl rfl) rfl ?_) | refine RX.soft (RX.indexAddr1 rfl rfl (by omega)) rfl ?_ | refine RX.soft (RX.indexAddrO rfl rfl (by omega)) rfl ?_ | refine RX.soft (RX.indexAddrS rfl rfl (by omega)) rfl ?_ | refine RX.soft (RX.pick_true rfl (by with_reducible rfl) rfl) rfl ?_ | refine RX.soft (RX.pick_false rfl (by with_reducible rfl) rfl) rfl ?_ | refine RX.soft (RX.not_t rfl (by with_reducible rfl)) rfl ?_ | refine RX.soft (RX.not_f rfl (by with_reducible rfl)) rfl ?_ | refine RX.soft (RX.not rfl) rfl ?_ | refine RX.soft (RX.extract rfl rfl) rfl ?_ | refine RX.soft (RX.build rfl (by intro w; simp [Instr.build, Instr.fill] <;> rfl)) rfl ?_ | refine RX.slice_one rfl rfl rfl rfl ?_)
              | refine RX.guard_true rfl rfl (by with_reducible rfl) (by first | omega | (with_reducible assumption)) ?_
              | refine RX.guard_false rfl rfl (by with_reducible rfl) (by first | omega | (with_reducible assumption)) ?_
              | refine RX.nil ?_
              | refine RX.then_normal ?_
              | refine RX.seq ?_
              | refine RX.region ?_
              | refine RX.cond_true rfl (by with_reducible rfl) ?_
              | refine RX.cond_false rfl (by with_reducible rfl) ?_
              | refine RX.skip ?_
              | refine RX.block ?_
              | refine RX.inBlock_normal ?_
              | refine RX.exit ?_
              | refine RX.then_exit ?_
              | refine RX.inBlock_exit ?_
              | refine RX.inBlock_other rfl ?_
              | refine RX.ret ?_
              | refine RX.then_ret ?_
              | refine RX.inBlock_ret ?_
              | refine RX.unwanted (by first | exact RX.barred_t rfl rfl rfl (by with_reducible rfl) | exact RX.barred_f rfl rfl rfl (by with_reducible rfl)) rfl ?_
              | refine RX.unwanted_none (by first | exact RX.barred_t rfl rfl rfl (by with_reducible rfl) | exact RX.barred_f rfl rfl rfl (by with_reducible rfl)) ?_
              | refine RX.cond rfl (fun h => absurd h (by first | omega | (with_reducible assumption))) (fun _ => ?_)
              | refine RX.cond rfl (fun _ => ?_) (fun h => absurd (by first | omega | (with_reducible assumption)) h))
            refine RX.op rfl ?_
            refine store_arr rfl rfl ha rfl hlt (fun w3 ha3 hu3 => ?_)
            rw [hmin, ints_set, hstep] at ha3
            repeat (first
              | (refine RX.opw (by first | exact RX.plain rfl | exact RX.guarded rfl rfl rfl (by with_reducible rfl)) ?_; first | refine RX.soft (RX.move rfl) rfl ?_ | refine RX.soft (RX.assign rfl) rfl ?_ | refine RX.soft (RX.nilCheck_ptr rfl) rfl ?_ | refine RX.soft (RX.fieldAddr0 rfl) rfl ?_ | refine RX.soft (RX.fieldAddrH rfl) rfl ?_ | refine RX.soft (RX.fieldAddr rfl) rfl ?_ | refine RX.soft (RX.load_at rfl (by assumption)) rfl ?_ | refine RX.soft (RX.lookup_at rfl rfl (by assumption)) rfl ?_ | (refine RX.isBin ?_; first | refine RX.soft (RX.lss rfl rfl) rfl ?_ | refine RX.soft (RX.eql rfl rfl) rfl ?_ | refine RX.soft (RX.neq rfl rfl) rfl ?_ | refine RX.soft (RX.geq rfl rfl) rfl ?_ | refine RX.soft (RX.gtr rfl rfl) rfl ?_ | refine RX.soft (RX.leq rfl rfl) rfl ?_ | refine RX.soft (RX.add_one rfl rfl (by omega)) rfl ?_ | refine RX.soft (RX.add_in rfl rfl (by omega)) rfl ?_ | refine RX.soft (RX.sub_in rfl rfl (by omega)) rfl ?_ | refine RX.soft (RX.eql_ptr_nil rfl rfl) rfl ?_ | refine RX.soft (RX.eql_nil_nil rfl rfl) rfl ?_ | refine RX.soft (RX.neq_ptr_nil rfl rfl) rfl ?_ | refine RX.soft (RX.neq_nil_nil rfl rfl) rfl ?_ | refine RX.soft (RX.eql_same rfl rfl (by with_reducible rfl)) rfl ?_ | refine RX.soft (RX.eql_tf rfl rfl (by with_reducible rfl) (by with_reducible rfl)) rfl ?_ | refine RX.soft (RX.eql_ft rfl rfl (by with_reducible rfl) (by with_reducible rfl)) rfl ?_ | refine RX.soft (RX.neq_same rfl rfl (by with_reducible rfl)) rfl ?_ | refine RX.soft (RX.neq_tf rfl rfl (by with_reducible rfl) (by with_reducible rfl)) rfl ?_ | refine RX.soft (RX.neq_ft rfl rfl (by with_reducible rfl) (by with_reducible rfl)) rfl ?_ | refine RX.soft (RX.eql_bool rfl rfl) rfl ?_ | refine RX.soft (RX.neq_bool rfl rfl) rfl ?_) | (refine RX.isCall ?_; first | refine RX.soft (RX.len_slice rfl) rfl ?_ | refine RX.soft (RX.max2 rfl rfl) rfl ?_ | refine RX.soft (RX.min2 rfl rfl) rfl ?_) | refine RX.soft (RX.indexAddr1 rfl rfl (by omega)) rfl ?_ | refine RX.soft (RX.indexAddrO rfl rfl (by omega)) rfl ?_ | refine RX.soft (RX.indexAddrS rfl rfl (by omega)) rfl ?_ | refine RX.soft (RX.pick_true rfl (by with_reducible rfl) rfl) rfl ?_ | refine RX.soft (RX.pick_false rfl (by with_reducible rfl) rfl) rfl ?_ | refine RX.soft (RX.not_t rfl (by with_reducible rfl)) rfl ?_ | refine RX.soft (RX.not_f rfl (by with_reducible rfl)) rfl ?_ | refine RX.soft (RX.not rfl) rfl ?_ | refine RX.soft (RX.extract rfl rfl) rfl ?_ | refine RX.soft (RX.build rfl (by intro w; simp [Instr.build, Instr.fill] <;> rfl)) rfl ?_ | refine RX.slice_one rfl rfl rfl rfl ?_)
              | refine RX.guard_true rfl rfl (by with_reducible rfl) (by first | omega | (with_reducible assumption)) ?_
              | refine RX.guard_false rfl rfl (by with_reducible rfl) (by first | omega | (with_reducible assumption)) ?_
              | refine RX.nil ?_
              | refine RX.then_normal ?_
              | refine RX.seq ?_
              | refine RX.region ?_
              | refine RX.cond_true rfl (by with_reducible rfl) ?_
              | refine RX.cond_false rfl (by with_reducible rfl) ?_
              | refine RX.skip ?_
              | refine RX.block ?_
              | refine RX.inBlock_normal ?_
              | refine RX.exit ?_
              | refine RX.then_exit ?_
              | refine RX.inBlock_exit ?_
              | refine RX.inBlock_other rfl ?_
              | refine RX.ret ?_
              | refine RX.then_ret ?_
              | refine RX.inBlock_ret ?_
              | refine RX.unwanted (by first | exact RX.barred_t rfl rfl rfl (by with_reducible rfl) | exact RX.barred_f rfl rfl rfl (by with_reducible rfl)) rfl ?_
              | refine RX.unwanted_none (by first | exact RX.barred_t rfl rfl rfl (by with_reducible rfl) | exact RX.barred_f rfl rfl rfl (by with_reducible rfl)) ?_
              | refine RX.cond rfl (fun h => absurd h (by first | omega | (with_reducible assumption))) (fun _ => ?_)
              | refine RX.cond rfl (fun _ => ?_) (fun h => absurd (by first | omega | (with_reducible assumption)) h))
            exact RX.again (k + 1) ⟨rfl, rfl, rfl, rfl, trivial⟩ ⟨by omega, hr.keep hu3 (by omega), ha3, hu.trans hu3 (fun _ _ h => h) (fun _ _ h => h)⟩ (by omega)
        · have hd : ¬ ((lst.getD k 0 : Nat) : Int) = (x : Int) := by omega
          have hd2 : ¬ ((lst.getD k 0 : Nat) : Int) = (y : Int) := by omega
          rw [if_neg hv, list_set_same _ _ _ (by rw [mixed_get _ _ _ _ _ hlt, if_neg (by omega)])] at hstep
          repeat (first
            | (refine RX.opw (by first | exact RX.plain rfl | exact RX.guarded rfl rfl rfl (by with_reducible rfl)) ?_; first | refine RX.soft (RX.move rfl) rfl ?_ | refine RX.soft (RX.assign rfl) rfl ?_ | refine RX.soft (RX.nilCheck_ptr rfl) rfl ?_ | refine RX.soft (RX.fieldAddr0 rfl) rfl ?_ | refine RX.soft (RX.fieldAddrH rfl) rfl ?_ | refine RX.soft (RX.fieldAddr rfl) rfl ?_ | refine RX.soft (RX.load_at rfl (by assumption)) rfl ?_ | refine RX.soft (RX.lookup_at rfl rfl (by assumption)) rfl ?_ | (refine RX.isBin ?_; first | refine RX.soft (RX.lss rfl rfl) rfl ?_ | refine RX.soft (RX.eql rfl rfl) rfl ?_ | refine RX.soft (RX.neq rfl rfl) rfl ?_ | refine RX.soft (RX.geq rfl rfl) rfl ?_ | refine RX.soft (RX.gtr rfl rfl) rfl ?_ | refine RX.soft (RX.leq rfl rfl) rfl ?_ | refine RX.soft (RX.add_one rfl rfl (by omega)) rfl ?_ | refine RX.soft (RX.add_in rfl rfl (by omega)) rfl ?_ | refine RX.soft (RX.sub_in rfl rfl (by omega)) rfl ?_ | refine RX.soft (RX.eql_ptr_nil rfl rfl) rfl ?_ | refine RX.soft (RX.eql_nil_nil rfl rfl) rfl ?_ | refine RX.soft (RX.neq_ptr_nil rfl rfl) rfl ?_ | refine RX.soft (RX.neq_nil_nil rfl rfl) rfl ?_ | refine RX.soft (RX.eql_same rfl rfl (by with_reducible rfl)) rfl ?_ | refine RX.soft (RX.eql_tf rfl rfl (by with_reducible rfl) (by with_reducible rfl)) rfl ?_ | refine RX.soft (RX.eql_ft rfl rfl (by with_reducible rfl) (by with_reducible rfl)) rfl ?_ | refine RX.soft (RX.neq_same rfl rfl (by with_reducible rfl)) rfl ?_ | refine RX.soft (RX.neq_tf rfl rfl (by with_reducible rfl) (by with_reducible rfl)) rfl ?_ | refine RX.soft (RX.neq_ft rfl rfl (by with_reducible rfl) (by with_reducible rfl)) rfl ?_ | refine RX.soft (RX.eql_bool rfl rfl) rfl ?_ | refine RX.soft (RX.neq_bool rfl rfl) rfl ?_) | (refine RX.isCall ?_; first | refine RX.soft (RX.len_slice rfl) rfl ?_ | refine RX.soft (RX.max2 rfl rfl) rfl ?_ | refine RX.soft (RX.min2 rfl rfl) rfl ?_) | refine RX.soft (RX.indexAddr1 rfl rfl (by omega)) rfl ?_ | refine RX.soft (RX.indexAddrO rfl rfl (by omega)) rfl ?_ | refine RX.soft (RX.indexAddrS rfl rfl (by omega)) rfl ?_ | refine RX.soft (RX.pick_true rfl (by with_reducible rfl) rfl) rfl ?_ | refine RX.soft (RX.pick_false rfl (by with_reducible rfl) rfl) rfl ?_ | refine RX.soft (RX.not_t rfl (by with_reducible rfl)) rfl ?_ | refine RX.soft (RX.not_f rfl (by with_reducible rfl)) rfl ?_ | refine RX.soft (RX.not rfl) rfl ?_ | refine RX.soft (RX.extract rfl rfl) rfl ?_ | refine RX.soft (RX.build rfl (by intro w; simp [Instr.build, Instr.fill] <;> rfl)) rfl ?_ | refine RX.slice_one rfl rfl rfl rfl ?_)
            | refine RX.guard_true rfl rfl (by with_reducible rfl) (by first | omega | (with_reducible assumption)) ?_
            | refine RX.guard_false rfl rfl (by with_reducible rfl) (by first | omega | (with_reducible assumption)) ?_
            | refine RX.nil ?_
            | refine RX.then_normal ?_
            | refine RX.seq ?_
            | refine RX.region ?_
            | refine RX.cond_true rfl (by with_reducible rfl) ?_
            | refine RX.cond_false rfl (by with_reducible rfl) ?_
            | refine RX.skip ?_
            | refine RX.block ?_
            | refine RX.inBlock_normal ?_
            | refine RX.exit ?_
            | refine RX.then_exit ?_
            | refine RX.inBlock_exit ?_
            | refine RX.inBlock_other rfl ?_
            | refine RX.ret ?_
            | refine RX.then_ret ?_
            | refine RX.inBlock_ret ?_
            | refine RX.unwanted (by first | exact RX.barred_t rfl rfl rfl (by with_reducible rfl) | exact RX.barred_f rfl rfl rfl (by with_reducible rfl)) rfl ?_
            | refine RX.unwanted_none (by first | exact RX.barred_t rfl rfl rfl (by with_reducible rfl) | exact RX.barred_f rfl rfl rfl (by with_reducible rfl)) ?_
            | refine RX.cond rfl (fun h => absurd h (by first | omega | (with_reducible assumption))) (fun _ => ?_)
            | refine RX.cond rfl (fun _ => ?_) (fun h => absurd (by first | omega | (with_reducible assumption)) h))
          exact RX.again (k + 1) ⟨rfl, rfl, rfl, rfl, trivial⟩ ⟨by omega, hr, by rw [← hstep]; exact ha, hu⟩ (by omega)
      · have hkn : k = lst.length := by omega
        subst hkn
        repeat (first
          | (refine RX.opw (by first | exact RX.plain rfl | exact RX.guarded rfl rfl rfl (by with_reducible rfl)) ?_; first | refine RX.soft (RX.move rfl) rfl ?_ | refine RX.soft (RX.assign rfl) rfl ?_ | refine RX.soft (RX.nilCheck_ptr rfl) rfl ?_ | refine RX.soft (RX.fieldAddr0 rfl) rfl ?_ | refine RX.soft (RX.fieldAddrH rfl) rfl ?_ | refine RX.soft (RX.fieldAddr rfl) rfl ?_ | refine RX.soft (RX.load_at rfl (by assumption)) rfl ?_ | refine RX.soft (RX.lookup_at rfl rfl (by assumption)) rfl ?_ | (refine RX.isBin ?_; first | refine RX.soft (RX.lss rfl rfl) rfl ?_ | refine RX.soft (RX.eql rfl rfl) rfl ?_ | refine RX.soft (RX.neq rfl rfl) rfl ?_ | refine RX.soft (RX.geq rfl rfl) rfl ?_ | refine RX.soft (RX.gtr rfl rfl) rfl ?_ | refine RX.soft (RX.leq rfl rfl) rfl ?_ | refine RX.soft (RX.add_one rfl rfl (by omega)) rfl ?_ | refine RX.soft (RX.add_in rfl rfl (by omega)) rfl ?_ | refine RX.soft (RX.sub_in rfl rfl (by omega)) rfl ?_ | refine RX.soft (RX.eql_ptr_nil rfl rfl) rfl ?_ | refine RX.soft (RX.eql_nil_nil rfl rfl) rfl ?_ | refine RX.soft (RX.neq_ptr_nil rfl rfl) rfl ?_ | refine RX.soft (RX.neq_nil_nil rfl rfl) rfl ?_ | refine RX.soft (RX.eql_same rfl rfl (by with_reducible rfl)) rfl ?_ | refine RX.soft (RX.eql_tf rfl rfl (by with_reducible rfl) (by with_reducible rfl)) rfl ?_ | refine RX.soft (RX.eql_ft rfl rfl (by with_reducible rfl) (by with_reducible rfl)) rfl ?_ | refine RX.soft (RX.neq_same rfl rfl (by with_reducible rfl)) rfl ?_ | refine RX.soft (RX.neq_tf rfl rfl (by with_reducible rfl) (by with_reducible rfl)) rfl ?_ | refine RX.soft (RX.neq_ft rfl rfl (by with_reducible rfl) (by with_reducible rfl)) rfl ?_ | refine RX.soft (RX.eql_bool rfl rfl) rfl ?_ | refine RX.soft (RX.neq_bool rfl rfl) rfl ?_) | (refine RX.isCall ?_; first | refine RX.soft (RX.len_slice rfl) rfl ?_ | refine RX.soft (RX.max2 rfl rfl) rfl ?_ | refine RX.soft (RX.min2 rfl rfl) rfl ?_) | refine RX.soft (RX.indexAddr1 rfl rfl (by omega)) rfl ?_ | refine RX.soft (RX.indexAddrO rfl rfl (by omega)) rfl ?_ | refine RX.soft (RX.indexAddrS rfl rfl (by omega)) rfl ?_ | refine RX.soft (RX.pick_true rfl (by with_reducible rfl) rfl) rfl ?_ | refine RX.soft (RX.pick_false rfl (by with_reducible rfl) rfl) rfl ?_ | refine RX.soft (RX.not_t rfl (by with_reducible rfl)) rfl ?_ | refine RX.soft (RX.not_f rfl (by with_reducible rfl)) rfl ?_ | refine RX.soft (RX.not rfl) rfl ?_ | refine RX.soft (RX.extract rfl rfl) rfl ?_ | refine RX.soft (RX.build rfl (by intro w; simp [Instr.build, Instr.fill] <;> rfl)) rfl ?_ | refine RX.slice_one rfl rfl rfl rfl ?_)
          | refine RX.guard_true rfl rfl (by with_reducible rfl) (by first | omega | (with_reducible assumption)) ?_
          | refine RX.guard_false rfl rfl (by with_reducible rfl) (by first | omega | (with_reducible assumption)) ?_
          | refine RX.nil ?_
          | refine RX.then_normal ?_
          | refine RX.seq ?_
          | refine RX.region ?_
          | refine RX.cond_true rfl (by with_reducible rfl) ?_
          | refine RX.cond_false rfl (by with_reducible rfl) ?_
          | refine RX.skip ?_
          | refine RX.block ?_
          | refine RX.inBlock_normal ?_
          | refine RX.exit ?_
          | refine RX.then_exit ?_
          | refine RX.inBlock_exit ?_
          | refine RX.inBlock_other rfl ?_
          | refine RX.ret ?_
          | refine RX.then_ret ?_
          | refine RX.inBlock_ret ?_
          | refine RX.unwanted (by first | exact RX.barred_t rfl rfl rfl (by with_reducible rfl) | exact RX.barred_f rfl rfl rfl (by with_reducible rfl)) rfl ?_
          | refine RX.unwanted_none (by first | exact RX.barred_t rfl rfl rfl (by with_reducible rfl) | exact RX.barred_f rfl rfl rfl (by with_reducible rfl)) ?_
          | refine RX.cond rfl (fun h => absurd h (by first | omega | (with_reducible assumption))) (fun _ => ?_)
          | refine RX.cond rfl (fun _ => ?_) (fun h => absurd (by first | omega | (with_reducible assumption)) h))
        rw [mixed_all, range_getD (fun v => ((if v = x ∨ v = y then min x y else v : Nat) : Int))] at ha
        refine ret1 rfl rfl ⟨rfl, ⟨hr, ?_, fun e => hgne (by cases e; rfl), by rw [joined_length]; exact hsz⟩, hu.mono (fun j _ e => by rw [e]; rfl)⟩
        rw [joined_length]
        have := ha.owns (B := 0) (by omega)
        rw [nats_ints]
        simpa [joined, List.map_map, Function.comp_def] using this
end Go.Proofs.Ytfcmohfddjcfkaa
