/- FindNil: for all n, a, b: the law returns true; its arguments read as before. No condition. -/
import Derived.OpenShut
import Derived.Test.YtfcmohfddjcfkaaKnown18
import Derived.Test.YtfcmohfddjcfkaaRxType
namespace Go.Proofs.Ytfcmohfddjcfkaa
open Go Go.RR Go.RX Go.FindM Go.ChangeShapes Go.WideShapes Go.ChangeAt Go.RowKit
attribute [local irreducible] wpList Code.wp wpPlan Exit.then Exit.inBlock bodyPost NoPanic Went

theorem least_neg (n : Nat) (a : Int) : decide (least (List.range n) a = -1) = decide (a < 0 ∨ (n : Int) ≤ a) := by
  unfold least
  rw [List.length_range]
  by_cases h : 0 ≤ a ∧ a < (n : Int)
  · rw [if_pos h]
    have : ¬ (a < 0 ∨ (n : Int) ≤ a) := by omega
    simp only [this, decide_false, decide_eq_false_iff_not]
    omega
  · rw [if_neg h]
    have : (a < 0 ∨ (n : Int) ≤ a) := by omega
    simp [this]
theorem least_range {n : Nat} {a : Int} (h : 0 ≤ a ∧ a < (n : Int)) : least (List.range n) a = a := by
  unfold least
  rw [List.length_range, if_pos h]
  have : a.toNat < n := by omega
  simp [List.getD, this]; omega
theorem least_out {n : Nat} {a : Int} (h : ¬ (0 ≤ a ∧ a < (n : Int))) : least (List.range n) a = -1 := by
  unfold least
  rw [List.length_range, if_neg h]
theorem join_range (n : Nat) (a b : Int) : (join (List.range n) a b).1 = decide ((0 ≤ a ∧ a < (n : Int)) ∧ (0 ≤ b ∧ b < (n : Int)) ∧ a ≠ b) := by
  unfold join
  by_cases ha : 0 ≤ a ∧ a < (n : Int)
  · by_cases hb : 0 ≤ b ∧ b < (n : Int)
    · rw [least_range ha, least_range hb]
      by_cases hab : a = b
      · rw [if_pos (by omega)]; simp [hab]
      · rw [if_neg (by omega)]; simp [ha, hb, hab]
    · rw [least_out hb, if_pos (by omega)]; simp [hb]
  · rw [least_out ha, if_pos (by omega)]; simp [ha]

set_option maxHeartbeats 1000000 in
theorem findNil_calls (w : World) (n : Int) (_ : -9223372036854775808 ≤ n ∧ n ≤ 9223372036854775807) (a : Int) (_ : -9223372036854775808 ≤ a ∧ a ≤ 9223372036854775807) (b : Int) (_ : -9223372036854775808 ≤ b ∧ b ≤ 9223372036854775807) :
    Calls Try.prog 5 #[.int .i64 n, .int .i64 a, .int .i64 b] w fun e w' => e = .returned (.bool true) ∧ Upd (fun _ => False) w w' := by
  refine enter3 Try.func5 rfl Try.ntmps5 rfl ?_
  by_cases hn : 200 < n
  · repeat (first
      | (refine RX.opw (by first | exact RX.plain rfl | exact RX.guarded rfl rfl rfl (by with_reducible rfl)) ?_; first | refine RX.soft (RX.move rfl) rfl ?_ | refine RX.soft (RX.assign rfl) rfl ?_ | refine RX.soft (RX.nilCheck_ptr rfl) rfl ?_ | refine RX.soft (RX.fieldAddr0 rfl) rfl ?_ | refine RX.soft (RX.fieldAddrH rfl) rfl ?_ | refine RX.soft (RX.fieldAddr rfl) rfl ?_ | refine RX.soft (RX.load_at rfl (by assumption)) rfl ?_ | refine RX.soft (RX.lookup_at rfl rfl (by assumption)) rfl ?_ | (refine RX.isBin ?_; first | refine RX.soft (RX.lss rfl rfl) rfl ?_ | refine RX.soft (RX.eql rfl rfl) rfl ?_ | refine RX.soft (RX.neq rfl rfl) rfl ?_ | refine RX.soft (RX.geq rfl rfl) rfl ?_ | refine RX.soft (RX.gtr rfl rfl) rfl ?_ | refine RX.soft (RX.leq rfl rfl) rfl ?_ | refine RX.soft (RX.add_one rfl rfl (by omega)) rfl ?_ | refine RX.soft (RX.add_in rfl rfl (by omega)) rfl ?_ | refine RX.soft (RX.sub_in rfl rfl (by omega)) rfl ?_ | refine RX.soft (RX.eql_ptr_nil rfl rfl) rfl ?_ | refine RX.soft (RX.eql_nil_nil rfl rfl) rfl ?_ | refine RX.soft (RX.neq_ptr_nil rfl rfl) rfl ?_ | refine RX.soft (RX.neq_nil_nil rfl rfl) rfl ?_ | refine RX.soft (RX.eql_same rfl rfl (by with_reducible rfl)) rfl ?_ | refine RX.soft (RX.eql_tf rfl rfl (by with_reducible rfl) (by with_reducible rfl)) rfl ?_ | refine RX.soft (RX.eql_ft rfl rfl (by with_reducible rfl) (by with_reducible rfl)) rfl ?_ | refine RX.soft (RX.neq_same rfl rfl (by with_reducible rfl)) rfl ?_ | refine RX.soft (RX.neq_tf rfl rfl (by with_reducible rfl) (by with_reducible rfl)) rfl ?_ | refine RX.soft (RX.neq_ft rfl rfl (by with_reducible rfl) (by with_reducible rfl)) rfl ?_ | refine RX.soft (RX.eql_bool rfl rfl) rfl ?_ | refine RX.soft (RX.neq_bool rfl rfl) rfl ?_) | (refine RX.isCall ?_; first | refine RX.soft (RX.len_slice rfl) rfl ?_ | refine RX.soft (RX.max2 rfl rfl) rfl ?_ | refine RX.soft (RX.min2 rfl rfl) rfl ?_) | refine RX.soft (RX.indexAddr1 rfl rfl (by omega)) rfl ?_ | refine RX.soft (RX.indexAddrO rfl rfl (by omega)) rfl ?_ | refine RX.soft (RX.indexAddrS rfl rfl (by omega)) rfl ?_ | refine RX.soft (RX.pick_true rfl (by with_reducible rfl) rfl) rfl ?_ | refine RX.soft (RX.pick_false rfl (by with_reducible rfl) rfl) rfl ?_ | refine RX.soft (RX.not_t rfl (by with_reducible rfl)) rfl ?_ | refine RX.soft (RX.not_f rfl (by with_reducible rfl)) rfl ?_ | refine RX.soft (RX.not rfl) rfl ?_ | refine RX.soft (RX.extract rfl rfl) rfl ?_ | refine RX.soft (RX.build rfl (by intro w; simp [Instr.build, Instr.fill] <;> rfl)) rfl ?_ | refine RX.slice_one rfl rfl rfl rfl ?_)
      | refine RX.guard_true rfl rfl (by with_reducible rfl) (by first | omega | (with_reducible assumption)) ?_
      | refine RX.guard_false rfl rfl (by with_reducible rfl) (by first | omega | (with_reducible assumption)) ?_
      | refine RX.nil ?_
      | refine RX.then_normal ?_
      | refine RX.seq ?_
      | refine RX.region ?_
      | refine RX.cond_true rfl (by with_reducible rfl) ?_
      | refine RX.cond_false rfl (by with_reducible rfl) ?_
      | refine RX.skip ?_
      | refine RX.block ?_
      | refine RX.inBlock_normal ?_
      | refine RX.exit ?_
      | refine RX.then_exit ?_
      | refine RX.inBlock_exit ?_
      | refine RX.inBlock_other rfl ?_
      | refine RX.ret ?_
      | refine RX.then_ret ?_
      | refine RX.inBlock_ret ?_
      | refine RX.unwanted (by first | exact RX.barred_t rfl rfl rfl (by with_reducible rfl) | exact RX.barred_f rfl rfl rfl (by with_reducible rfl)) rfl ?_
      | refine RX.unwanted_none (by first | exact RX.barred_t rfl rfl rfl (by with_reducible rfl) | exact RX.barred_f rfl rfl rfl (by with_reducible rfl)) ?_
      | refine RX.cond rfl (fun h => absurd h (by first | omega | (with_reducible assumption))) (fun _ => ?_)
      | refine RX.cond rfl (fun _ => ?_) (fun h => absurd (by first | omega | (with_reducible assumption)) h))
    exact ret1 rfl rfl ⟨rfl, Upd.refl _ _⟩
  · repeat (first
      | (refine RX.opw (by first | exact RX.plain rfl | exact RX.guarded rfl rfl rfl (by with_reducible rfl)) ?_; first | refine RX.soft (RX.move rfl) rfl ?_ | refine RX.soft (RX.assign rfl) rfl ?_ | refine RX.soft (RX.nilCheck_ptr rfl) rfl ?_ | refine RX.soft (RX.fieldAddr0 rfl) rfl ?_ | refine RX.soft (RX.fieldAddrH rfl) rfl ?_ | refine RX.soft (RX.fieldAddr rfl) rfl ?_ | refine RX.soft (RX.load_at rfl (by assumption)) rfl ?_ | refine RX.soft (RX.lookup_at rfl rfl (by assumption)) rfl ?_ | (refine RX.isBin ?_; first | refine RX.soft (RX.lss rfl rfl) rfl ?_ | refine RX.soft (RX.eql rfl rfl) rfl ?_ | refine RX.soft (RX.neq rfl rfl) rfl ?_ | refine RX.soft (RX.geq rfl rfl) rfl ?_ | refine RX.soft (RX.gtr rfl rfl) rfl ?_ | refine RX.soft (RX.leq rfl rfl) rfl ?_ | refine RX.soft (RX.add_one rfl rfl (by omega)) rfl ?_ | refine RX.soft (RX.add_in rfl rfl (by omega)) rfl ?_ | refine RX.soft (RX.sub_in rfl rfl (by omega)) rfl ?_ | refine RX.soft (RX.eql_ptr_nil rfl rfl) rfl ?_ | refine RX.soft (RX.eql_nil_nil rfl rfl) rfl ?_ | refine RX.soft (RX.neq_ptr_nil rfl rfl) rfl ?_ | refine RX.soft (RX.neq_nil_nil rfl rfl) rfl ?_ | refine RX.soft (RX.eql_same rfl rfl (by with_reducible rfl)) rfl ?_ | refine RX.soft (RX.eql_tf rfl rfl (by with_reducible rfl) (by with_reducible rfl)) rfl ?_ | refine RX.soft (RX.eql_ft rfl rfl (by with_reducible rfl) (by with_reducible rfl)) rfl ?_ | refine RX.soft (RX.neq_same rfl rfl (by with_reducible rfl)) rfl ?_ | refine RX.soft (RX.neq_tf rfl rfl (by with_reducible rfl) (by with_reducible rfl)) rfl ?_ | refine RX.soft (RX.neq_ft rfl rfl (by with_reducible rfl) (by with_reducible rfl)) rfl ?_ | refine RX.soft (RX.eql_bool rfl rfl) rfl ?_ | refine RX.soft (RX.neq_bool rfl rfl) rfl ?_) | (refine RX.isCall ?_; first | refine RX.soft (RX.len_slice rfl) rfl ?_ | refine RX.soft (RX.max2 rfl rfl) rfl ?_ | refine RX.soft (RX.min2 rfl rfl) rfl ?_) | refine RX.soft (RX.indexAddr1 rfl rfl (by omega)) rfl ?_ | refine RX.soft (RX.indexAddrO rfl rfl (by omega)) rfl ?_ | refine RX.soft (RX.indexAddrS rfl rfl (by omega)) rfl ?_ | refine RX.soft (RX.pick_true rfl (by with_reducible rfl) rfl) rfl ?_ | refine RX.soft (RX.pick_false rfl (by with_reducible rfl) rfl) rfl ?_ | refine RX.soft (RX.not_t rfl (by with_reducible rfl)) rfl ?_ | refine RX.soft (RX.not_f rfl (by with_reducible rfl)) rfl ?_ | refine RX.soft (RX.not rfl) rfl ?_ | refine RX.soft (RX.extract rfl rfl) rfl ?_ | refine RX.soft (RX.build rfl (by intro w; simp [Instr.build, Instr.fill] <;> rfl)) rfl ?_ | refine RX.slice_one rfl rfl rfl rfl ?_)
      | refine RX.guard_true rfl rfl (by with_reducible rfl) (by first | omega | (with_reducible assumption)) ?_
      | refine RX.guard_false rfl rfl (by with_reducible rfl) (by first | omega | (with_reducible assumption)) ?_
      | refine RX.nil ?_
      | refine RX.then_normal ?_
      | refine RX.seq ?_
      | refine RX.region ?_
      | refine RX.cond_true rfl (by with_reducible rfl) ?_
      | refine RX.cond_false rfl (by with_reducible rfl) ?_
      | refine RX.skip ?_
      | refine RX.block ?_
      | refine RX.inBlock_normal ?_
      | refine RX.exit ?_
      | refine RX.then_exit ?_
      | refine RX.inBlock_exit ?_
      | refine RX.inBlock_other rfl ?_
      | refine RX.ret ?_
      | refine RX.then_ret ?_
      | refine RX.inBlock_ret ?_
      | refine RX.unwanted (by first | exact RX.barred_t rfl rfl rfl (by with_reducible rfl) | exact RX.barred_f rfl rfl rfl (by with_reducible rfl)) rfl ?_
      | refine RX.unwanted_none (by first | exact RX.barred_t rfl rfl rfl (by with_reducible rfl) | exact RX.barred_f rfl rfl rfl (by with_reducible rfl)) ?_
      | refine RX.cond rfl (fun h => absurd h (by first | omega | (with_reducible assumption))) (fun _ => ?_)
      | refine RX.cond rfl (fun _ => ?_) (fun h => absurd (by first | omega | (with_reducible assumption)) h))
    refine RX.opw (by first | exact RX.plain rfl | exact RX.guarded rfl rfl rfl (by with_reducible rfl)) ?_
    refine call rfl (new_any _ _) rfl ?_
    rintro e w1 ⟨pb, b1, rfl, hpb, hb, hf1, hu1⟩; refine ⟨_, rfl, ?_⟩
    repeat (first
      | (refine RX.opw (by first | exact RX.plain rfl | exact RX.guarded rfl rfl rfl (by with_reducible rfl)) ?_; first | refine RX.soft (RX.move rfl) rfl ?_ | refine RX.soft (RX.assign rfl) rfl ?_ | refine RX.soft (RX.nilCheck_ptr rfl) rfl ?_ | refine RX.soft (RX.fieldAddr0 rfl) rfl ?_ | refine RX.soft (RX.fieldAddrH rfl) rfl ?_ | refine RX.soft (RX.fieldAddr rfl) rfl ?_ | refine RX.soft (RX.load_at rfl (by assumption)) rfl ?_ | refine RX.soft (RX.lookup_at rfl rfl (by assumption)) rfl ?_ | (refine RX.isBin ?_; first | refine RX.soft (RX.lss rfl rfl) rfl ?_ | refine RX.soft (RX.eql rfl rfl) rfl ?_ | refine RX.soft (RX.neq rfl rfl) rfl ?_ | refine RX.soft (RX.geq rfl rfl) rfl ?_ | refine RX.soft (RX.gtr rfl rfl) rfl ?_ | refine RX.soft (RX.leq rfl rfl) rfl ?_ | refine RX.soft (RX.add_one rfl rfl (by omega)) rfl ?_ | refine RX.soft (RX.add_in rfl rfl (by omega)) rfl ?_ | refine RX.soft (RX.sub_in rfl rfl (by omega)) rfl ?_ | refine RX.soft (RX.eql_ptr_nil rfl rfl) rfl ?_ | refine RX.soft (RX.eql_nil_nil rfl rfl) rfl ?_ | refine RX.soft (RX.neq_ptr_nil rfl rfl) rfl ?_ | refine RX.soft (RX.neq_nil_nil rfl rfl) rfl ?_ | refine RX.soft (RX.eql_same rfl rfl (by with_reducible rfl)) rfl ?_ | refine RX.soft (RX.eql_tf rfl rfl (by with_reducible rfl) (by with_reducible rfl)) rfl ?_ | refine RX.soft (RX.eql_ft rfl rfl (by with_reducible rfl) (by with_reducible rfl)) rfl ?_ | refine RX.soft (RX.neq_same rfl rfl (by with_reducible rfl)) rfl ?_ | refine RX.soft (RX.neq_tf rfl rfl (by with_reducible rfl) (by with_reducible rfl)) rfl ?_ | refine RX.soft (RX.neq_ft rfl rfl (by with_reducible rfl) (by with_reducible rfl)) rfl ?_ | refine RX.soft (RX.eql_bool rfl rfl) rfl ?_ | refine RX.soft (RX.neq_bool rfl rfl) rfl ?_) | (refine RX.isCall ?_; first | refine RX.soft (RX.len_slice rfl) rfl ?_ | refine RX.soft (RX.max2 rfl rfl) rfl ?_ | refine RX.soft (RX.min2 rfl rfl) rfl ?_) | refine RX.soft (RX.indexAddr1 rfl rfl (by omega)) rfl ?_ | refine RX.soft (RX.indexAddrO rfl rfl (by omega)) rfl ?_ | refine RX.soft (RX.indexAddrS rfl rfl (by omega)) rfl ?_ | refine RX.soft (RX.pick_true rfl (by with_reducible rfl) rfl) rfl ?_ | refine RX.soft (RX.pick_false rfl (by with_reducible rfl) rfl) rfl ?_ | refine RX.soft (RX.not_t rfl (by with_reducible rfl)) rfl ?_ | refine RX.soft (RX.not_f rfl (by with_reducible rfl)) rfl ?_ | refine RX.soft (RX.not rfl) rfl ?_ | refine RX.soft (RX.extract rfl rfl) rfl ?_ | refine RX.soft (RX.build rfl (by intro w; simp [Instr.build, Instr.fill] <;> rfl)) rfl ?_ | refine RX.slice_one rfl rfl rfl rfl ?_)
      | refine RX.guard_true rfl rfl (by with_reducible rfl) (by first | omega | (with_reducible assumption)) ?_
      | refine RX.guard_false rfl rfl (by with_reducible rfl) (by first | omega | (with_reducible assumption)) ?_
      | refine RX.nil ?_
      | refine RX.then_normal ?_
      | refine RX.seq ?_
      | refine RX.region ?_
      | refine RX.cond_true rfl (by with_reducible rfl) ?_
      | refine RX.cond_false rfl (by with_reducible rfl) ?_
      | refine RX.skip ?_
      | refine RX.block ?_
      | refine RX.inBlock_normal ?_
      | refine RX.exit ?_
      | refine RX.then_exit ?_
      | refine RX.inBlock_exit ?_
      | refine RX.inBlock_other rfl ?_
      | refine RX.ret ?_
      | refine RX.then_ret ?_
      | refine RX.inBlock_ret ?_
      | refine RX.unwanted (by first | exact RX.barred_t rfl rfl rfl (by with_reducible rfl) | exact RX.barred_f rfl rfl rfl (by with_reducible rfl)) rfl ?_
      | refine RX.unwanted_none (by first | exact RX.barred_t rfl rfl rfl (by with_reducible rfl) | exact RX.barred_f rfl rfl rfl (by with_reducible rfl)) ?_
      | refine RX.cond rfl (fun h => absurd h (by first | omega | (with_reducible assumption))) (fun _ => ?_)
      | refine RX.cond rfl (fun _ => ?_) (fun h => absurd (by first | omega | (with_reducible assumption)) h))
    refine RX.opw (by first | exact RX.plain rfl | exact RX.guarded rfl rfl rfl (by with_reducible rfl)) ?_
    refine call rfl (join_nil _ _ _) rfl ?_
    rintro e w2 ⟨rfl, rfl⟩; refine ⟨_, rfl, ?_⟩
    repeat (first
      | (refine RX.opw (by first | exact RX.plain rfl | exact RX.guarded rfl rfl rfl (by with_reducible rfl)) ?_; first | refine RX.soft (RX.move rfl) rfl ?_ | refine RX.soft (RX.assign rfl) rfl ?_ | refine RX.soft (RX.nilCheck_ptr rfl) rfl ?_ | refine RX.soft (RX.fieldAddr0 rfl) rfl ?_ | refine RX.soft (RX.fieldAddrH rfl) rfl ?_ | refine RX.soft (RX.fieldAddr rfl) rfl ?_ | refine RX.soft (RX.load_at rfl (by assumption)) rfl ?_ | refine RX.soft (RX.lookup_at rfl rfl (by assumption)) rfl ?_ | (refine RX.isBin ?_; first | refine RX.soft (RX.lss rfl rfl) rfl ?_ | refine RX.soft (RX.eql rfl rfl) rfl ?_ | refine RX.soft (RX.neq rfl rfl) rfl ?_ | refine RX.soft (RX.geq rfl rfl) rfl ?_ | refine RX.soft (RX.gtr rfl rfl) rfl ?_ | refine RX.soft (RX.leq rfl rfl) rfl ?_ | refine RX.soft (RX.add_one rfl rfl (by omega)) rfl ?_ | refine RX.soft (RX.add_in rfl rfl (by omega)) rfl ?_ | refine RX.soft (RX.sub_in rfl rfl (by omega)) rfl ?_ | refine RX.soft (RX.eql_ptr_nil rfl rfl) rfl ?_ | refine RX.soft (RX.eql_nil_nil rfl rfl) rfl ?_ | refine RX.soft (RX.neq_ptr_nil rfl rfl) rfl ?_ | refine RX.soft (RX.neq_nil_nil rfl rfl) rfl ?_ | refine RX.soft (RX.eql_same rfl rfl (by with_reducible rfl)) rfl ?_ | refine RX.soft (RX.eql_tf rfl rfl (by with_reducible rfl) (by with_reducible rfl)) rfl ?_ | refine RX.soft (RX.eql_ft rfl rfl (by with_reducible rfl) (by with_reducible rfl)) rfl ?_ | refine RX.soft (RX.neq_same rfl rfl (by with_reducible rfl)) rfl ?_ | refine RX.soft (RX.neq_tf rfl rfl (by with_reducible rfl) (by with_reducible rfl)) rfl ?_ | refine RX.soft (RX.neq_ft rfl rfl (by with_reducible rfl) (by with_reducible rfl)) rfl ?_ | refine RX.soft (RX.eql_bool rfl rfl) rfl ?_ | refine RX.soft (RX.neq_bool rfl rfl) rfl ?_) | (refine RX.isCall ?_; first | refine RX.soft (RX.len_slice rfl) rfl ?_ | refine RX.soft (RX.max2 rfl rfl) rfl ?_ | refine RX.soft (RX.min2 rfl rfl) rfl ?_) | refine RX.soft (RX.indexAddr1 rfl rfl (by omega)) rfl ?_ | refine RX.soft (RX.indexAddrO rfl rfl (by omega)) rfl ?_ | refine RX.soft (RX.indexAddrS rfl rfl (by omega)) rfl ?_ | refine RX.soft (RX.pick_true rfl (by with_reducible rfl) rfl) rfl ?_ | refine RX.soft (RX.pick_false rfl (by with_reducible rfl) rfl) rfl ?_ | refine RX.soft (RX.not_t rfl (by with_reducible rfl)) rfl ?_ | refine RX.soft (RX.not_f rfl (by with_reducible rfl)) rfl ?_ | refine RX.soft (RX.not rfl) rfl ?_ | refine RX.soft (RX.extract rfl rfl) rfl ?_ | refine RX.soft (RX.build rfl (by intro w; simp [Instr.build, Instr.fill] <;> rfl)) rfl ?_ | refine RX.slice_one rfl rfl rfl rfl ?_)
      | refine RX.guard_true rfl rfl (by with_reducible rfl) (by first | omega | (with_reducible assumption)) ?_
      | refine RX.guard_false rfl rfl (by with_reducible rfl) (by first | omega | (with_reducible assumption)) ?_
      | refine RX.nil ?_
      | refine RX.then_normal ?_
      | refine RX.seq ?_
      | refine RX.region ?_
      | refine RX.cond_true rfl (by with_reducible rfl) ?_
      | refine RX.cond_false rfl (by with_reducible rfl) ?_
      | refine RX.skip ?_
      | refine RX.block ?_
      | refine RX.inBlock_normal ?_
      | refine RX.exit ?_
      | refine RX.then_exit ?_
      | refine RX.inBlock_exit ?_
      | refine RX.inBlock_other rfl ?_
      | refine RX.ret ?_
      | refine RX.then_ret ?_
      | refine RX.inBlock_ret ?_
      | refine RX.unwanted (by first | exact RX.barred_t rfl rfl rfl (by with_reducible rfl) | exact RX.barred_f rfl rfl rfl (by with_reducible rfl)) rfl ?_
      | refine RX.unwanted_none (by first | exact RX.barred_t rfl rfl rfl (by with_reducible rfl) | exact RX.barred_f rfl rfl rfl (by with_reducible rfl)) ?_
      | refine RX.cond rfl (fun h => absurd h (by first | omega | (with_reducible assumption))) (fun _ => ?_)
      | refine RX.cond rfl (fun _ => ?_) (fun h => absurd (by first | omega | (with_reducible assumption)) h))
    refine RX.opw (by first | exact RX.plain rfl | exact RX.guarded rfl rfl rfl (by with_reducible rfl)) ?_
    refine call rfl (least_nil _ _) rfl ?_
    rintro e w2 ⟨rfl, rfl⟩; refine ⟨_, rfl, ?_⟩
    repeat (first
      | (refine RX.opw (by first | exact RX.plain rfl | exact RX.guarded rfl rfl rfl (by with_reducible rfl)) ?_; first | refine RX.soft (RX.move rfl) rfl ?_ | refine RX.soft (RX.assign rfl) rfl ?_ | refine RX.soft (RX.nilCheck_ptr rfl) rfl ?_ | refine RX.soft (RX.fieldAddr0 rfl) rfl ?_ | refine RX.soft (RX.fieldAddrH rfl) rfl ?_ | refine RX.soft (RX.fieldAddr rfl) rfl ?_ | refine RX.soft (RX.load_at rfl (by assumption)) rfl ?_ | refine RX.soft (RX.lookup_at rfl rfl (by assumption)) rfl ?_ | (refine RX.isBin ?_; first | refine RX.soft (RX.lss rfl rfl) rfl ?_ | refine RX.soft (RX.eql rfl rfl) rfl ?_ | refine RX.soft (RX.neq rfl rfl) rfl ?_ | refine RX.soft (RX.geq rfl rfl) rfl ?_ | refine RX.soft (RX.gtr rfl rfl) rfl ?_ | refine RX.soft (RX.leq rfl rfl) rfl ?_ | refine RX.soft (RX.add_one rfl rfl (by omega)) rfl ?_ | refine RX.soft (RX.add_in rfl rfl (by omega)) rfl ?_ | refine RX.soft (RX.sub_in rfl rfl (by omega)) rfl ?_ | refine RX.soft (RX.eql_ptr_nil rfl rfl) rfl ?_ | refine RX.soft (RX.eql_nil_nil rfl rfl) rfl ?_ | refine RX.soft (RX.neq_ptr_nil rfl rfl) rfl ?_ | refine RX.soft (RX.neq_nil_nil rfl rfl) rfl ?_ | refine RX.soft (RX.eql_same rfl rfl (by with_reducible rfl)) rfl ?_ | refine RX.soft (RX.eql_tf rfl rfl (by with_reducible rfl) (by with_reducible rfl)) rfl ?_ | refine RX.soft (RX.eql_ft rfl rfl (by with_reducible rfl) (by with_reducible rfl)) rfl ?_ | refine RX.soft (RX.neq_same rfl rfl (by with_reducible rfl)) rfl ?_ | refine RX.soft (RX.neq_tf rfl rfl (by with_reducible rfl) (by with_reducible rfl)) rfl ?_ | refine RX.soft (RX.neq_ft rfl rfl (by with_reducible rfl) (by with_reducible rfl)) rfl ?_ | refine RX.soft (RX.eql_bool rfl rfl) rfl ?_ | refine RX.soft (RX.neq_bool rfl rfl) rfl ?_) | (refine RX.isCall ?_; first | refine RX.soft (RX.len_slice rfl) rfl ?_ | refine RX.soft (RX.max2 rfl rfl) rfl ?_ | refine RX.soft (RX.min2 rfl rfl) rfl ?_) | refine RX.soft (RX.indexAddr1 rfl rfl (by omega)) rfl ?_ | refine RX.soft (RX.indexAddrO rfl rfl (by omega)) rfl ?_ | refine RX.soft (RX.indexAddrS rfl rfl (by omega)) rfl ?_ | refine RX.soft (RX.pick_true rfl (by with_reducible rfl) rfl) rfl ?_ | refine RX.soft (RX.pick_false rfl (by with_reducible rfl) rfl) rfl ?_ | refine RX.soft (RX.not_t rfl (by with_reducible rfl)) rfl ?_ | refine RX.soft (RX.not_f rfl (by with_reducible rfl)) rfl ?_ | refine RX.soft (RX.not rfl) rfl ?_ | refine RX.soft (RX.extract rfl rfl) rfl ?_ | refine RX.soft (RX.build rfl (by intro w; simp [Instr.build, Instr.fill] <;> rfl)) rfl ?_ | refine RX.slice_one rfl rfl rfl rfl ?_)
      | refine RX.guard_true rfl rfl (by with_reducible rfl) (by first | omega | (with_reducible assumption)) ?_
      | refine RX.guard_false rfl rfl (by with_reducible rfl) (by first | omega | (with_reducible assumption)) ?_
      | refine RX.nil ?_
      | refine RX.then_normal ?_
      | refine RX.seq ?_
      | refine RX.region ?_
      | refine RX.cond_true rfl (by with_reducible rfl) ?_
      | refine RX.cond_false rfl (by with_reducible rfl) ?_
      | refine RX.skip ?_
      | refine RX.block ?_
      | refine RX.inBlock_normal ?_
      | refine RX.exit ?_
      | refine RX.then_exit ?_
      | refine RX.inBlock_exit ?_
      | refine RX.inBlock_other rfl ?_
      | refine RX.ret ?_
      | refine RX.then_ret ?_
      | refine RX.inBlock_ret ?_
      | refine RX.unwanted (by first | exact RX.barred_t rfl rfl rfl (by with_reducible rfl) | exact RX.barred_f rfl rfl rfl (by with_reducible rfl)) rfl ?_
      | refine RX.unwanted_none (by first | exact RX.barred_t rfl rfl rfl (by with_reducible rfl) | exact RX.barred_f rfl rfl rfl (by with_reducible rfl)) ?_
      | refine RX.cond rfl (fun h => absurd h (by first | omega | (with_reducible assumption))) (fun _ => ?_)
      | refine RX.cond rfl (fun _ => ?_) (fun h => absurd (by first | omega | (with_reducible assumption)) h))
    refine RX.opw (by first | exact RX.plain rfl | exact RX.guarded rfl rfl rfl (by with_reducible rfl)) ?_
    refine call rfl (sets_nil _) rfl ?_
    rintro e w2 ⟨rfl, rfl⟩; refine ⟨_, rfl, ?_⟩
    have hm : max 0 n = (many n : Int) := by unfold many; omega
    have hjr := join_range (many n) a b
    have hjl : (join (List.range (many n)) a b).2.length = many n := by
      unfold join; split <;> simp [joined_length]
    generalize hL : join (List.range (many n)) a b = L at *
    have key : ∀ (p q : Bool), decide ((0 ≤ a ∧ a < (many n : Int)) ∧ (0 ≤ b ∧ b < (many n : Int)) ∧ a ≠ b) = p → decide (least L.2 a = -1) = q → L.1 = p ∧ decide (least L.2 a = -1) = q := fun p q h1 h2 => ⟨hjr.trans h1, h2⟩
    clear key
    have hlt : (0 ≤ a ∧ a < (many n : Int)) → ¬ least L.2 a = -1 := by
      intro h
      unfold least
      rw [hjl, if_pos h]; omega
    have hln : ¬ (0 ≤ a ∧ a < (many n : Int)) → least L.2 a = -1 := by
      intro h
      unfold least
      rw [hjl, if_neg h]
    have hw : ∀ w' w2 : World, Upd (fun k => k = b1) w1 w2 → Upd (fun k => k = b1) w2 w' → Upd (fun _ => False) w w' := fun w' w2 h1 h2 =>
      (hu1.trans h1 (fun _ _ h => h) (fun j hj e => by omega)).trans h2 (fun _ _ h => h) (fun j hj e => by omega)
    have hjoin := join_any a b w1 pb b1 _ hf1
    rw [hL] at hjoin
    rcases (show a < 0 ∨ (0 ≤ a ∧ (many n : Int) ≤ a) ∨ ((0 ≤ a ∧ a < (many n : Int)) ∧ b < 0) ∨ ((0 ≤ a ∧ a < (many n : Int)) ∧ 0 ≤ b ∧ (many n : Int) ≤ b) ∨ ((0 ≤ a ∧ a < (many n : Int)) ∧ 0 ≤ b ∧ b < (many n : Int)) by omega) with h | h | h | h | h
    · have hj1 : L.1 = false := by rw [hjr]; rw [decide_eq_false_iff_not]; omega
      have hl1 : (decide (least L.2 a = -1) == true) = true := by simpa using hln (by omega)
      rw [hj1] at hjoin
      repeat (first
        | (refine RX.opw (by first | exact RX.plain rfl | exact RX.guarded rfl rfl rfl (by with_reducible rfl)) ?_; first | refine RX.soft (RX.move rfl) rfl ?_ | refine RX.soft (RX.assign rfl) rfl ?_ | refine RX.soft (RX.nilCheck_ptr rfl) rfl ?_ | refine RX.soft (RX.fieldAddr0 rfl) rfl ?_ | refine RX.soft (RX.fieldAddrH rfl) rfl ?_ | refine RX.soft (RX.fieldAddr rfl) rfl ?_ | refine RX.soft (RX.load_at rfl (by assumption)) rfl ?_ | refine RX.soft (RX.lookup_at rfl rfl (by assumption)) rfl ?_ | (refine RX.isBin ?_; first | refine RX.soft (RX.lss rfl rfl) rfl ?_ | refine RX.soft (RX.eql rfl rfl) rfl ?_ | refine RX.soft (RX.neq rfl rfl) rfl ?_ | refine RX.soft (RX.geq rfl rfl) rfl ?_ | refine RX.soft (RX.gtr rfl rfl) rfl ?_ | refine RX.soft (RX.leq rfl rfl) rfl ?_ | refine RX.soft (RX.add_one rfl rfl (by omega)) rfl ?_ | refine RX.soft (RX.add_in rfl rfl (by omega)) rfl ?_ | refine RX.soft (RX.sub_in rfl rfl (by omega)) rfl ?_ | refine RX.soft (RX.eql_ptr_nil rfl rfl) rfl ?_ | refine RX.soft (RX.eql_nil_nil rfl rfl) rfl ?_ | refine RX.soft (RX.neq_ptr_nil rfl rfl) rfl ?_ | refine RX.soft (RX.neq_nil_nil rfl rfl) rfl ?_ | refine RX.soft (RX.eql_same rfl rfl (by with_reducible rfl)) rfl ?_ | refine RX.soft (RX.eql_tf rfl rfl (by with_reducible rfl) (by with_reducible rfl)) rfl ?_ | refine RX.soft (RX.eql_ft rfl rfl (by with_reducible rfl) (by with_reducible rfl)) rfl ?_ | refine RX.soft (RX.neq_same rfl rfl (by with_reducible rfl)) rfl ?_ | refine RX.soft (RX.neq_tf rfl rfl (by with_reducible rfl) (by with_reducible rfl)) rfl ?_ | refine RX.soft (RX.neq_ft rfl rfl (by with_reducible rfl) (by with_reducible rfl)) rfl ?_ | refine RX.soft (RX.eql_bool rfl rfl) rfl ?_ | refine RX.soft (RX.neq_bool rfl rfl) rfl ?_) | (refine RX.isCall ?_; first | refine RX.soft (RX.len_slice rfl) rfl ?_ | refine RX.soft (RX.max2 rfl rfl) rfl ?_ | refine RX.soft (RX.min2 rfl rfl) rfl ?_) | refine RX.soft (RX.indexAddr1 rfl rfl (by omega)) rfl ?_ | refine RX.soft (RX.indexAddrO rfl rfl (by omega)) rfl ?_ | refine RX.soft (RX.indexAddrS rfl rfl (by omega)) rfl ?_ | refine RX.soft (RX.pick_true rfl (by with_reducible rfl) rfl) rfl ?_ | refine RX.soft (RX.pick_false rfl (by with_reducible rfl) rfl) rfl ?_ | refine RX.soft (RX.not_t rfl (by with_reducible rfl)) rfl ?_ | refine RX.soft (RX.not_f rfl (by with_reducible rfl)) rfl ?_ | refine RX.soft (RX.not rfl) rfl ?_ | refine RX.soft (RX.extract rfl rfl) rfl ?_ | refine RX.soft (RX.build rfl (by intro w; simp [Instr.build, Instr.fill] <;> rfl)) rfl ?_ | refine RX.slice_one rfl rfl rfl rfl ?_)
        | refine RX.guard_true rfl rfl (by with_reducible rfl) (by first | omega | (with_reducible assumption)) ?_
        | refine RX.guard_false rfl rfl (by with_reducible rfl) (by first | omega | (with_reducible assumption)) ?_
        | refine RX.nil ?_
        | refine RX.then_normal ?_
        | refine RX.seq ?_
        | refine RX.region ?_
        | refine RX.cond_true rfl (by with_reducible rfl) ?_
        | refine RX.cond_false rfl (by with_reducible rfl) ?_
        | refine RX.skip ?_
        | refine RX.block ?_
        | refine RX.inBlock_normal ?_
        | refine RX.exit ?_
        | refine RX.then_exit ?_
        | refine RX.inBlock_exit ?_
        | refine RX.inBlock_other rfl ?_
        | refine RX.ret ?_
        | refine RX.then_ret ?_
        | refine RX.inBlock_ret ?_
        | refine RX.unwanted (by first | exact RX.barred_t rfl rfl rfl (by with_reducible rfl) | exact RX.barred_f rfl rfl rfl (by with_reducible rfl)) rfl ?_
        | refine RX.unwanted_none (by first | exact RX.barred_t rfl rfl rfl (by with_reducible rfl) | exact RX.barred_f rfl rfl rfl (by with_reducible rfl)) ?_
        | refine RX.cond rfl (fun h => absurd h (by first | omega | (with_reducible assumption))) (fun _ => ?_)
        | refine RX.cond rfl (fun _ => ?_) (fun h => absurd (by first | omega | (with_reducible assumption)) h))
      refine RX.opw (by first | exact RX.plain rfl | exact RX.guarded rfl rfl rfl (by with_reducible rfl)) ?_
      refine call rfl hjoin rfl ?_
      rintro e w2 ⟨rfl, hf2, hu2⟩; refine ⟨_, rfl, ?_⟩
      repeat (first
        | (refine RX.opw (by first | exact RX.plain rfl | exact RX.guarded rfl rfl rfl (by with_reducible rfl)) ?_; first | refine RX.soft (RX.move rfl) rfl ?_ | refine RX.soft (RX.assign rfl) rfl ?_ | refine RX.soft (RX.nilCheck_ptr rfl) rfl ?_ | refine RX.soft (RX.fieldAddr0 rfl) rfl ?_ | refine RX.soft (RX.fieldAddrH rfl) rfl ?_ | refine RX.soft (RX.fieldAddr rfl) rfl ?_ | refine RX.soft (RX.load_at rfl (by assumption)) rfl ?_ | refine RX.soft (RX.lookup_at rfl rfl (by assumption)) rfl ?_ | (refine RX.isBin ?_; first | refine RX.soft (RX.lss rfl rfl) rfl ?_ | refine RX.soft (RX.eql rfl rfl) rfl ?_ | refine RX.soft (RX.neq rfl rfl) rfl ?_ | refine RX.soft (RX.geq rfl rfl) rfl ?_ | refine RX.soft (RX.gtr rfl rfl) rfl ?_ | refine RX.soft (RX.leq rfl rfl) rfl ?_ | refine RX.soft (RX.add_one rfl rfl (by omega)) rfl ?_ | refine RX.soft (RX.add_in rfl rfl (by omega)) rfl ?_ | refine RX.soft (RX.sub_in rfl rfl (by omega)) rfl ?_ | refine RX.soft (RX.eql_ptr_nil rfl rfl) rfl ?_ | refine RX.soft (RX.eql_nil_nil rfl rfl) rfl ?_ | refine RX.soft (RX.neq_ptr_nil rfl rfl) rfl ?_ | refine RX.soft (RX.neq_nil_nil rfl rfl) rfl ?_ | refine RX.soft (RX.eql_same rfl rfl (by with_reducible rfl)) rfl ?_ | refine RX.soft (RX.eql_tf rfl rfl (by with_reducible rfl) (by with_reducible rfl)) rfl ?_ | refine RX.soft (RX.eql_ft rfl rfl (by with_reducible rfl) (by with_reducible rfl)) rfl ?_ | refine RX.soft (RX.neq_same rfl rfl (by with_reducible rfl)) rfl ?_ | refine RX.soft (RX.neq_tf rfl rfl (by with_reducible rfl) (by with_reducible rfl)) rfl ?_ | refine RX.soft (RX.neq_ft rfl rfl (by with_reducible rfl) (by with_reducible rfl)) rfl ?_ | refine RX.soft (RX.eql_bool rfl rfl) rfl ?_ | refine RX.soft (RX.neq_bool rfl rfl) rfl ?_) | (refine RX.isCall ?_; first | refine RX.soft (RX.len_slice rfl) rfl ?_ | refine RX.soft (RX.max2 rfl rfl) rfl ?_ | refine RX.soft (RX.min2 rfl rfl) rfl ?_) | refine RX.soft (RX.indexAddr1 rfl rfl (by omega)) rfl ?_ | refine RX.soft (RX.indexAddrO rfl rfl (by omega)) rfl ?_ | refine RX.soft (RX.indexAddrS rfl rfl (by omega)) rfl ?_ | refine RX.soft (RX.pick_true rfl (by with_reducible rfl) rfl) rfl ?_ | refine RX.soft (RX.pick_false rfl (by with_reducible rfl) rfl) rfl ?_ | refine RX.soft (RX.not_t rfl (by with_reducible rfl)) rfl ?_ | refine RX.soft (RX.not_f rfl (by with_reducible rfl)) rfl ?_ | refine RX.soft (RX.not rfl) rfl ?_ | refine RX.soft (RX.extract rfl rfl) rfl ?_ | refine RX.soft (RX.build rfl (by intro w; simp [Instr.build, Instr.fill] <;> rfl)) rfl ?_ | refine RX.slice_one rfl rfl rfl rfl ?_)
        | refine RX.guard_true rfl rfl (by with_reducible rfl) (by first | omega | (with_reducible assumption)) ?_
        | refine RX.guard_false rfl rfl (by with_reducible rfl) (by first | omega | (with_reducible assumption)) ?_
        | refine RX.nil ?_
        | refine RX.then_normal ?_
        | refine RX.seq ?_
        | refine RX.region ?_
        | refine RX.cond_true rfl (by with_reducible rfl) ?_
        | refine RX.cond_false rfl (by with_reducible rfl) ?_
        | refine RX.skip ?_
        | refine RX.block ?_
        | refine RX.inBlock_normal ?_
        | refine RX.exit ?_
        | refine RX.then_exit ?_
        | refine RX.inBlock_exit ?_
        | refine RX.inBlock_other rfl ?_
        | refine RX.ret ?_
        | refine RX.then_ret ?_
        | refine RX.inBlock_ret ?_
        | refine RX.unwanted (by first | exact RX.barred_t rfl rfl rfl (by with_reducible rfl) | exact RX.barred_f rfl rfl rfl (by with_reducible rfl)) rfl ?_
        | refine RX.unwanted_none (by first | exact RX.barred_t rfl rfl rfl (by with_reducible rfl) | exact RX.barred_f rfl rfl rfl (by with_reducible rfl)) ?_
        | refine RX.cond rfl (fun h => absurd h (by first | omega | (with_reducible assumption))) (fun _ => ?_)
        | refine RX.cond rfl (fun _ => ?_) (fun h => absurd (by first | omega | (with_reducible assumption)) h))
      refine RX.opw (by first | exact RX.plain rfl | exact RX.guarded rfl rfl rfl (by with_reducible rfl)) ?_
      refine call rfl (least_any a _ pb b1 _ hf2) rfl ?_
      rintro e w3 ⟨rfl, hf3, hu3⟩; refine ⟨_, rfl, ?_⟩
      repeat (first
        | (refine RX.opw (by first | exact RX.plain rfl | exact RX.guarded rfl rfl rfl (by with_reducible rfl)) ?_; first | refine RX.soft (RX.move rfl) rfl ?_ | refine RX.soft (RX.assign rfl) rfl ?_ | refine RX.soft (RX.nilCheck_ptr rfl) rfl ?_ | refine RX.soft (RX.fieldAddr0 rfl) rfl ?_ | refine RX.soft (RX.fieldAddrH rfl) rfl ?_ | refine RX.soft (RX.fieldAddr rfl) rfl ?_ | refine RX.soft (RX.load_at rfl (by assumption)) rfl ?_ | refine RX.soft (RX.lookup_at rfl rfl (by assumption)) rfl ?_ | (refine RX.isBin ?_; first | refine RX.soft (RX.lss rfl rfl) rfl ?_ | refine RX.soft (RX.eql rfl rfl) rfl ?_ | refine RX.soft (RX.neq rfl rfl) rfl ?_ | refine RX.soft (RX.geq rfl rfl) rfl ?_ | refine RX.soft (RX.gtr rfl rfl) rfl ?_ | refine RX.soft (RX.leq rfl rfl) rfl ?_ | refine RX.soft (RX.add_one rfl rfl (by omega)) rfl ?_ | refine RX.soft (RX.add_in rfl rfl (by omega)) rfl ?_ | refine RX.soft (RX.sub_in rfl rfl (by omega)) rfl ?_ | refine RX.soft (RX.eql_ptr_nil rfl rfl) rfl ?_ | refine RX.soft (RX.eql_nil_nil rfl rfl) rfl ?_ | refine RX.soft (RX.neq_ptr_nil rfl rfl) rfl ?_ | refine RX.soft (RX.neq_nil_nil rfl rfl) rfl ?_ | refine RX.soft (RX.eql_same rfl rfl (by with_reducible rfl)) rfl ?_ | refine RX.soft (RX.eql_tf rfl rfl (by with_reducible rfl) (by with_reducible rfl)) rfl ?_ | refine RX.soft (RX.eql_ft rfl rfl (by with_reducible rfl) (by with_reducible rfl)) rfl ?_ | refine RX.soft (RX.neq_same rfl rfl (by with_reducible rfl)) rfl ?_ | refine RX.soft (RX.neq_tf rfl rfl (by with_reducible rfl) (by with_reducible rfl)) rfl ?_ | refine RX.soft (RX.neq_ft rfl rfl (by with_reducible rfl) (by with_reducible rfl)) rfl ?_ | refine RX.soft (RX.eql_bool rfl rfl) rfl ?_ | refine RX.soft (RX.neq_bool rfl rfl) rfl ?_) | (refine RX.isCall ?_; first | refine RX.soft (RX.len_slice rfl) rfl ?_ | refine RX.soft (RX.max2 rfl rfl) rfl ?_ | refine RX.soft (RX.min2 rfl rfl) rfl ?_) | refine RX.soft (RX.indexAddr1 rfl rfl (by omega)) rfl ?_ | refine RX.soft (RX.indexAddrO rfl rfl (by omega)) rfl ?_ | refine RX.soft (RX.indexAddrS rfl rfl (by omega)) rfl ?_ | refine RX.soft (RX.pick_true rfl (by with_reducible rfl) rfl) rfl ?_ | refine RX.soft (RX.pick_false rfl (by with_reducible rfl) rfl) rfl ?_ | refine RX.soft (RX.not_t rfl (by with_reducible rfl)) rfl ?_ | refine RX.soft (RX.not_f rfl (by with_reducible rfl)) rfl ?_ | refine RX.soft (RX.not rfl) rfl ?_ | refine RX.soft (RX.extract rfl rfl) rfl ?_ | refine RX.soft (RX.build rfl (by intro w; simp [Instr.build, Instr.fill] <;> rfl)) rfl ?_ | refine RX.slice_one rfl rfl rfl rfl ?_)
        | refine RX.guard_true rfl rfl (by with_reducible rfl) (by first | omega | (with_reducible assumption)) ?_
        | refine RX.guard_false rfl rfl (by with_reducible rfl) (by first | omega | (with_reducible assumption)) ?_
        | refine RX.nil ?_
        | refine RX.then_normal ?_
        | refine RX.seq ?_
        | refine RX.region ?_
        | refine RX.cond_true rfl (by with_reducible rfl) ?_
        | refine RX.cond_false rfl (by with_reducible rfl) ?_
        | refine RX.skip ?_
        | refine RX.block ?_
        | refine RX.inBlock_normal ?_
        | refine RX.exit ?_
        | refine RX.then_exit ?_
        | refine RX.inBlock_exit ?_
        | refine RX.inBlock_other rfl ?_
        | refine RX.ret ?_
        | refine RX.then_ret ?_
        | refine RX.inBlock_ret ?_
        | refine RX.unwanted (by first | exact RX.barred_t rfl rfl rfl (by with_reducible rfl) | exact RX.barred_f rfl rfl rfl (by with_reducible rfl)) rfl ?_
        | refine RX.unwanted_none (by first | exact RX.barred_t rfl rfl rfl (by with_reducible rfl) | exact RX.barred_f rfl rfl rfl (by with_reducible rfl)) ?_
        | refine RX.cond rfl (fun h => absurd h (by first | omega | (with_reducible assumption))) (fun _ => ?_)
        | refine RX.cond rfl (fun _ => ?_) (fun h => absurd (by first | omega | (with_reducible assumption)) h))
      rw [hl1]
      repeat (first
        | (refine RX.opw (by first | exact RX.plain rfl | exact RX.guarded rfl rfl rfl (by with_reducible rfl)) ?_; first | refine RX.soft (RX.move rfl) rfl ?_ | refine RX.soft (RX.assign rfl) rfl ?_ | refine RX.soft (RX.nilCheck_ptr rfl) rfl ?_ | refine RX.soft (RX.fieldAddr0 rfl) rfl ?_ | refine RX.soft (RX.fieldAddrH rfl) rfl ?_ | refine RX.soft (RX.fieldAddr rfl) rfl ?_ | refine RX.soft (RX.load_at rfl (by assumption)) rfl ?_ | refine RX.soft (RX.lookup_at rfl rfl (by assumption)) rfl ?_ | (refine RX.isBin ?_; first | refine RX.soft (RX.lss rfl rfl) rfl ?_ | refine RX.soft (RX.eql rfl rfl) rfl ?_ | refine RX.soft (RX.neq rfl rfl) rfl ?_ | refine RX.soft (RX.geq rfl rfl) rfl ?_ | refine RX.soft (RX.gtr rfl rfl) rfl ?_ | refine RX.soft (RX.leq rfl rfl) rfl ?_ | refine RX.soft (RX.add_one rfl rfl (by omega)) rfl ?_ | refine RX.soft (RX.add_in rfl rfl (by omega)) rfl ?_ | refine RX.soft (RX.sub_in rfl rfl (by omega)) rfl ?_ | refine RX.soft (RX.eql_ptr_nil rfl rfl) rfl ?_ | refine RX.soft (RX.eql_nil_nil rfl rfl) rfl ?_ | refine RX.soft (RX.neq_ptr_nil rfl rfl) rfl ?_ | refine RX.soft (RX.neq_nil_nil rfl rfl) rfl ?_ | refine RX.soft (RX.eql_same rfl rfl (by with_reducible rfl)) rfl ?_ | refine RX.soft (RX.eql_tf rfl rfl (by with_reducible rfl) (by with_reducible rfl)) rfl ?_ | refine RX.soft (RX.eql_ft rfl rfl (by with_reducible rfl) (by with_reducible rfl)) rfl ?_ | refine RX.soft (RX.neq_same rfl rfl (by with_reducible rfl)) rfl ?_ | refine RX.soft (RX.neq_tf rfl rfl (by with_reducible rfl) (by with_reducible rfl)) rfl ?_ | refine RX.soft (RX.neq_ft rfl rfl (by with_reducible rfl) (by with_reducible rfl)) rfl ?_ | refine RX.soft (RX.eql_bool rfl rfl) rfl ?_ | refine RX.soft (RX.neq_bool rfl rfl) rfl ?_) | (refine RX.isCall ?_; first | refine RX.soft (RX.len_slice rfl) rfl ?_ | refine RX.soft (RX.max2 rfl rfl) rfl ?_ | refine RX.soft (RX.min2 rfl rfl) rfl ?_) | refine RX.soft (RX.indexAddr1 rfl rfl (by omega)) rfl ?_ | refine RX.soft (RX.indexAddrO rfl rfl (by omega)) rfl ?_ | refine RX.soft (RX.indexAddrS rfl rfl (by omega)) rfl ?_ | refine RX.soft (RX.pick_true rfl (by with_reducible rfl) rfl) rfl ?_ | refine RX.soft (RX.pick_false rfl (by with_reducible rfl) rfl) rfl ?_ | refine RX.soft (RX.not_t rfl (by with_reducible rfl)) rfl ?_ | refine RX.soft (RX.not_f rfl (by with_reducible rfl)) rfl ?_ | refine RX.soft (RX.not rfl) rfl ?_ | refine RX.soft (RX.extract rfl rfl) rfl ?_ | refine RX.soft (RX.build rfl (by intro w; simp [Instr.build, Instr.fill] <;> rfl)) rfl ?_ | refine RX.slice_one rfl rfl rfl rfl ?_)
        | refine RX.guard_true rfl rfl (by with_reducible rfl) (by first | omega | (with_reducible assumption)) ?_
        | refine RX.guard_false rfl rfl (by with_reducible rfl) (by first | omega | (with_reducible assumption)) ?_
        | refine RX.nil ?_
        | refine RX.then_normal ?_
        | refine RX.seq ?_
        | refine RX.region ?_
        | refine RX.cond_true rfl (by with_reducible rfl) ?_
        | refine RX.cond_false rfl (by with_reducible rfl) ?_
        | refine RX.skip ?_
        | refine RX.block ?_
        | refine RX.inBlock_normal ?_
        | refine RX.exit ?_
        | refine RX.then_exit ?_
        | refine RX.inBlock_exit ?_
        | refine RX.inBlock_other rfl ?_
        | refine RX.ret ?_
        | refine RX.then_ret ?_
        | refine RX.inBlock_ret ?_
        | refine RX.unwanted (by first | exact RX.barred_t rfl rfl rfl (by with_reducible rfl) | exact RX.barred_f rfl rfl rfl (by with_reducible rfl)) rfl ?_
        | refine RX.unwanted_none (by first | exact RX.barred_t rfl rfl rfl (by with_reducible rfl) | exact RX.barred_f rfl rfl rfl (by with_reducible rfl)) ?_
        | refine RX.cond rfl (fun h => absurd h (by first | omega | (with_reducible assumption))) (fun _ => ?_)
        | refine RX.cond rfl (fun _ => ?_) (fun h => absurd (by first | omega | (with_reducible assumption)) h))
      refine RX.opw (by first | exact RX.plain rfl | exact RX.guarded rfl rfl rfl (by with_reducible rfl)) ?_
      refine call rfl (known_any _) rfl ?_
      rintro e w4 ⟨rfl, hu4⟩; refine ⟨_, rfl, ?_⟩
      repeat (first
        | (refine RX.opw (by first | exact RX.plain rfl | exact RX.guarded rfl rfl rfl (by with_reducible rfl)) ?_; first | refine RX.soft (RX.move rfl) rfl ?_ | refine RX.soft (RX.assign rfl) rfl ?_ | refine RX.soft (RX.nilCheck_ptr rfl) rfl ?_ | refine RX.soft (RX.fieldAddr0 rfl) rfl ?_ | refine RX.soft (RX.fieldAddrH rfl) rfl ?_ | refine RX.soft (RX.fieldAddr rfl) rfl ?_ | refine RX.soft (RX.load_at rfl (by assumption)) rfl ?_ | refine RX.soft (RX.lookup_at rfl rfl (by assumption)) rfl ?_ | (refine RX.isBin ?_; first | refine RX.soft (RX.lss rfl rfl) rfl ?_ | refine RX.soft (RX.eql rfl rfl) rfl ?_ | refine RX.soft (RX.neq rfl rfl) rfl ?_ | refine RX.soft (RX.geq rfl rfl) rfl ?_ | refine RX.soft (RX.gtr rfl rfl) rfl ?_ | refine RX.soft (RX.leq rfl rfl) rfl ?_ | refine RX.soft (RX.add_one rfl rfl (by omega)) rfl ?_ | refine RX.soft (RX.add_in rfl rfl (by omega)) rfl ?_ | refine RX.soft (RX.sub_in rfl rfl (by omega)) rfl ?_ | refine RX.soft (RX.eql_ptr_nil rfl rfl) rfl ?_ | refine RX.soft (RX.eql_nil_nil rfl rfl) rfl ?_ | refine RX.soft (RX.neq_ptr_nil rfl rfl) rfl ?_ | refine RX.soft (RX.neq_nil_nil rfl rfl) rfl ?_ | refine RX.soft (RX.eql_same rfl rfl (by with_reducible rfl)) rfl ?_ | refine RX.soft (RX.eql_tf rfl rfl (by with_reducible rfl) (by with_reducible rfl)) rfl ?_ | refine RX.soft (RX.eql_ft rfl rfl (by with_reducible rfl) (by with_reducible rfl)) rfl ?_ | refine RX.soft (RX.neq_same rfl rfl (by with_reducible rfl)) rfl ?_ | refine RX.soft (RX.neq_tf rfl rfl (by with_reducible rfl) (by with_reducible rfl)) rfl ?_ | refine RX.soft (RX.neq_ft rfl rfl (by with_reducible rfl) (by with_reducible rfl)) rfl ?_ | refine RX.soft (RX.eql_bool rfl rfl) rfl ?_ | refine RX.soft (RX.neq_bool rfl rfl) rfl ?_) | (refine RX.isCall ?_; first | refine RX.soft (RX.len_slice rfl) rfl ?_ | refine RX.soft (RX.max2 rfl rfl) rfl ?_ | refine RX.soft (RX.min2 rfl rfl) rfl ?_) | refine RX.soft (RX.indexAddr1 rfl rfl (by omega)) rfl ?_ | refine RX.soft (RX.indexAddrO rfl rfl (by omega)) rfl ?_ | refine RX.soft (RX.indexAddrS rfl rfl (by omega)) rfl ?_ | refine RX.soft (RX.pick_true rfl (by with_reducible rfl) rfl) rfl ?_ | refine RX.soft (RX.pick_false rfl (by with_reducible rfl) rfl) rfl ?_ | refine RX.soft (RX.not_t rfl (by with_reducible rfl)) rfl ?_ | refine RX.soft (RX.not_f rfl (by with_reducible rfl)) rfl ?_ | refine RX.soft (RX.not rfl) rfl ?_ | refine RX.soft (RX.extract rfl rfl) rfl ?_ | refine RX.soft (RX.build rfl (by intro w; simp [Instr.build, Instr.fill] <;> rfl)) rfl ?_ | refine RX.slice_one rfl rfl rfl rfl ?_)
        | refine RX.guard_true rfl rfl (by with_reducible rfl) (by first | omega | (with_reducible assumption)) ?_
        | refine RX.guard_false rfl rfl (by with_reducible rfl) (by first | omega | (with_reducible assumption)) ?_
        | refine RX.nil ?_
        | refine RX.then_normal ?_
        | refine RX.seq ?_
        | refine RX.region ?_
        | refine RX.cond_true rfl (by with_reducible rfl) ?_
        | refine RX.cond_false rfl (by with_reducible rfl) ?_
        | refine RX.skip ?_
        | refine RX.block ?_
        | refine RX.inBlock_normal ?_
        | refine RX.exit ?_
        | refine RX.then_exit ?_
        | refine RX.inBlock_exit ?_
        | refine RX.inBlock_other rfl ?_
        | refine RX.ret ?_
        | refine RX.then_ret ?_
        | refine RX.inBlock_ret ?_
        | refine RX.unwanted (by first | exact RX.barred_t rfl rfl rfl (by with_reducible rfl) | exact RX.barred_f rfl rfl rfl (by with_reducible rfl)) rfl ?_
        | refine RX.unwanted_none (by first | exact RX.barred_t rfl rfl rfl (by with_reducible rfl) | exact RX.barred_f rfl rfl rfl (by with_reducible rfl)) ?_
        | refine RX.cond rfl (fun h => absurd h (by first | omega | (with_reducible assumption))) (fun _ => ?_)
        | refine RX.cond rfl (fun _ => ?_) (fun h => absurd (by first | omega | (with_reducible assumption)) h))
      exact ret1 rfl rfl ⟨rfl, (hw _ _ hu2 hu3).trans hu4 (fun _ _ h => h) (fun _ _ h => h)⟩
    · have hj1 : L.1 = false := by rw [hjr]; rw [decide_eq_false_iff_not]; omega
      have hl1 : (decide (least L.2 a = -1) == decide (max 0 n ≤ a)) = true := by rw [hm, beq_iff_eq, decide_eq_decide]; constructor <;> intro h <;> first | omega | exact hln (by omega) | exact absurd h (hlt (by omega))
      rw [hj1] at hjoin
      repeat (first
        | (refine RX.opw (by first | exact RX.plain rfl | exact RX.guarded rfl rfl rfl (by with_reducible rfl)) ?_; first | refine RX.soft (RX.move rfl) rfl ?_ | refine RX.soft (RX.assign rfl) rfl ?_ | refine RX.soft (RX.nilCheck_ptr rfl) rfl ?_ | refine RX.soft (RX.fieldAddr0 rfl) rfl ?_ | refine RX.soft (RX.fieldAddrH rfl) rfl ?_ | refine RX.soft (RX.fieldAddr rfl) rfl ?_ | refine RX.soft (RX.load_at rfl (by assumption)) rfl ?_ | refine RX.soft (RX.lookup_at rfl rfl (by assumption)) rfl ?_ | (refine RX.isBin ?_; first | refine RX.soft (RX.lss rfl rfl) rfl ?_ | refine RX.soft (RX.eql rfl rfl) rfl ?_ | refine RX.soft (RX.neq rfl rfl) rfl ?_ | refine RX.soft (RX.geq rfl rfl) rfl ?_ | refine RX.soft (RX.gtr rfl rfl) rfl ?_ | refine RX.soft (RX.leq rfl rfl) rfl ?_ | refine RX.soft (RX.add_one rfl rfl (by omega)) rfl ?_ | refine RX.soft (RX.add_in rfl rfl (by omega)) rfl ?_ | refine RX.soft (RX.sub_in rfl rfl (by omega)) rfl ?_ | refine RX.soft (RX.eql_ptr_nil rfl rfl) rfl ?_ | refine RX.soft (RX.eql_nil_nil rfl rfl) rfl ?_ | refine RX.soft (RX.neq_ptr_nil rfl rfl) rfl ?_ | refine RX.soft (RX.neq_nil_nil rfl rfl) rfl ?_ | refine RX.soft (RX.eql_same rfl rfl (by with_reducible rfl)) rfl ?_ | refine RX.soft (RX.eql_tf rfl rfl (by with_reducible rfl) (by with_reducible rfl)) rfl ?_ | refine RX.soft (RX.eql_ft rfl rfl (by with_reducible rfl) (by with_reducible rfl)) rfl ?_ | refine RX.soft (RX.neq_same rfl rfl (by with_reducible rfl)) rfl ?_ | refine RX.soft (RX.neq_tf rfl rfl (by with_reducible rfl) (by with_reducible rfl)) rfl ?_ | refine RX.soft (RX.neq_ft rfl rfl (by with_reducible rfl) (by with_reducible rfl)) rfl ?_ | refine RX.soft (RX.eql_bool rfl rfl) rfl ?_ | refine RX.soft (RX.neq_bool rfl rfl) rfl ?_) | (refine RX.isCall ?_; first | refine RX.soft (RX.len_slice rfl) rfl ?_ | refine RX.soft (RX.max2 rfl rfl) rfl ?_ | refine RX.soft (RX.min2 rfl rfl) rfl ?_) | refine RX.soft (RX.indexAddr1 rfl rfl (by omega)) rfl ?_ | refine RX.soft (RX.indexAddrO rfl rfl (by omega)) rfl ?_ | refine RX.soft (RX.indexAddrS rfl rfl (by omega)) rfl ?_ | refine RX.soft (RX.pick_true rfl (by with_reducible rfl) rfl) rfl ?_ | refine RX.soft (RX.pick_false rfl (by with_reducible rfl) rfl) rfl ?_ | refine RX.soft (RX.not_t rfl (by with_reducible rfl)) rfl ?_ | refine RX.soft (RX.not_f rfl (by with_reducible rfl)) rfl ?_ | refine RX.soft (RX.not rfl) rfl ?_ | refine RX.soft (RX.extract rfl rfl) rfl ?_ | refine RX.soft (RX.build rfl (by intro w; simp [Instr.build, Instr.fill] <;> rfl)) rfl ?_ | refine RX.slice_one rfl rfl rfl rfl ?_)
        | refine RX.guard_true rfl rfl (by with_reducible rfl) (by first | omega | (with_reducible assumption)) ?_
        | refine RX.guard_false rfl rfl (by with_reducible rfl) (by first | omega | (with_reducible assumption)) ?_
        | refine RX.nil ?_
        | refine RX.then_normal ?_
        | refine RX.seq ?_
        | refine RX.region ?_
        | refine RX.cond_true rfl (by with_reducible rfl) ?_
        | refine RX.cond_false rfl (by with_reducible rfl) ?_
        | refine RX.skip ?_
        | refine RX.block ?_
        | refine RX.inBlock_normal ?_
        | refine RX.exit ?_
        | refine RX.then_exit ?_
        | refine RX.inBlock_exit ?_
        | refine RX.inBlock_other rfl ?_
        | refine RX.ret ?_
        | refine RX.then_ret ?_
        | refine RX.inBlock_ret ?_
        | refine RX.unwanted (by first | exact RX.barred_t rfl rfl rfl (by with_reducible rfl) | exact RX.barred_f rfl rfl rfl (by with_reducible rfl)) rfl ?_
        | refine RX.unwanted_none (by first | exact RX.barred_t rfl rfl rfl (by with_reducible rfl) | exact RX.barred_f rfl rfl rfl (by with_reducible rfl)) ?_
        | refine RX.cond rfl (fun h => absurd h (by first | omega | (with_reducible assumption))) (fun _ => ?_)
        | refine RX.cond rfl (fun _ => ?_) (fun h => absurd (by first | omega | (with_reducible assumption)) h))
      refine RX.opw (by first | exact RX.plain rfl | exact RX.guarded rfl rfl rfl (by with_reducible rfl)) ?_
      refine call rfl hjoin rfl ?_
      rintro e w2 ⟨rfl, hf2, hu2⟩; refine ⟨_, rfl, ?_⟩
      repeat (first
        | (refine RX.opw (by first | exact RX.plain rfl | exact RX.guarded rfl rfl rfl (by with_reducible rfl)) ?_; first | refine RX.soft (RX.move rfl) rfl ?_ | refine RX.soft (RX.assign rfl) rfl ?_ | refine RX.soft (RX.nilCheck_ptr rfl) rfl ?_ | refine RX.soft (RX.fieldAddr0 rfl) rfl ?_ | refine RX.soft (RX.fieldAddrH rfl) rfl ?_ | refine RX.soft (RX.fieldAddr rfl) rfl ?_ | refine RX.soft (RX.load_at rfl (by assumption)) rfl ?_ | refine RX.soft (RX.lookup_at rfl rfl (by assumption)) rfl ?_ | (refine RX.isBin ?_; first | refine RX.soft (RX.lss rfl rfl) rfl ?_ | refine RX.soft (RX.eql rfl rfl) rfl ?_ | refine RX.soft (RX.neq rfl rfl) rfl ?_ | refine RX.soft (RX.geq rfl rfl) rfl ?_ | refine RX.soft (RX.gtr rfl rfl) rfl ?_ | refine RX.soft (RX.leq rfl rfl) rfl ?_ | refine RX.soft (RX.add_one rfl rfl (by omega)) rfl ?_ | refine RX.soft (RX.add_in rfl rfl (by omega)) rfl ?_ | refine RX.soft (RX.sub_in rfl rfl (by omega)) rfl ?_ | refine RX.soft (RX.eql_ptr_nil rfl rfl) rfl ?_ | refine RX.soft (RX.eql_nil_nil rfl rfl) rfl ?_ | refine RX.soft (RX.neq_ptr_nil rfl rfl) rfl ?_ | refine RX.soft (RX.neq_nil_nil rfl rfl) rfl ?_ | refine RX.soft (RX.eql_same rfl rfl (by with_reducible rfl)) rfl ?_ | refine RX.soft (RX.eql_tf rfl rfl (by with_reducible rfl) (by with_reducible rfl)) rfl ?_ | refine RX.soft (RX.eql_ft rfl rfl (by with_reducible rfl) (by with_reducible rfl)) rfl ?_ | refine RX.soft (RX.neq_same rfl rfl (by with_reducible rfl)) rfl ?_ | refine RX.soft (RX.neq_tf rfl rfl (by with_reducible rfl) (by with_reducible rfl)) rfl ?_ | refine RX.soft (RX.neq_ft rfl rfl (by with_reducible rfl) (by with_reducible rfl)) rfl ?_ | refine RX.soft (RX.eql_bool rfl rfl) rfl ?_ | refine RX.soft (RX.neq_bool rfl rfl) rfl ?_) | (refine RX.isCall ?_; first | refine RX.soft (RX.len_slice rfl) rfl ?_ | refine RX.soft (RX.max2 rfl rfl) rfl ?_ | refine RX.soft (RX.min2 rfl rfl) rfl ?_) | refine RX.soft (RX.indexAddr1 rfl rfl (by omega)) rfl ?_ | refine RX.soft (RX.indexAddrO rfl rfl (by omega)) rfl ?_ | refine RX.soft (RX.indexAddrS rfl rfl (by omega)) rfl ?_ | refine RX.soft (RX.pick_true rfl (by with_reducible rfl) rfl) rfl ?_ | refine RX.soft (RX.pick_false rfl (by with_reducible rfl) rfl) rfl ?_ | refine RX.soft (RX.not_t rfl (by with_reducible rfl)) rfl ?_ | refine RX.soft (RX.not_f rfl (by with_reducible rfl)) rfl ?_ | refine RX.soft (RX.not rfl) rfl ?_ | refine RX.soft (RX.extract rfl rfl) rfl ?_ | refine RX.soft (RX.build rfl (by intro w; simp [Instr.build, Instr.fill] <;> rfl)) rfl ?_ | refine RX.slice_one rfl rfl rfl rfl ?_)
        | refine RX.guard_true rfl rfl (by with_reducible rfl) (by first | omega | (with_reducible assumption)) ?_
        | refine RX.guard_false rfl rfl (by with_reducible rfl) (by first | omega | (with_reducible assumption)) ?_
        | refine RX.nil ?_
        | refine RX.then_normal ?_
        | refine RX.seq ?_
        | refine RX.region ?_
        | refine RX.cond_true rfl (by with_reducible rfl) ?_
        | refine RX.cond_false rfl (by with_reducible rfl) ?_
        | refine RX.skip ?_
        | refine RX.block ?_
        | refine RX.inBlock_normal ?_
        | refine RX.exit ?_
        | refine RX.then_exit ?_
        | refine RX.inBlock_exit ?_
        | refine RX.inBlock_other rfl ?_
        | refine RX.ret ?_
        | refine RX.then_ret ?_
        | refine RX.inBlock_ret ?_
        | refine RX.unwanted (by first | exact RX.barred_t rfl rfl rfl (by with_reducible rfl) | exact RX.barred_f rfl rfl rfl (by with_reducible rfl)) rfl ?_
        | refine RX.unwanted_none (by first | exact RX.barred_t rfl rfl rfl (by with_reducible rfl) | exact RX.barred_f rfl rfl rfl (by with_reducible rfl)) ?_
        | refine RX.cond rfl (fun h => absurd h (by first | omega | (with_reducible assumption))) (fun _ => ?_)
        | refine RX.cond rfl (fun _ => ?_) (fun h => absurd (by first | omega | (with_reducible assumption)) h))
      refine RX.opw (by first | exact RX.plain rfl | exact RX.guarded rfl rfl rfl (by with_reducible rfl)) ?_
      refine call rfl (least_any a _ pb b1 _ hf2) rfl ?_
      rintro e w3 ⟨rfl, hf3, hu3⟩; refine ⟨_, rfl, ?_⟩
      repeat (first
        | (refine RX.opw (by first | exact RX.plain rfl | exact RX.guarded rfl rfl rfl (by with_reducible rfl)) ?_; first | refine RX.soft (RX.move rfl) rfl ?_ | refine RX.soft (RX.assign rfl) rfl ?_ | refine RX.soft (RX.nilCheck_ptr rfl) rfl ?_ | refine RX.soft (RX.fieldAddr0 rfl) rfl ?_ | refine RX.soft (RX.fieldAddrH rfl) rfl ?_ | refine RX.soft (RX.fieldAddr rfl) rfl ?_ | refine RX.soft (RX.load_at rfl (by assumption)) rfl ?_ | refine RX.soft (RX.lookup_at rfl rfl (by assumption)) rfl ?_ | (refine RX.isBin ?_; first | refine RX.soft (RX.lss rfl rfl) rfl ?_ | refine RX.soft (RX.eql rfl rfl) rfl ?_ | refine RX.soft (RX.neq rfl rfl) rfl ?_ | refine RX.soft (RX.geq rfl rfl) rfl ?_ | refine RX.soft (RX.gtr rfl rfl) rfl ?_ | refine RX.soft (RX.leq rfl rfl) rfl ?_ | refine RX.soft (RX.add_one rfl rfl (by omega)) rfl ?_ | refine RX.soft (RX.add_in rfl rfl (by omega)) rfl ?_ | refine RX.soft (RX.sub_in rfl rfl (by omega)) rfl ?_ | refine RX.soft (RX.eql_ptr_nil rfl rfl) rfl ?_ | refine RX.soft (RX.eql_nil_nil rfl rfl) rfl ?_ | refine RX.soft (RX.neq_ptr_nil rfl rfl) rfl ?_ | refine RX.soft (RX.neq_nil_nil rfl rfl) rfl ?_ | refine RX.soft (RX.eql_same rfl rfl (by with_reducible rfl)) rfl ?_ | refine RX.soft (RX.eql_tf rfl rfl (by with_reducible rfl) (by with_reducible rfl)) rfl ?_ | refine RX.soft (RX.eql_ft rfl rfl (by with_reducible rfl) (by with_reducible rfl)) rfl ?_ | refine RX.soft (RX.neq_same rfl rfl (by with_reducible rfl)) rfl ?_ | refine RX.soft (RX.neq_tf rfl rfl (by with_reducible rfl) (by with_reducible rfl)) rfl ?_ | refine RX.soft (RX.neq_ft rfl rfl (by with_reducible rfl) (by with_reducible rfl)) rfl ?_ | refine RX.soft (RX.eql_bool rfl rfl) rfl ?_ | refine RX.soft (RX.neq_bool rfl rfl) rfl ?_) | (refine RX.isCall ?_; first | refine RX.soft (RX.len_slice rfl) rfl ?_ | refine RX.soft (RX.max2 rfl rfl) rfl ?_ | refine RX.soft (RX.min2 rfl rfl) rfl ?_) | refine RX.soft (RX.indexAddr1 rfl rfl (by omega)) rfl ?_ | refine RX.soft (RX.indexAddrO rfl rfl (by omega)) rfl ?_ | refine RX.soft (RX.indexAddrS rfl rfl (by omega)) rfl ?_ | refine RX.soft (RX.pick_true rfl (by with_reducible rfl) rfl) rfl ?_ | refine RX.soft (RX.pick_false rfl (by with_reducible rfl) rfl) rfl ?_ | refine RX.soft (RX.not_t rfl (by with_reducible rfl)) rfl ?_ | refine RX.soft (RX.not_f rfl (by with_reducible rfl)) rfl ?_ | refine RX.soft (RX.not rfl) rfl ?_ | refine RX.soft (RX.extract rfl rfl) rfl ?_ | refine RX.soft (RX.build rfl (by intro w; simp [Instr.build, Instr.fill] <;> rfl)) rfl ?_ | refine RX.slice_one rfl rfl rfl rfl ?_)
        | refine RX.guard_true rfl rfl (by with_reducible rfl) (by first | omega | (with_reducible assumption)) ?_
        | refine RX.guard_false rfl rfl (by with_reducible rfl) (by first | omega | (with_reducible assumption)) ?_
        | refine RX.nil ?_
        | refine RX.then_normal ?_
        | refine RX.seq ?_
        | refine RX.region ?_
        | refine RX.cond_true rfl (by with_reducible rfl) ?_
        | refine RX.cond_false rfl (by with_reducible rfl) ?_
        | refine RX.skip ?_
        | refine RX.block ?_
        | refine RX.inBlock_normal ?_
        | refine RX.exit ?_
        | refine RX.then_exit ?_
        | refine RX.inBlock_exit ?_
        | refine RX.inBlock_other rfl ?_
        | refine RX.ret ?_
        | refine RX.then_ret ?_
        | refine RX.inBlock_ret ?_
        | refine RX.unwanted (by first | exact RX.barred_t rfl rfl rfl (by with_reducible rfl) | exact RX.barred_f rfl rfl rfl (by with_reducible rfl)) rfl ?_
        | refine RX.unwanted_none (by first | exact RX.barred_t rfl rfl rfl (by with_reducible rfl) | exact RX.barred_f rfl rfl rfl (by with_reducible rfl)) ?_
        | refine RX.cond rfl (fun h => absurd h (by first | omega | (with_reducible assumption))) (fun _ => ?_)
        | refine RX.cond rfl (fun _ => ?_) (fun h => absurd (by first | omega | (with_reducible assumption)) h))
      rw [hl1]
      repeat (first
        | (refine RX.opw (by first | exact RX.plain rfl | exact RX.guarded rfl rfl rfl (by with_reducible rfl)) ?_; first | refine RX.soft (RX.move rfl) rfl ?_ | refine RX.soft (RX.assign rfl) rfl ?_ | refine RX.soft (RX.nilCheck_ptr rfl) rfl ?_ | refine RX.soft (RX.fieldAddr0 rfl) rfl ?_ | refine RX.soft (RX.fieldAddrH rfl) rfl ?_ | refine RX.soft (RX.fieldAddr rfl) rfl ?_ | refine RX.soft (RX.load_at rfl (by assumption)) rfl ?_ | refine RX.soft (RX.lookup_at rfl rfl (by assumption)) rfl ?_ | (refine RX.isBin ?_; first | refine RX.soft (RX.lss rfl rfl) rfl ?_ | refine RX.soft (RX.eql rfl rfl) rfl ?_ | refine RX.soft (RX.neq rfl rfl) rfl ?_ | refine RX.soft (RX.geq rfl rfl) rfl ?_ | refine RX.soft (RX.gtr rfl rfl) rfl ?_ | refine RX.soft (RX.leq rfl rfl) rfl ?_ | refine RX.soft (RX.add_one rfl rfl (by omega)) rfl ?_ | refine RX.soft (RX.add_in rfl rfl (by omega)) rfl ?_ | refine RX.soft (RX.sub_in rfl rfl (by omega)) rfl ?_ | refine RX.soft (RX.eql_ptr_nil rfl rfl) rfl ?_ | refine RX.soft (RX.eql_nil_nil rfl rfl) rfl ?_ | refine RX.soft (RX.neq_ptr_nil rfl rfl) rfl ?_ | refine RX.soft (RX.neq_nil_nil rfl rfl) rfl ?_ | refine RX.soft (RX.eql_same rfl rfl (by with_reducible rfl)) rfl ?_ | refine RX.soft (RX.eql_tf rfl rfl (by with_reducible rfl) (by with_reducible rfl)) rfl ?_ | refine RX.soft (RX.eql_ft rfl rfl (by with_reducible rfl) (by with_reducible rfl)) rfl ?_ | refine RX.soft (RX.neq_same rfl rfl (by with_reducible rfl)) rfl ?_ | refine RX.soft (RX.neq_tf rfl rfl (by with_reducible rfl) (by with_reducible rfl)) rfl ?_ | refine RX.soft (RX.neq_ft rfl rfl (by with_reducible rfl) (by with_reducible rfl)) rfl ?_ | refine RX.soft (RX.eql_bool rfl rfl) rfl ?_ | refine RX.soft (RX.neq_bool rfl rfl) rfl ?_) | (refine RX.isCall ?_; first | refine RX.soft (RX.len_slice rfl) rfl ?_ | refine RX.soft (RX.max2 rfl rfl) rfl ?_ | refine RX.soft (RX.min2 rfl rfl) rfl ?_) | refine RX.soft (RX.indexAddr1 rfl rfl (by omega)) rfl ?_ | refine RX.soft (RX.indexAddrO rfl rfl (by omega)) rfl ?_ | refine RX.soft (RX.indexAddrS rfl rfl (by omega)) rfl ?_ | refine RX.soft (RX.pick_true rfl (by with_reducible rfl) rfl) rfl ?_ | refine RX.soft (RX.pick_false rfl (by with_reducible rfl) rfl) rfl ?_ | refine RX.soft (RX.not_t rfl (by with_reducible rfl)) rfl ?_ | refine RX.soft (RX.not_f rfl (by with_reducible rfl)) rfl ?_ | refine RX.soft (RX.not rfl) rfl ?_ | refine RX.soft (RX.extract rfl rfl) rfl ?_ | refine RX.soft (RX.build rfl (by intro w; simp [Instr.build, Instr.fill] <;> rfl)) rfl ?_ | refine RX.slice_one rfl rfl rfl rfl ?_)
        | refine RX.guard_true rfl rfl (by with_reducible rfl) (by first | omega | (with_reducible assumption)) ?_
        | refine RX.guard_false rfl rfl (by with_reducible rfl) (by first | omega | (with_reducible assumption)) ?_
        | refine RX.nil ?_
        | refine RX.then_normal ?_
        | refine RX.seq ?_
        | refine RX.region ?_
        | refine RX.cond_true rfl (by with_reducible rfl) ?_
        | refine RX.cond_false rfl (by with_reducible rfl) ?_
        | refine RX.skip ?_
        | refine RX.block ?_
        | refine RX.inBlock_normal ?_
        | refine RX.exit ?_
        | refine RX.then_exit ?_
        | refine RX.inBlock_exit ?_
        | refine RX.inBlock_other rfl ?_
        | refine RX.ret ?_
        | refine RX.then_ret ?_
        | refine RX.inBlock_ret ?_
        | refine RX.unwanted (by first | exact RX.barred_t rfl rfl rfl (by with_reducible rfl) | exact RX.barred_f rfl rfl rfl (by with_reducible rfl)) rfl ?_
        | refine RX.unwanted_none (by first | exact RX.barred_t rfl rfl rfl (by with_reducible rfl) | exact RX.barred_f rfl rfl rfl (by with_reducible rfl)) ?_
        | refine RX.cond rfl (fun h => absurd h (by first | omega | (with_reducible assumption))) (fun _ => ?_)
        | refine RX.cond rfl (fun _ => ?_) (fun h => absurd (by first | omega | (with_reducible assumption)) h))
      refine RX.opw (by first | exact RX.plain rfl | exact RX.guarded rfl rfl rfl (by with_reducible rfl)) ?_
      refine call rfl (known_any _) rfl ?_
      rintro e w4 ⟨rfl, hu4⟩; refine ⟨_, rfl, ?_⟩
      repeat (first
        | (refine RX.opw (by first | exact RX.plain rfl | exact RX.guarded rfl rfl rfl (by with_reducible rfl)) ?_; first | refine RX.soft (RX.move rfl) rfl ?_ | refine RX.soft (RX.assign rfl) rfl ?_ | refine RX.soft (RX.nilCheck_ptr rfl) rfl ?_ | refine RX.soft (RX.fieldAddr0 rfl) rfl ?_ | refine RX.soft (RX.fieldAddrH rfl) rfl ?_ | refine RX.soft (RX.fieldAddr rfl) rfl ?_ | refine RX.soft (RX.load_at rfl (by assumption)) rfl ?_ | refine RX.soft (RX.lookup_at rfl rfl (by assumption)) rfl ?_ | (refine RX.isBin ?_; first | refine RX.soft (RX.lss rfl rfl) rfl ?_ | refine RX.soft (RX.eql rfl rfl) rfl ?_ | refine RX.soft (RX.neq rfl rfl) rfl ?_ | refine RX.soft (RX.geq rfl rfl) rfl ?_ | refine RX.soft (RX.gtr rfl rfl) rfl ?_ | refine RX.soft (RX.leq rfl rfl) rfl ?_ | refine RX.soft (RX.add_one rfl rfl (by omega)) rfl ?_ | refine RX.soft (RX.add_in rfl rfl (by omega)) rfl ?_ | refine RX.soft (RX.sub_in rfl rfl (by omega)) rfl ?_ | refine RX.soft (RX.eql_ptr_nil rfl rfl) rfl ?_ | refine RX.soft (RX.eql_nil_nil rfl rfl) rfl ?_ | refine RX.soft (RX.neq_ptr_nil rfl rfl) rfl ?_ | refine RX.soft (RX.neq_nil_nil rfl rfl) rfl ?_ | refine RX.soft (RX.eql_same rfl rfl (by with_reducible rfl)) rfl ?_ | refine RX.soft (RX.eql_tf rfl rfl (by with_reducible rfl) (by with_reducible rfl)) rfl ?_ | refine RX.soft (RX.eql_ft rfl rfl (by with_reducible rfl) (by with_reducible rfl)) rfl ?_ | refine RX.soft (RX.neq_same rfl rfl (by with_reducible rfl)) rfl ?_ | refine RX.soft (RX.neq_tf rfl rfl (by with_reducible rfl) (by with_reducible rfl)) rfl ?_ | refine RX.soft (RX.neq_ft rfl rfl (by with_reducible rfl) (by with_reducible rfl)) rfl ?_ | refine RX.soft (RX.eql_bool rfl rfl) rfl ?_ | refine RX.soft (RX.neq_bool rfl rfl) rfl ?_) | (refine RX.isCall ?_; first | refine RX.soft (RX.len_slice rfl) rfl ?_ | refine RX.soft (RX.max2 rfl rfl) rfl ?_ | refine RX.soft (RX.min2 rfl rfl) rfl ?_) | refine RX.soft (RX.indexAddr1 rfl rfl (by omega)) rfl ?_ | refine RX.soft (RX.indexAddrO rfl rfl (by omega)) rfl ?_ | refine RX.soft (RX.indexAddrS rfl rfl (by omega)) rfl ?_ | refine RX.soft (RX.pick_true rfl (by with_reducible rfl) rfl) rfl ?_ | refine RX.soft (RX.pick_false rfl (by with_reducible rfl) rfl) rfl ?_ | refine RX.soft (RX.not_t rfl (by with_reducible rfl)) rfl ?_ | refine RX.soft (RX.not_f rfl (by with_reducible rfl)) rfl ?_ | refine RX.soft (RX.not rfl) rfl ?_ | refine RX.soft (RX.extract rfl rfl) rfl ?_ | refine RX.soft (RX.build rfl (by intro w; simp [Instr.build, Instr.fill] <;> rfl)) rfl ?_ | refine RX.slice_one rfl rfl rfl rfl ?_)
        | refine RX.guard_true rfl rfl (by with_reducible rfl) (by first | omega | (with_reducible assumption)) ?_
        | refine RX.guard_false rfl rfl (by with_reducible rfl) (by first | omega | (with_reducible assumption)) ?_
        | refine RX.nil ?_
        | refine RX.then_normal ?_
        | refine RX.seq ?_
        | refine RX.region ?_
        | refine RX.cond_true rfl (by with_reducible rfl) ?_
        | refine RX.cond_false rfl (by with_reducible rfl) ?_
        | refine RX.skip ?_
        | refine RX.block ?_
        | refine RX.inBlock_normal ?_
        | refine RX.exit ?_
        | refine RX.then_exit ?_
        | refine RX.inBlock_exit ?_
        | refine RX.inBlock_other rfl ?_
        | refine RX.ret ?_
        | refine RX.then_ret ?_
        | refine RX.inBlock_ret ?_
        | refine RX.unwanted (by first | exact RX.barred_t rfl rfl rfl (by with_reducible rfl) | exact RX.barred_f rfl rfl rfl (by with_reducible rfl)) rfl ?_
        | refine RX.unwanted_none (by first | exact RX.barred_t rfl rfl rfl (by with_reducible rfl) | exact RX.barred_f rfl rfl rfl (by with_reducible rfl)) ?_
        | refine RX.cond rfl (fun h => absurd h (by first | omega | (with_reducible assumption))) (fun _ => ?_)
        | refine RX.cond rfl (fun _ => ?_) (fun h => absurd (by first | omega | (with_reducible assumption)) h))
      exact ret1 rfl rfl ⟨rfl, (hw _ _ hu2 hu3).trans hu4 (fun _ _ h => h) (fun _ _ h => h)⟩
    · have hj1 : L.1 = false := by rw [hjr]; rw [decide_eq_false_iff_not]; omega
      have hl1 : (decide (least L.2 a = -1) == decide (max 0 n ≤ a)) = true := by rw [hm, beq_iff_eq, decide_eq_decide]; constructor <;> intro h <;> first | omega | exact hln (by omega) | exact absurd h (hlt (by omega))
      rw [hj1] at hjoin
      repeat (first
        | (refine RX.opw (by first | exact RX.plain rfl | exact RX.guarded rfl rfl rfl (by with_reducible rfl)) ?_; first | refine RX.soft (RX.move rfl) rfl ?_ | refine RX.soft (RX.assign rfl) rfl ?_ | refine RX.soft (RX.nilCheck_ptr rfl) rfl ?_ | refine RX.soft (RX.fieldAddr0 rfl) rfl ?_ | refine RX.soft (RX.fieldAddrH rfl) rfl ?_ | refine RX.soft (RX.fieldAddr rfl) rfl ?_ | refine RX.soft (RX.load_at rfl (by assumption)) rfl ?_ | refine RX.soft (RX.lookup_at rfl rfl (by assumption)) rfl ?_ | (refine RX.isBin ?_; first | refine RX.soft (RX.lss rfl rfl) rfl ?_ | refine RX.soft (RX.eql rfl rfl) rfl ?_ | refine RX.soft (RX.neq rfl rfl) rfl ?_ | refine RX.soft (RX.geq rfl rfl) rfl ?_ | refine RX.soft (RX.gtr rfl rfl) rfl ?_ | refine RX.soft (RX.leq rfl rfl) rfl ?_ | refine RX.soft (RX.add_one rfl rfl (by omega)) rfl ?_ | refine RX.soft (RX.add_in rfl rfl (by omega)) rfl ?_ | refine RX.soft (RX.sub_in rfl rfl (by omega)) rfl ?_ | refine RX.soft (RX.eql_ptr_nil rfl rfl) rfl ?_ | refine RX.soft (RX.eql_nil_nil rfl rfl) rfl ?_ | refine RX.soft (RX.neq_ptr_nil rfl rfl) rfl ?_ | refine RX.soft (RX.neq_nil_nil rfl rfl) rfl ?_ | refine RX.soft (RX.eql_same rfl rfl (by with_reducible rfl)) rfl ?_ | refine RX.soft (RX.eql_tf rfl rfl (by with_reducible rfl) (by with_reducible rfl)) rfl ?_ | refine RX.soft (RX.eql_ft rfl rfl (by with_reducible rfl) (by with_reducible rfl)) rfl ?_ | refine RX.soft (RX.neq_same rfl rfl (by with_reducible rfl)) rfl ?_ | refine RX.soft (RX.neq_tf rfl rfl (by with_reducible rfl) (by with_reducible rfl)) rfl ?_ | refine RX.soft (RX.neq_ft rfl rfl (by with_reducible rfl) (by with_reducible rfl)) rfl ?_ | refine RX.soft (RX.eql_bool rfl rfl) rfl ?_ | refine RX.soft (RX.neq_bool rfl rfl) rfl ?_) | (refine RX.isCall ?_; first | refine RX.soft (RX.len_slice rfl) rfl ?_ | refine RX.soft (RX.max2 rfl rfl) rfl ?_ | refine RX.soft (RX.min2 rfl rfl) rfl ?_) | refine RX.soft (RX.indexAddr1 rfl rfl (by omega)) rfl ?_ | refine RX.soft (RX.indexAddrO rfl rfl (by omega)) rfl ?_ | refine RX.soft (RX.indexAddrS rfl rfl (by omega)) rfl ?_ | refine RX.soft (RX.pick_true rfl (by with_reducible rfl) rfl) rfl ?_ | refine RX.soft (RX.pick_false rfl (by with_reducible rfl) rfl) rfl ?_ | refine RX.soft (RX.not_t rfl (by with_reducible rfl)) rfl ?_ | refine RX.soft (RX.not_f rfl (by with_reducible rfl)) rfl ?_ | refine RX.soft (RX.not rfl) rfl ?_ | refine RX.soft (RX.extract rfl rfl) rfl ?_ | refine RX.soft (RX.build rfl (by intro w; simp [Instr.build, Instr.fill] <;> rfl)) rfl ?_ | refine RX.slice_one rfl rfl rfl rfl ?_)
        | refine RX.guard_true rfl rfl (by with_reducible rfl) (by first | omega | (with_reducible assumption)) ?_
        | refine RX.guard_false rfl rfl (by with_reducible rfl) (by first | omega | (with_reducible assumption)) ?_
        | refine RX.nil ?_
        | refine RX.then_normal ?_
        | refine RX.seq ?_
        | refine RX.region ?_
        | refine RX.cond_true rfl (by with_reducible rfl) ?_
        | refine RX.cond_false rfl (by with_reducible rfl) ?_
        | refine RX.skip ?_
        | refine RX.block ?_
        | refine RX.inBlock_normal ?_
        | refine RX.exit ?_
        | refine RX.then_exit ?_
        | refine RX.inBlock_exit ?_
        | refine RX.inBlock_other rfl ?_
        | refine RX.ret ?_
        | refine RX.then_ret ?_
        | refine RX.inBlock_ret ?_
        | refine RX.unwanted (by first | exact RX.barred_t rfl rfl rfl (by with_reducible rfl) | exact RX.barred_f rfl rfl rfl (by with_reducible rfl)) rfl ?_
        | refine RX.unwanted_none (by first | exact RX.barred_t rfl rfl rfl (by with_reducible rfl) | exact RX.barred_f rfl rfl rfl (by with_reducible rfl)) ?_
        | refine RX.cond rfl (fun h => absurd h (by first | omega | (with_reducible assumption))) (fun _ => ?_)
        | refine RX.cond rfl (fun _ => ?_) (fun h => absurd (by first | omega | (with_reducible assumption)) h))
      refine RX.opw (by first | exact RX.plain rfl | exact RX.guarded rfl rfl rfl (by with_reducible rfl)) ?_
      refine call rfl hjoin rfl ?_
      rintro e w2 ⟨rfl, hf2, hu2⟩; refine ⟨_, rfl, ?_⟩
      repeat (first
        | (refine RX.opw (by first | exact RX.plain rfl | exact RX.guarded rfl rfl rfl (by with_reducible rfl)) ?_; first | refine RX.soft (RX.move rfl) rfl ?_ | refine RX.soft (RX.assign rfl) rfl ?_ | refine RX.soft (RX.nilCheck_ptr rfl) rfl ?_ | refine RX.soft (RX.fieldAddr0 rfl) rfl ?_ | refine RX.soft (RX.fieldAddrH rfl) rfl ?_ | refine RX.soft (RX.fieldAddr rfl) rfl ?_ | refine RX.soft (RX.load_at rfl (by assumption)) rfl ?_ | refine RX.soft (RX.lookup_at rfl rfl (by assumption)) rfl ?_ | (refine RX.isBin ?_; first | refine RX.soft (RX.lss rfl rfl) rfl ?_ | refine RX.soft (RX.eql rfl rfl) rfl ?_ | refine RX.soft (RX.neq rfl rfl) rfl ?_ | refine RX.soft (RX.geq rfl rfl) rfl ?_ | refine RX.soft (RX.gtr rfl rfl) rfl ?_ | refine RX.soft (RX.leq rfl rfl) rfl ?_ | refine RX.soft (RX.add_one rfl rfl (by omega)) rfl ?_ | refine RX.soft (RX.add_in rfl rfl (by omega)) rfl ?_ | refine RX.soft (RX.sub_in rfl rfl (by omega)) rfl ?_ | refine RX.soft (RX.eql_ptr_nil rfl rfl) rfl ?_ | refine RX.soft (RX.eql_nil_nil rfl rfl) rfl ?_ | refine RX.soft (RX.neq_ptr_nil rfl rfl) rfl ?_ | refine RX.soft (RX.neq_nil_nil rfl rfl) rfl ?_ | refine RX.soft (RX.eql_same rfl rfl (by with_reducible rfl)) rfl ?_ | refine RX.soft (RX.eql_tf rfl rfl (by with_reducible rfl) (by with_reducible rfl)) rfl ?_ | refine RX.soft (RX.eql_ft rfl rfl (by with_reducible rfl) (by with_reducible rfl)) rfl ?_ | refine RX.soft (RX.neq_same rfl rfl (by with_reducible rfl)) rfl ?_ | refine RX.soft (RX.neq_tf rfl rfl (by with_reducible rfl) (by with_reducible rfl)) rfl ?_ | refine RX.soft (RX.neq_ft rfl rfl (by with_reducible rfl) (by with_reducible rfl)) rfl ?_ | refine RX.soft (RX.eql_bool rfl rfl) rfl ?_ | refine RX.soft (RX.neq_bool rfl rfl) rfl ?_) | (refine RX.isCall ?_; first | refine RX.soft (RX.len_slice rfl) rfl ?_ | refine RX.soft (RX.max2 rfl rfl) rfl ?_ | refine RX.soft (RX.min2 rfl rfl) rfl ?_) | refine RX.soft (RX.indexAddr1 rfl rfl (by omega)) rfl ?_ | refine RX.soft (RX.indexAddrO rfl rfl (by omega)) rfl ?_ | refine RX.soft (RX.indexAddrS rfl rfl (by omega)) rfl ?_ | refine RX.soft (RX.pick_true rfl (by with_reducible rfl) rfl) rfl ?_ | refine RX.soft (RX.pick_false rfl (by with_reducible rfl) rfl) rfl ?_ | refine RX.soft (RX.not_t rfl (by with_reducible rfl)) rfl ?_ | refine RX.soft (RX.not_f rfl (by with_reducible rfl)) rfl ?_ | refine RX.soft (RX.not rfl) rfl ?_ | refine RX.soft (RX.extract rfl rfl) rfl ?_ | refine RX.soft (RX.build rfl (by intro w; simp [Instr.build, Instr.fill] <;> rfl)) rfl ?_ | refine RX.slice_one rfl rfl rfl rfl ?_)
        | refine RX.guard_true rfl rfl (by with_reducible rfl) (by first | omega | (with_reducible assumption)) ?_
        | refine RX.guard_false rfl rfl (by with_reducible rfl) (by first | omega | (with_reducible assumption)) ?_
        | refine RX.nil ?_
        | refine RX.then_normal ?_
        | refine RX.seq ?_
        | refine RX.region ?_
        | refine RX.cond_true rfl (by with_reducible rfl) ?_
        | refine RX.cond_false rfl (by with_reducible rfl) ?_
        | refine RX.skip ?_
        | refine RX.block ?_
        | refine RX.inBlock_normal ?_
        | refine RX.exit ?_
        | refine RX.then_exit ?_
        | refine RX.inBlock_exit ?_
        | refine RX.inBlock_other rfl ?_
        | refine RX.ret ?_
        | refine RX.then_ret ?_
        | refine RX.inBlock_ret ?_
        | refine RX.unwanted (by first | exact RX.barred_t rfl rfl rfl (by with_reducible rfl) | exact RX.barred_f rfl rfl rfl (by with_reducible rfl)) rfl ?_
        | refine RX.unwanted_none (by first | exact RX.barred_t rfl rfl rfl (by with_reducible rfl) | exact RX.barred_f rfl rfl rfl (by with_reducible rfl)) ?_
        | refine RX.cond rfl (fun h => absurd h (by first | omega | (with_reducible assumption))) (fun _ => ?_)
        | refine RX.cond rfl (fun _ => ?_) (fun h => absurd (by first | omega | (with_reducible assumption)) h))
      refine RX.opw (by first | exact RX.plain rfl | exact RX.guarded rfl rfl rfl (by with_reducible rfl)) ?_
      refine call rfl (least_any a _ pb b1 _ hf2) rfl ?_
      rintro e w3 ⟨rfl, hf3, hu3⟩; refine ⟨_, rfl, ?_⟩
      repeat (first
        | (refine RX.opw (by first | exact RX.plain rfl | exact RX.guarded rfl rfl rfl (by with_reducible rfl)) ?_; first | refine RX.soft (RX.move rfl) rfl ?_ | refine RX.soft (RX.assign rfl) rfl ?_ | refine RX.soft (RX.nilCheck_ptr rfl) rfl ?_ | refine RX.soft (RX.fieldAddr0 rfl) rfl ?_ | refine RX.soft (RX.fieldAddrH rfl) rfl ?_ | refine RX.soft (RX.fieldAddr rfl) rfl ?_ | refine RX.soft (RX.load_at rfl (by assumption)) rfl ?_ | refine RX.soft (RX.lookup_at rfl rfl (by assumption)) rfl ?_ | (refine RX.isBin ?_; first | refine RX.soft (RX.lss rfl rfl) rfl ?_ | refine RX.soft (RX.eql rfl rfl) rfl ?_ | refine RX.soft (RX.neq rfl rfl) rfl ?_ | refine RX.soft (RX.geq rfl rfl) rfl ?_ | refine RX.soft (RX.gtr rfl rfl) rfl ?_ | refine RX.soft (RX.leq rfl rfl) rfl ?_ | refine RX.soft (RX.add_one rfl rfl (by omega)) rfl ?_ | refine RX.soft (RX.add_in rfl rfl (by omega)) rfl ?_ | refine RX.soft (RX.sub_in rfl rfl (by omega)) rfl ?_ | refine RX.soft (RX.eql_ptr_nil rfl rfl) rfl ?_ | refine RX.soft (RX.eql_nil_nil rfl rfl) rfl ?_ | refine RX.soft (RX.neq_ptr_nil rfl rfl) rfl ?_ | refine RX.soft (RX.neq_nil_nil rfl rfl) rfl ?_ | refine RX.soft (RX.eql_same rfl rfl (by with_reducible rfl)) rfl ?_ | refine RX.soft (RX.eql_tf rfl rfl (by with_reducible rfl) (by with_reducible rfl)) rfl ?_ | refine RX.soft (RX.eql_ft rfl rfl (by with_reducible rfl) (by with_reducible rfl)) rfl ?_ | refine RX.soft (RX.neq_same rfl rfl (by with_reducible rfl)) rfl ?_ | refine RX.soft (RX.neq_tf rfl rfl (by with_reducible rfl) (by with_reducible rfl)) rfl ?_ | refine RX.soft (RX.neq_ft rfl rfl (by with_reducible rfl) (by with_reducible rfl)) rfl ?_ | refine RX.soft (RX.eql_bool rfl rfl) rfl ?_ | refine RX.soft (RX.neq_bool rfl rfl) rfl ?_) | (refine RX.isCall ?_; first | refine RX.soft (RX.len_slice rfl) rfl ?_ | refine RX.soft (RX.max2 rfl rfl) rfl ?_ | refine RX.soft (RX.min2 rfl rfl) rfl ?_) | refine RX.soft (RX.indexAddr1 rfl rfl (by omega)) rfl ?_ | refine RX.soft (RX.indexAddrO rfl rfl (by omega)) rfl ?_ | refine RX.soft (RX.indexAddrS rfl rfl (by omega)) rfl ?_ | refine RX.soft (RX.pick_true rfl (by with_reducible rfl) rfl) rfl ?_ | refine RX.soft (RX.pick_false rfl (by with_reducible rfl) rfl) rfl ?_ | refine RX.soft (RX.not_t rfl (by with_reducible rfl)) rfl ?_ | refine RX.soft (RX.not_f rfl (by with_reducible rfl)) rfl ?_ | refine RX.soft (RX.not rfl) rfl ?_ | refine RX.soft (RX.extract rfl rfl) rfl ?_ | refine RX.soft (RX.build rfl (by intro w; simp [Instr.build, Instr.fill] <;> rfl)) rfl ?_ | refine RX.slice_one rfl rfl rfl rfl ?_)
        | refine RX.guard_true rfl rfl (by with_reducible rfl) (by first | omega | (with_reducible assumption)) ?_
        | refine RX.guard_false rfl rfl (by with_reducible rfl) (by first | omega | (with_reducible assumption)) ?_
        | refine RX.nil ?_
        | refine RX.then_normal ?_
        | refine RX.seq ?_
        | refine RX.region ?_
        | refine RX.cond_true rfl (by with_reducible rfl) ?_
        | refine RX.cond_false rfl (by with_reducible rfl) ?_
        | refine RX.skip ?_
        | refine RX.block ?_
        | refine RX.inBlock_normal ?_
        | refine RX.exit ?_
        | refine RX.then_exit ?_
        | refine RX.inBlock_exit ?_
        | refine RX.inBlock_other rfl ?_
        | refine RX.ret ?_
        | refine RX.then_ret ?_
        | refine RX.inBlock_ret ?_
        | refine RX.unwanted (by first | exact RX.barred_t rfl rfl rfl (by with_reducible rfl) | exact RX.barred_f rfl rfl rfl (by with_reducible rfl)) rfl ?_
        | refine RX.unwanted_none (by first | exact RX.barred_t rfl rfl rfl (by with_reducible rfl) | exact RX.barred_f rfl rfl rfl (by with_reducible rfl)) ?_
        | refine RX.cond rfl (fun h => absurd h (by first | omega | (with_reducible assumption))) (fun _ => ?_)
        | refine RX.cond rfl (fun _ => ?_) (fun h => absurd (by first | omega | (with_reducible assumption)) h))
      rw [hl1]
      repeat (first
        | (refine RX.opw (by first | exact RX.plain rfl | exact RX.guarded rfl rfl rfl (by with_reducible rfl)) ?_; first | refine RX.soft (RX.move rfl) rfl ?_ | refine RX.soft (RX.assign rfl) rfl ?_ | refine RX.soft (RX.nilCheck_ptr rfl) rfl ?_ | refine RX.soft (RX.fieldAddr0 rfl) rfl ?_ | refine RX.soft (RX.fieldAddrH rfl) rfl ?_ | refine RX.soft (RX.fieldAddr rfl) rfl ?_ | refine RX.soft (RX.load_at rfl (by assumption)) rfl ?_ | refine RX.soft (RX.lookup_at rfl rfl (by assumption)) rfl ?_ | (refine RX.isBin ?_; first | refine RX.soft (RX.lss rfl rfl) rfl ?_ | refine RX.soft (RX.eql rfl rfl) rfl ?_ | refine RX.soft (RX.neq rfl rfl) rfl ?_ | refine RX.soft (RX.geq rfl rfl) rfl ?_ | refine RX.soft (RX.gtr rfl rfl) rfl ?_ | refine RX.soft (RX.leq rfl rfl) rfl ?_ | refine RX.soft (RX.add_one rfl rfl (by omega)) rfl ?_ | refine RX.soft (RX.add_in rfl rfl (by omega)) rfl ?_ | refine RX.soft (RX.sub_in rfl rfl (by omega)) rfl ?_ | refine RX.soft (RX.eql_ptr_nil rfl rfl) rfl ?_ | refine RX.soft (RX.eql_nil_nil rfl rfl) rfl ?_ | refine RX.soft (RX.neq_ptr_nil rfl rfl) rfl ?_ | refine RX.soft (RX.neq_nil_nil rfl rfl) rfl ?_ | refine RX.soft (RX.eql_same rfl rfl (by with_reducible rfl)) rfl ?_ | refine RX.soft (RX.eql_tf rfl rfl (by with_reducible rfl) (by with_reducible rfl)) rfl ?_ | refine RX.soft (RX.eql_ft rfl rfl (by with_reducible rfl) (by with_reducible rfl)) rfl ?_ | refine RX.soft (RX.neq_same rfl rfl (by with_reducible rfl)) rfl ?_ | refine RX.soft (RX.neq_tf rfl rfl (by with_reducible rfl) (by with_reducible rfl)) rfl ?_ | refine RX.soft (RX.neq_ft rfl rfl (by with_reducible rfl) (by with_reducible rfl)) rfl ?_ | refine RX.soft (RX.eql_bool rfl rfl) rfl ?_ | refine RX.soft (RX.neq_bool rfl rfl) rfl ?_) | (refine RX.isCall ?_; first | refine RX.soft (RX.len_slice rfl) rfl ?_ | refine RX.soft (RX.max2 rfl rfl) rfl ?_ | refine RX.soft (RX.min2 rfl rfl) rfl ?_) | refine RX.soft (RX.indexAddr1 rfl rfl (by omega)) rfl ?_ | refine RX.soft (RX.indexAddrO rfl rfl (by omega)) rfl ?_ | refine RX.soft (RX.indexAddrS rfl rfl (by omega)) rfl ?_ | refine RX.soft (RX.pick_true rfl (by with_reducible rfl) rfl) rfl ?_ | refine RX.soft (RX.pick_false rfl (by with_reducible rfl) rfl) rfl ?_ | refine RX.soft (RX.not_t rfl (by with_reducible rfl)) rfl ?_ | refine RX.soft (RX.not_f rfl (by with_reducible rfl)) rfl ?_ | refine RX.soft (RX.not rfl) rfl ?_ | refine RX.soft (RX.extract rfl rfl) rfl ?_ | refine RX.soft (RX.build rfl (by intro w; simp [Instr.build, Instr.fill] <;> rfl)) rfl ?_ | refine RX.slice_one rfl rfl rfl rfl ?_)
        | refine RX.guard_true rfl rfl (by with_reducible rfl) (by first | omega | (with_reducible assumption)) ?_
        | refine RX.guard_false rfl rfl (by with_reducible rfl) (by first | omega | (with_reducible assumption)) ?_
        | refine RX.nil ?_
        | refine RX.then_normal ?_
        | refine RX.seq ?_
        | refine RX.region ?_
        | refine RX.cond_true rfl (by with_reducible rfl) ?_
        | refine RX.cond_false rfl (by with_reducible rfl) ?_
        | refine RX.skip ?_
        | refine RX.block ?_
        | refine RX.inBlock_normal ?_
        | refine RX.exit ?_
        | refine RX.then_exit ?_
        | refine RX.inBlock_exit ?_
        | refine RX.inBlock_other rfl ?_
        | refine RX.ret ?_
        | refine RX.then_ret ?_
        | refine RX.inBlock_ret ?_
        | refine RX.unwanted (by first | exact RX.barred_t rfl rfl rfl (by with_reducible rfl) | exact RX.barred_f rfl rfl rfl (by with_reducible rfl)) rfl ?_
        | refine RX.unwanted_none (by first | exact RX.barred_t rfl rfl rfl (by with_reducible rfl) | exact RX.barred_f rfl rfl rfl (by with_reducible rfl)) ?_
        | refine RX.cond rfl (fun h => absurd h (by first | omega | (with_reducible assumption))) (fun _ => ?_)
        | refine RX.cond rfl (fun _ => ?_) (fun h => absurd (by first | omega | (with_reducible assumption)) h))
      refine RX.opw (by first | exact RX.plain rfl | exact RX.guarded rfl rfl rfl (by with_reducible rfl)) ?_
      refine call rfl (known_any _) rfl ?_
      rintro e w4 ⟨rfl, hu4⟩; refine ⟨_, rfl, ?_⟩
      repeat (first
        | (refine RX.opw (by first | exact RX.plain rfl | exact RX.guarded rfl rfl rfl (by with_reducible rfl)) ?_; first | refine RX.soft (RX.move rfl) rfl ?_ | refine RX.soft (RX.assign rfl) rfl ?_ | refine RX.soft (RX.nilCheck_ptr rfl) rfl ?_ | refine RX.soft (RX.fieldAddr0 rfl) rfl ?_ | refine RX.soft (RX.fieldAddrH rfl) rfl ?_ | refine RX.soft (RX.fieldAddr rfl) rfl ?_ | refine RX.soft (RX.load_at rfl (by assumption)) rfl ?_ | refine RX.soft (RX.lookup_at rfl rfl (by assumption)) rfl ?_ | (refine RX.isBin ?_; first | refine RX.soft (RX.lss rfl rfl) rfl ?_ | refine RX.soft (RX.eql rfl rfl) rfl ?_ | refine RX.soft (RX.neq rfl rfl) rfl ?_ | refine RX.soft (RX.geq rfl rfl) rfl ?_ | refine RX.soft (RX.gtr rfl rfl) rfl ?_ | refine RX.soft (RX.leq rfl rfl) rfl ?_ | refine RX.soft (RX.add_one rfl rfl (by omega)) rfl ?_ | refine RX.soft (RX.add_in rfl rfl (by omega)) rfl ?_ | refine RX.soft (RX.sub_in rfl rfl (by omega)) rfl ?_ | refine RX.soft (RX.eql_ptr_nil rfl rfl) rfl ?_ | refine RX.soft (RX.eql_nil_nil rfl rfl) rfl ?_ | refine RX.soft (RX.neq_ptr_nil rfl rfl) rfl ?_ | refine RX.soft (RX.neq_nil_nil rfl rfl) rfl ?_ | refine RX.soft (RX.eql_same rfl rfl (by with_reducible rfl)) rfl ?_ | refine RX.soft (RX.eql_tf rfl rfl (by with_reducible rfl) (by with_reducible rfl)) rfl ?_ | refine RX.soft (RX.eql_ft rfl rfl (by with_reducible rfl) (by with_reducible rfl)) rfl ?_ | refine RX.soft (RX.neq_same rfl rfl (by with_reducible rfl)) rfl ?_ | refine RX.soft (RX.neq_tf rfl rfl (by with_reducible rfl) (by with_reducible rfl)) rfl ?_ | refine RX.soft (RX.neq_ft rfl rfl (by with_reducible rfl) (by with_reducible rfl)) rfl ?_ | refine RX.soft (RX.eql_bool rfl rfl) rfl ?_ | refine RX.soft (RX.neq_bool rfl rfl) rfl ?_) | (refine RX.isCall ?_; first | refine RX.soft (RX.len_slice rfl) rfl ?_ | refine RX.soft (RX.max2 rfl rfl) rfl ?_ | refine RX.soft (RX.min2 rfl rfl) rfl ?_) | refine RX.soft (RX.indexAddr1 rfl rfl (by omega)) rfl ?_ | refine RX.soft (RX.indexAddrO rfl rfl (by omega)) rfl ?_ | refine RX.soft (RX.indexAddrS rfl rfl (by omega)) rfl ?_ | refine RX.soft (RX.pick_true rfl (by with_reducible rfl) rfl) rfl ?_ | refine RX.soft (RX.pick_false rfl (by with_reducible rfl) rfl) rfl ?_ | refine RX.soft (RX.not_t rfl (by with_reducible rfl)) rfl ?_ | refine RX.soft (RX.not_f rfl (by with_reducible rfl)) rfl ?_ | refine RX.soft (RX.not rfl) rfl ?_ | refine RX.soft (RX.extract rfl rfl) rfl ?_ | refine RX.soft (RX.build rfl (by intro w; simp [Instr.build, Instr.fill] <;> rfl)) rfl ?_ | refine RX.slice_one rfl rfl rfl rfl ?_)
        | refine RX.guard_true rfl rfl (by with_reducible rfl) (by first | omega | (with_reducible assumption)) ?_
        | refine RX.guard_false rfl rfl (by with_reducible rfl) (by first | omega | (with_reducible assumption)) ?_
        | refine RX.nil ?_
        | refine RX.then_normal ?_
        | refine RX.seq ?_
        | refine RX.region ?_
        | refine RX.cond_true rfl (by with_reducible rfl) ?_
        | refine RX.cond_false rfl (by with_reducible rfl) ?_
        | refine RX.skip ?_
        | refine RX.block ?_
        | refine RX.inBlock_normal ?_
        | refine RX.exit ?_
        | refine RX.then_exit ?_
        | refine RX.inBlock_exit ?_
        | refine RX.inBlock_other rfl ?_
        | refine RX.ret ?_
        | refine RX.then_ret ?_
        | refine RX.inBlock_ret ?_
        | refine RX.unwanted (by first | exact RX.barred_t rfl rfl rfl (by with_reducible rfl) | exact RX.barred_f rfl rfl rfl (by with_reducible rfl)) rfl ?_
        | refine RX.unwanted_none (by first | exact RX.barred_t rfl rfl rfl (by with_reducible rfl) | exact RX.barred_f rfl rfl rfl (by with_reducible rfl)) ?_
        | refine RX.cond rfl (fun h => absurd h (by first | omega | (with_reducible assumption))) (fun _ => ?_)
        | refine RX.cond rfl (fun _ => ?_) (fun h => absurd (by first | omega | (with_reducible assumption)) h))
      exact ret1 rfl rfl ⟨rfl, (hw _ _ hu2 hu3).trans hu4 (fun _ _ h => h) (fun _ _ h => h)⟩
    · have hj1 : L.1 = false := by rw [hjr]; rw [decide_eq_false_iff_not]; omega
      have hl1 : (decide (least L.2 a = -1) == decide (max 0 n ≤ a)) = true := by rw [hm, beq_iff_eq, decide_eq_decide]; constructor <;> intro h <;> first | omega | exact hln (by omega) | exact absurd h (hlt (by omega))
      rw [hj1] at hjoin
      repeat (first
        | (refine RX.opw (by first | exact RX.plain rfl | exact RX.guarded rfl rfl rfl (by with_reducible rfl)) ?_; first | refine RX.soft (RX.move rfl) rfl ?_ | refine RX.soft (RX.assign rfl) rfl ?_ | refine RX.soft (RX.nilCheck_ptr rfl) rfl ?_ | refine RX.soft (RX.fieldAddr0 rfl) rfl ?_ | refine RX.soft (RX.fieldAddrH rfl) rfl ?_ | refine RX.soft (RX.fieldAddr rfl) rfl ?_ | refine RX.soft (RX.load_at rfl (by assumption)) rfl ?_ | refine RX.soft (RX.lookup_at rfl rfl (by assumption)) rfl ?_ | (refine RX.isBin ?_; first | refine RX.soft (RX.lss rfl rfl) rfl ?_ | refine RX.soft (RX.eql rfl rfl) rfl ?_ | refine RX.soft (RX.neq rfl rfl) rfl ?_ | refine RX.soft (RX.geq rfl rfl) rfl ?_ | refine RX.soft (RX.gtr rfl rfl) rfl ?_ | refine RX.soft (RX.leq rfl rfl) rfl ?_ | refine RX.soft (RX.add_one rfl rfl (by omega)) rfl ?_ | refine RX.soft (RX.add_in rfl rfl (by omega)) rfl ?_ | refine RX.soft (RX.sub_in rfl rfl (by omega)) rfl ?_ | refine RX.soft (RX.eql_ptr_nil rfl rfl) rfl ?_ | refine RX.soft (RX.eql_nil_nil rfl rfl) rfl ?_ | refine RX.soft (RX.neq_ptr_nil rfl rfl) rfl ?_ | refine RX.soft (RX.neq_nil_nil rfl rfl) rfl ?_ | refine RX.soft (RX.eql_same rfl rfl (by with_reducible rfl)) rfl ?_ | refine RX.soft (RX.eql_tf rfl rfl (by with_reducible rfl) (by with_reducible rfl)) rfl ?_ | refine RX.soft (RX.eql_ft rfl rfl (by with_reducible rfl) (by with_reducible rfl)) rfl ?_ | refine RX.soft (RX.neq_same rfl rfl (by with_reducible rfl)) rfl ?_ | refine RX.soft (RX.neq_tf rfl rfl (by with_reducible rfl) (by with_reducible rfl)) rfl ?_ | refine RX.soft (RX.neq_ft rfl rfl (by with_reducible rfl) (by with_reducible rfl)) rfl ?_ | refine RX.soft (RX.eql_bool rfl rfl) rfl ?_ | refine RX.soft (RX.neq_bool rfl rfl) rfl ?_) | (refine RX.isCall ?_; first | refine RX.soft (RX.len_slice rfl) rfl ?_ | refine RX.soft (RX.max2 rfl rfl) rfl ?_ | refine RX.soft (RX.min2 rfl rfl) rfl ?_) | refine RX.soft (RX.indexAddr1 rfl rfl (by omega)) rfl ?_ | refine RX.soft (RX.indexAddrO rfl rfl (by omega)) rfl ?_ | refine RX.soft (RX.indexAddrS rfl rfl (by omega)) rfl ?_ | refine RX.soft (RX.pick_true rfl (by with_reducible rfl) rfl) rfl ?_ | refine RX.soft (RX.pick_false rfl (by with_reducible rfl) rfl) rfl ?_ | refine RX.soft (RX.not_t rfl (by with_reducible rfl)) rfl ?_ | refine RX.soft (RX.not_f rfl (by with_reducible rfl)) rfl ?_ | refine RX.soft (RX.not rfl) rfl ?_ | refine RX.soft (RX.extract rfl rfl) rfl ?_ | refine RX.soft (RX.build rfl (by intro w; simp [Instr.build, Instr.fill] <;> rfl)) rfl ?_ | refine RX.slice_one rfl rfl rfl rfl ?_)
        | refine RX.guard_true rfl rfl (by with_reducible rfl) (by first | omega | (with_reducible assumption)) ?_
        | refine RX.guard_false rfl rfl (by with_reducible rfl) (by first | omega | (with_reducible assumption)) ?_
        | refine RX.nil ?_
        | refine RX.then_normal ?_
        | refine RX.seq ?_
        | refine RX.region ?_
        | refine RX.cond_true rfl (by with_reducible rfl) ?_
        | refine RX.cond_false rfl (by with_reducible rfl) ?_
        | refine RX.skip ?_
        | refine RX.block ?_
        | refine RX.inBlock_normal ?_
        | refine RX.exit ?_
        | refine RX.then_exit ?_
        | refine RX.inBlock_exit ?_
        | refine RX.inBlock_other rfl ?_
        | refine RX.ret ?_
        | refine RX.then_ret ?_
        | refine RX.inBlock_ret ?_
        | refine RX.unwanted (by first | exact RX.barred_t rfl rfl rfl (by with_reducible rfl) | exact RX.barred_f rfl rfl rfl (by with_reducible rfl)) rfl ?_
        | refine RX.unwanted_none (by first | exact RX.barred_t rfl rfl rfl (by with_reducible rfl) | exact RX.barred_f rfl rfl rfl (by with_reducible rfl)) ?_
        | refine RX.cond rfl (fun h => absurd h (by first | omega | (with_reducible assumption))) (fun _ => ?_)
        | refine RX.cond rfl (fun _ => ?_) (fun h => absurd (by first | omega | (with_reducible assumption)) h))
      refine RX.opw (by first | exact RX.plain rfl | exact RX.guarded rfl rfl rfl (by with_reducible rfl)) ?_
      refine call rfl hjoin rfl ?_
      rintro e w2 ⟨rfl, hf2, hu2⟩; refine ⟨_, rfl, ?_⟩
      repeat (first
        | (refine RX.opw (by first | exact RX.plain rfl | exact RX.guarded rfl rfl rfl (by with_reducible rfl)) ?_; first | refine RX.soft (RX.move rfl) rfl ?_ | refine RX.soft (RX.assign rfl) rfl ?_ | refine RX.soft (RX.nilCheck_ptr rfl) rfl ?_ | refine RX.soft (RX.fieldAddr0 rfl) rfl ?_ | refine RX.soft (RX.fieldAddrH rfl) rfl ?_ | refine RX.soft (RX.fieldAddr rfl) rfl ?_ | refine RX.soft (RX.load_at rfl (by assumption)) rfl ?_ | refine RX.soft (RX.lookup_at rfl rfl (by assumption)) rfl ?_ | (refine RX.isBin ?_; first | refine RX.soft (RX.lss rfl rfl) rfl ?_ | refine RX.soft (RX.eql rfl rfl) rfl ?_ | refine RX.soft (RX.neq rfl rfl) rfl ?_ | refine RX.soft (RX.geq rfl rfl) rfl ?_ | refine RX.soft (RX.gtr rfl rfl) rfl ?_ | refine RX.soft (RX.leq rfl rfl) rfl ?_ | refine RX.soft (RX.add_one rfl rfl (by omega)) rfl ?_ | refine RX.soft (RX.add_in rfl rfl (by omega)) rfl ?_ | refine RX.soft (RX.sub_in rfl rfl (by omega)) rfl ?_ | refine RX.soft (RX.eql_ptr_nil rfl rfl) rfl ?_ | refine RX.soft (RX.eql_nil_nil rfl rfl) rfl ?_ | refine RX.soft (RX.neq_ptr_nil rfl rfl) rfl ?_ | refine RX.soft (RX.neq_nil_nil rfl rfl) rfl ?_ | refine RX.soft (RX.eql_same rfl rfl (by with_reducible rfl)) rfl ?_ | refine RX.soft (RX.eql_tf rfl rfl (by with_reducible rfl) (by with_reducible rfl)) rfl ?_ | refine RX.soft (RX.eql_ft rfl rfl (by with_reducible rfl) (by with_reducible rfl)) rfl ?_ | refine RX.soft (RX.neq_same rfl rfl (by with_reducible rfl)) rfl ?_ | refine RX.soft (RX.neq_tf rfl rfl (by with_reducible rfl) (by with_reducible rfl)) rfl ?_ | refine RX.soft (RX.neq_ft rfl rfl (by with_reducible rfl) (by with_reducible rfl)) rfl ?_ | refine RX.soft (RX.eql_bool rfl rfl) rfl ?_ | refine RX.soft (RX.neq_bool rfl rfl) rfl ?_) | (refine RX.isCall ?_; first | refine RX.soft (RX.len_slice rfl) rfl ?_ | refine RX.soft (RX.max2 rfl rfl) rfl ?_ | refine RX.soft (RX.min2 rfl rfl) rfl ?_) | refine RX.soft (RX.indexAddr1 rfl rfl (by omega)) rfl ?_ | refine RX.soft (RX.indexAddrO rfl rfl (by omega)) rfl ?_ | refine RX.soft (RX.indexAddrS rfl rfl (by omega)) rfl ?_ | refine RX.soft (RX.pick_true rfl (by with_reducible rfl) rfl) rfl ?_ | refine RX.soft (RX.pick_false rfl (by with_reducible rfl) rfl) rfl ?_ | refine RX.soft (RX.not_t rfl (by with_reducible rfl)) rfl ?_ | refine RX.soft (RX.not_f rfl (by with_reducible rfl)) rfl ?_ | refine RX.soft (RX.not rfl) rfl ?_ | refine RX.soft (RX.extract rfl rfl) rfl ?_ | refine RX.soft (RX.build rfl (by intro w; simp [Instr.build, Instr.fill] <;> rfl)) rfl ?_ | refine RX.slice_one rfl rfl rfl rfl ?_)
        | refine RX.guard_true rfl rfl (by with_reducible rfl) (by first | omega | (with_reducible assumption)) ?_
        | refine RX.guard_false rfl rfl (by with_reducible rfl) (by first | omega | (with_reducible assumption)) ?_
        | refine RX.nil ?_
        | refine RX.then_normal ?_
        | refine RX.seq ?_
        | refine RX.region ?_
        | refine RX.cond_true rfl (by with_reducible rfl) ?_
        | refine RX.cond_false rfl (by with_reducible rfl) ?_
        | refine RX.skip ?_
        | refine RX.block ?_
        | refine RX.inBlock_normal ?_
        | refine RX.exit ?_
        | refine RX.then_exit ?_
        | refine RX.inBlock_exit ?_
        | refine RX.inBlock_other rfl ?_
        | refine RX.ret ?_
        | refine RX.then_ret ?_
        | refine RX.inBlock_ret ?_
        | refine RX.unwanted (by first | exact RX.barred_t rfl rfl rfl (by with_reducible rfl) | exact RX.barred_f rfl rfl rfl (by with_reducible rfl)) rfl ?_
        | refine RX.unwanted_none (by first | exact RX.barred_t rfl rfl rfl (by with_reducible rfl) | exact RX.barred_f rfl rfl rfl (by with_reducible rfl)) ?_
        | refine RX.cond rfl (fun h => absurd h (by first | omega | (with_reducible assumption))) (fun _ => ?_)
        | refine RX.cond rfl (fun _ => ?_) (fun h => absurd (by first | omega | (with_reducible assumption)) h))
      refine RX.opw (by first | exact RX.plain rfl | exact RX.guarded rfl rfl rfl (by with_reducible rfl)) ?_
      refine call rfl (least_any a _ pb b1 _ hf2) rfl ?_
      rintro e w3 ⟨rfl, hf3, hu3⟩; refine ⟨_, rfl, ?_⟩
      repeat (first
        | (refine RX.opw (by first | exact RX.plain rfl | exact RX.guarded rfl rfl rfl (by with_reducible rfl)) ?_; first | refine RX.soft (RX.move rfl) rfl ?_ | refine RX.soft (RX.assign rfl) rfl ?_ | refine RX.soft (RX.nilCheck_ptr rfl) rfl ?_ | refine RX.soft (RX.fieldAddr0 rfl) rfl ?_ | refine RX.soft (RX.fieldAddrH rfl) rfl ?_ | refine RX.soft (RX.fieldAddr rfl) rfl ?_ | refine RX.soft (RX.load_at rfl (by assumption)) rfl ?_ | refine RX.soft (RX.lookup_at rfl rfl (by assumption)) rfl ?_ | (refine RX.isBin ?_; first | refine RX.soft (RX.lss rfl rfl) rfl ?_ | refine RX.soft (RX.eql rfl rfl) rfl ?_ | refine RX.soft (RX.neq rfl rfl) rfl ?_ | refine RX.soft (RX.geq rfl rfl) rfl ?_ | refine RX.soft (RX.gtr rfl rfl) rfl ?_ | refine RX.soft (RX.leq rfl rfl) rfl ?_ | refine RX.soft (RX.add_one rfl rfl (by omega)) rfl ?_ | refine RX.soft (RX.add_in rfl rfl (by omega)) rfl ?_ | refine RX.soft (RX.sub_in rfl rfl (by omega)) rfl ?_ | refine RX.soft (RX.eql_ptr_nil rfl rfl) rfl ?_ | refine RX.soft (RX.eql_nil_nil rfl rfl) rfl ?_ | refine RX.soft (RX.neq_ptr_nil rfl rfl) rfl ?_ | refine RX.soft (RX.neq_nil_nil rfl rfl) rfl ?_ | refine RX.soft (RX.eql_same rfl rfl (by with_reducible rfl)) rfl ?_ | refine RX.soft (RX.eql_tf rfl rfl (by with_reducible rfl) (by with_reducible rfl)) rfl ?_ | refine RX.soft (RX.eql_ft rfl rfl (by with_reducible rfl) (by with_reducible rfl)) rfl ?_ | refine RX.soft (RX.neq_same rfl rfl (by with_reducible rfl)) rfl ?_ | refine RX.soft (RX.neq_tf rfl rfl (by with_reducible rfl) (by with_reducible rfl)) rfl ?_ | refine RX.soft (RX.neq_ft rfl rfl (by with_reducible rfl) (by with_reducible rfl)) rfl ?_ | refine RX.soft (RX.eql_bool rfl rfl) rfl ?_ | refine RX.soft (RX.neq_bool rfl rfl) rfl ?_) | (refine RX.isCall ?_; first | refine RX.soft (RX.len_slice rfl) rfl ?_ | refine RX.soft (RX.max2 rfl rfl) rfl ?_ | refine RX.soft (RX.min2 rfl rfl) rfl ?_) | refine RX.soft (RX.indexAddr1 rfl rfl (by omega)) rfl ?_ | refine RX.soft (RX.indexAddrO rfl rfl (by omega)) rfl ?_ | refine RX.soft (RX.indexAddrS rfl rfl (by omega)) rfl ?_ | refine RX.soft (RX.pick_true rfl (by with_reducible rfl) rfl) rfl ?_ | refine RX.soft (RX.pick_false rfl (by with_reducible rfl) rfl) rfl ?_ | refine RX.soft (RX.not_t rfl (by with_reducible rfl)) rfl ?_ | refine RX.soft (RX.not_f rfl (by with_reducible rfl)) rfl ?_ | refine RX.soft (RX.not rfl) rfl ?_ | refine RX.soft (RX.extract rfl rfl) rfl ?_ | refine RX.soft (RX.build rfl (by intro w; simp [Instr.build, Instr.fill] <;> rfl)) rfl ?_ | refine RX.slice_one rfl rfl rfl rfl ?_)
        | refine RX.guard_true rfl rfl (by with_reducible rfl) (by first | omega | (with_reducible assumption)) ?_
        | refine RX.guard_false rfl rfl (by with_reducible rfl) (by first | omega | (with_reducible assumption)) ?_
        | refine RX.nil ?_
        | refine RX.then_normal ?_
        | refine RX.seq ?_
        | refine RX.region ?_
        | refine RX.cond_true rfl (by with_reducible rfl) ?_
        | refine RX.cond_false rfl (by with_reducible rfl) ?_
        | refine RX.skip ?_
        | refine RX.block ?_
        | refine RX.inBlock_normal ?_
        | refine RX.exit ?_
        | refine RX.then_exit ?_
        | refine RX.inBlock_exit ?_
        | refine RX.inBlock_other rfl ?_
        | refine RX.ret ?_
        | refine RX.then_ret ?_
        | refine RX.inBlock_ret ?_
        | refine RX.unwanted (by first | exact RX.barred_t rfl rfl rfl (by with_reducible rfl) | exact RX.barred_f rfl rfl rfl (by with_reducible rfl)) rfl ?_
        | refine RX.unwanted_none (by first | exact RX.barred_t rfl rfl rfl (by with_reducible rfl) | exact RX.barred_f rfl rfl rfl (by with_reducible rfl)) ?_
        | refine RX.cond rfl (fun h => absurd h (by first | omega | (with_reducible assumption))) (fun _ => ?_)
        | refine RX.cond rfl (fun _ => ?_) (fun h => absurd (by first | omega | (with_reducible assumption)) h))
      rw [hl1]
      repeat (first
        | (refine RX.opw (by first | exact RX.plain rfl | exact RX.guarded rfl rfl rfl (by with_reducible rfl)) ?_; first | refine RX.soft (RX.move rfl) rfl ?_ | refine RX.soft (RX.assign rfl) rfl ?_ | refine RX.soft (RX.nilCheck_ptr rfl) rfl ?_ | refine RX.soft (RX.fieldAddr0 rfl) rfl ?_ | refine RX.soft (RX.fieldAddrH rfl) rfl ?_ | refine RX.soft (RX.fieldAddr rfl) rfl ?_ | refine RX.soft (RX.load_at rfl (by assumption)) rfl ?_ | refine RX.soft (RX.lookup_at rfl rfl (by assumption)) rfl ?_ | (refine RX.isBin ?_; first | refine RX.soft (RX.lss rfl rfl) rfl ?_ | refine RX.soft (RX.eql rfl rfl) rfl ?_ | refine RX.soft (RX.neq rfl rfl) rfl ?_ | refine RX.soft (RX.geq rfl rfl) rfl ?_ | refine RX.soft (RX.gtr rfl rfl) rfl ?_ | refine RX.soft (RX.leq rfl rfl) rfl ?_ | refine RX.soft (RX.add_one rfl rfl (by omega)) rfl ?_ | refine RX.soft (RX.add_in rfl rfl (by omega)) rfl ?_ | refine RX.soft (RX.sub_in rfl rfl (by omega)) rfl ?_ | refine RX.soft (RX.eql_ptr_nil rfl rfl) rfl ?_ | refine RX.soft (RX.eql_nil_nil rfl rfl) rfl ?_ | refine RX.soft (RX.neq_ptr_nil rfl rfl) rfl ?_ | refine RX.soft (RX.neq_nil_nil rfl rfl) rfl ?_ | refine RX.soft (RX.eql_same rfl rfl (by with_reducible rfl)) rfl ?_ | refine RX.soft (RX.eql_tf rfl rfl (by with_reducible rfl) (by with_reducible rfl)) rfl ?_ | refine RX.soft (RX.eql_ft rfl rfl (by with_reducible rfl) (by with_reducible rfl)) rfl ?_ | refine RX.soft (RX.neq_same rfl rfl (by with_reducible rfl)) rfl ?_ | refine RX.soft (RX.neq_tf rfl rfl (by with_reducible rfl) (by with_reducible rfl)) rfl ?_ | refine RX.soft (RX.neq_ft rfl rfl (by with_reducible rfl) (by with_reducible rfl)) rfl ?_ | refine RX.soft (RX.eql_bool rfl rfl) rfl ?_ | refine RX.soft (RX.neq_bool rfl rfl) rfl ?_) | (refine RX.isCall ?_; first | refine RX.soft (RX.len_slice rfl) rfl ?_ | refine RX.soft (RX.max2 rfl rfl) rfl ?_ | refine RX.soft (RX.min2 rfl rfl) rfl ?_) | refine RX.soft (RX.indexAddr1 rfl rfl (by omega)) rfl ?_ | refine RX.soft (RX.indexAddrO rfl rfl (by omega)) rfl ?_ | refine RX.soft (RX.indexAddrS rfl rfl (by omega)) rfl ?_ | refine RX.soft (RX.pick_true rfl (by with_reducible rfl) rfl) rfl ?_ | refine RX.soft (RX.pick_false rfl (by with_reducible rfl) rfl) rfl ?_ | refine RX.soft (RX.not_t rfl (by with_reducible rfl)) rfl ?_ | refine RX.soft (RX.not_f rfl (by with_reducible rfl)) rfl ?_ | refine RX.soft (RX.not rfl) rfl ?_ | refine RX.soft (RX.extract rfl rfl) rfl ?_ | refine RX.soft (RX.build rfl (by intro w; simp [Instr.build, Instr.fill] <;> rfl)) rfl ?_ | refine RX.slice_one rfl rfl rfl rfl ?_)
        | refine RX.guard_true rfl rfl (by with_reducible rfl) (by first | omega | (with_reducible assumption)) ?_
        | refine RX.guard_false rfl rfl (by with_reducible rfl) (by first | omega | (with_reducible assumption)) ?_
        | refine RX.nil ?_
        | refine RX.then_normal ?_
        | refine RX.seq ?_
        | refine RX.region ?_
        | refine RX.cond_true rfl (by with_reducible rfl) ?_
        | refine RX.cond_false rfl (by with_reducible rfl) ?_
        | refine RX.skip ?_
        | refine RX.block ?_
        | refine RX.inBlock_normal ?_
        | refine RX.exit ?_
        | refine RX.then_exit ?_
        | refine RX.inBlock_exit ?_
        | refine RX.inBlock_other rfl ?_
        | refine RX.ret ?_
        | refine RX.then_ret ?_
        | refine RX.inBlock_ret ?_
        | refine RX.unwanted (by first | exact RX.barred_t rfl rfl rfl (by with_reducible rfl) | exact RX.barred_f rfl rfl rfl (by with_reducible rfl)) rfl ?_
        | refine RX.unwanted_none (by first | exact RX.barred_t rfl rfl rfl (by with_reducible rfl) | exact RX.barred_f rfl rfl rfl (by with_reducible rfl)) ?_
        | refine RX.cond rfl (fun h => absurd h (by first | omega | (with_reducible assumption))) (fun _ => ?_)
        | refine RX.cond rfl (fun _ => ?_) (fun h => absurd (by first | omega | (with_reducible assumption)) h))
      refine RX.opw (by first | exact RX.plain rfl | exact RX.guarded rfl rfl rfl (by with_reducible rfl)) ?_
      refine call rfl (known_any _) rfl ?_
      rintro e w4 ⟨rfl, hu4⟩; refine ⟨_, rfl, ?_⟩
      repeat (first
        | (refine RX.opw (by first | exact RX.plain rfl | exact RX.guarded rfl rfl rfl (by with_reducible rfl)) ?_; first | refine RX.soft (RX.move rfl) rfl ?_ | refine RX.soft (RX.assign rfl) rfl ?_ | refine RX.soft (RX.nilCheck_ptr rfl) rfl ?_ | refine RX.soft (RX.fieldAddr0 rfl) rfl ?_ | refine RX.soft (RX.fieldAddrH rfl) rfl ?_ | refine RX.soft (RX.fieldAddr rfl) rfl ?_ | refine RX.soft (RX.load_at rfl (by assumption)) rfl ?_ | refine RX.soft (RX.lookup_at rfl rfl (by assumption)) rfl ?_ | (refine RX.isBin ?_; first | refine RX.soft (RX.lss rfl rfl) rfl ?_ | refine RX.soft (RX.eql rfl rfl) rfl ?_ | refine RX.soft (RX.neq rfl rfl) rfl ?_ | refine RX.soft (RX.geq rfl rfl) rfl ?_ | refine RX.soft (RX.gtr rfl rfl) rfl ?_ | refine RX.soft (RX.leq rfl rfl) rfl ?_ | refine RX.soft (RX.add_one rfl rfl (by omega)) rfl ?_ | refine RX.soft (RX.add_in rfl rfl (by omega)) rfl ?_ | refine RX.soft (RX.sub_in rfl rfl (by omega)) rfl ?_ | refine RX.soft (RX.eql_ptr_nil rfl rfl) rfl ?_ | refine RX.soft (RX.eql_nil_nil rfl rfl) rfl ?_ | refine RX.soft (RX.neq_ptr_nil rfl rfl) rfl ?_ | refine RX.soft (RX.neq_nil_nil rfl rfl) rfl ?_ | refine RX.soft (RX.eql_same rfl rfl (by with_reducible rfl)) rfl ?_ | refine RX.soft (RX.eql_tf rfl rfl (by with_reducible rfl) (by with_reducible rfl)) rfl ?_ | refine RX.soft (RX.eql_ft rfl rfl (by with_reducible rfl) (by with_reducible rfl)) rfl ?_ | refine RX.soft (RX.neq_same rfl rfl (by with_reducible rfl)) rfl ?_ | refine RX.soft (RX.neq_tf rfl rfl (by with_reducible rfl) (by with_reducible rfl)) rfl ?_ | refine RX.soft (RX.neq_ft rfl rfl (by with_reducible rfl) (by with_reducible rfl)) rfl ?_ | refine RX.soft (RX.eql_bool rfl rfl) rfl ?_ | refine RX.soft (RX.neq_bool rfl rfl) rfl ?_) | (refine RX.isCall ?_; first | refine RX.soft (RX.len_slice rfl) rfl ?_ | refine RX.soft (RX.max2 rfl rfl) rfl ?_ | refine RX.soft (RX.min2 rfl rfl) rfl ?_) | refine RX.soft (RX.indexAddr1 rfl rfl (by omega)) rfl ?_ | refine RX.soft (RX.indexAddrO rfl rfl (by omega)) rfl ?_ | refine RX.soft (RX.indexAddrS rfl rfl (by omega)) rfl ?_ | refine RX.soft (RX.pick_true rfl (by with_reducible rfl) rfl) rfl ?_ | refine RX.soft (RX.pick_false rfl (by with_reducible rfl) rfl) rfl ?_ | refine RX.soft (RX.not_t rfl (by with_reducible rfl)) rfl ?_ | refine RX.soft (RX.not_f rfl (by with_reducible rfl)) rfl ?_ | refine RX.soft (RX.not rfl) rfl ?_ | refine RX.soft (RX.extract rfl rfl) rfl ?_ | refine RX.soft (RX.build rfl (by intro w; simp [Instr.build, Instr.fill] <;> rfl)) rfl ?_ | refine RX.slice_one rfl rfl rfl rfl ?_)
        | refine RX.guard_true rfl rfl (by with_reducible rfl) (by first | omega | (with_reducible assumption)) ?_
        | refine RX.guard_false rfl rfl (by with_reducible rfl) (by first | omega | (with_reducible assumption)) ?_
        | refine RX.nil ?_
        | refine RX.then_normal ?_
        | refine RX.seq ?_
        | refine RX.region ?_
        | refine RX.cond_true rfl (by with_reducible rfl) ?_
        | refine RX.cond_false rfl (by with_reducible rfl) ?_
        | refine RX.skip ?_
        | refine RX.block ?_
        | refine RX.inBlock_normal ?_
        | refine RX.exit ?_
        | refine RX.then_exit ?_
        | refine RX.inBlock_exit ?_
        | refine RX.inBlock_other rfl ?_
        | refine RX.ret ?_
        | refine RX.then_ret ?_
        | refine RX.inBlock_ret ?_
        | refine RX.unwanted (by first | exact RX.barred_t rfl rfl rfl (by with_reducible rfl) | exact RX.barred_f rfl rfl rfl (by with_reducible rfl)) rfl ?_
        | refine RX.unwanted_none (by first | exact RX.barred_t rfl rfl rfl (by with_reducible rfl) | exact RX.barred_f rfl rfl rfl (by with_reducible rfl)) ?_
        | refine RX.cond rfl (fun h => absurd h (by first | omega | (with_reducible assumption))) (fun _ => ?_)
        | refine RX.cond rfl (fun _ => ?_) (fun h => absurd (by first | omega | (with_reducible assumption)) h))
      exact ret1 rfl rfl ⟨rfl, (hw _ _ hu2 hu3).trans hu4 (fun _ _ h => h) (fun _ _ h => h)⟩
    · have hj1 : L.1 = decide (a ≠ b) := by rw [hjr]; rw [decide_eq_decide]; constructor <;> intro h2 <;> omega
      have hl1 : (decide (least L.2 a = -1) == decide (max 0 n ≤ a)) = true := by rw [hm, beq_iff_eq, decide_eq_decide]; constructor <;> intro h <;> first | omega | exact hln (by omega) | exact absurd h (hlt (by omega))
      rw [hj1] at hjoin
      repeat (first
        | (refine RX.opw (by first | exact RX.plain rfl | exact RX.guarded rfl rfl rfl (by with_reducible rfl)) ?_; first | refine RX.soft (RX.move rfl) rfl ?_ | refine RX.soft (RX.assign rfl) rfl ?_ | refine RX.soft (RX.nilCheck_ptr rfl) rfl ?_ | refine RX.soft (RX.fieldAddr0 rfl) rfl ?_ | refine RX.soft (RX.fieldAddrH rfl) rfl ?_ | refine RX.soft (RX.fieldAddr rfl) rfl ?_ | refine RX.soft (RX.load_at rfl (by assumption)) rfl ?_ | refine RX.soft (RX.lookup_at rfl rfl (by assumption)) rfl ?_ | (refine RX.isBin ?_; first | refine RX.soft (RX.lss rfl rfl) rfl ?_ | refine RX.soft (RX.eql rfl rfl) rfl ?_ | refine RX.soft (RX.neq rfl rfl) rfl ?_ | refine RX.soft (RX.geq rfl rfl) rfl ?_ | refine RX.soft (RX.gtr rfl rfl) rfl ?_ | refine RX.soft (RX.leq rfl rfl) rfl ?_ | refine RX.soft (RX.add_one rfl rfl (by omega)) rfl ?_ | refine RX.soft (RX.add_in rfl rfl (by omega)) rfl ?_ | refine RX.soft (RX.sub_in rfl rfl (by omega)) rfl ?_ | refine RX.soft (RX.eql_ptr_nil rfl rfl) rfl ?_ | refine RX.soft (RX.eql_nil_nil rfl rfl) rfl ?_ | refine RX.soft (RX.neq_ptr_nil rfl rfl) rfl ?_ | refine RX.soft (RX.neq_nil_nil rfl rfl) rfl ?_ | refine RX.soft (RX.eql_same rfl rfl (by with_reducible rfl)) rfl ?_ | refine RX.soft (RX.eql_tf rfl rfl (by with_reducible rfl) (by with_reducible rfl)) rfl ?_ | refine RX.soft (RX.eql_ft rfl rfl (by with_reducible rfl) (by with_reducible rfl)) rfl ?_ | refine RX.soft (RX.neq_same rfl rfl (by with_reducible rfl)) rfl ?_ | refine RX.soft (RX.neq_tf rfl rfl (by with_reducible rfl) (by with_reducible rfl)) rfl ?_ | refine RX.soft (RX.neq_ft rfl rfl (by with_reducible rfl) (by with_reducible rfl)) rfl ?_ | refine RX.soft (RX.eql_bool rfl rfl) rfl ?_ | refine RX.soft (RX.neq_bool rfl rfl) rfl ?_) | (refine RX.isCall ?_; first | refine RX.soft (RX.len_slice rfl) rfl ?_ | refine RX.soft (RX.max2 rfl rfl) rfl ?_ | refine RX.soft (RX.min2 rfl rfl) rfl ?_) | refine RX.soft (RX.indexAddr1 rfl rfl (by omega)) rfl ?_ | refine RX.soft (RX.indexAddrO rfl rfl (by omega)) rfl ?_ | refine RX.soft (RX.indexAddrS rfl rfl (by omega)) rfl ?_ | refine RX.soft (RX.pick_true rfl (by with_reducible rfl) rfl) rfl ?_ | refine RX.soft (RX.pick_false rfl (by with_reducible rfl) rfl) rfl ?_ | refine RX.soft (RX.not_t rfl (by with_reducible rfl)) rfl ?_ | refine RX.soft (RX.not_f rfl (by with_reducible rfl)) rfl ?_ | refine RX.soft (RX.not rfl) rfl ?_ | refine RX.soft (RX.extract rfl rfl) rfl ?_ | refine RX.soft (RX.build rfl (by intro w; simp [Instr.build, Instr.fill] <;> rfl)) rfl ?_ | refine RX.slice_one rfl rfl rfl rfl ?_)
        | refine RX.guard_true rfl rfl (by with_reducible rfl) (by first | omega | (with_reducible assumption)) ?_
        | refine RX.guard_false rfl rfl (by with_reducible rfl) (by first | omega | (with_reducible assumption)) ?_
        | refine RX.nil ?_
        | refine RX.then_normal ?_
        | refine RX.seq ?_
        | refine RX.region ?_
        | refine RX.cond_true rfl (by with_reducible rfl) ?_
        | refine RX.cond_false rfl (by with_reducible rfl) ?_
        | refine RX.skip ?_
        | refine RX.block ?_
        | refine RX.inBlock_normal ?_
        | refine RX.exit ?_
        | refine RX.then_exit ?_
        | refine RX.inBlock_exit ?_
        | refine RX.inBlock_other rfl ?_
        | refine RX.ret ?_
        | refine RX.then_ret ?_
        | refine RX.inBlock_ret ?_
        | refine RX.unwanted (by first | exact RX.barred_t rfl rfl rfl (by with_reducible rfl) | exact RX.barred_f rfl rfl rfl (by with_reducible rfl)) rfl ?_
        | refine RX.unwanted_none (by first | exact RX.barred_t rfl rfl rfl (by with_reducible rfl) | exact RX.barred_f rfl rfl rfl (by with_reducible rfl)) ?_
        | refine RX.cond rfl (fun h => absurd h (by first | omega | (with_reducible assumption))) (fun _ => ?_)
        | refine RX.cond rfl (fun _ => ?_) (fun h => absurd (by first | omega | (with_reducible assumption)) h))
      refine RX.opw (by first | exact RX.plain rfl | exact RX.guarded rfl rfl rfl (by with_reducible rfl)) ?_
      refine call rfl hjoin rfl ?_
      rintro e w2 ⟨rfl, hf2, hu2⟩; refine ⟨_, rfl, ?_⟩
      repeat (first
        | (refine RX.opw (by first | exact RX.plain rfl | exact RX.guarded rfl rfl rfl (by with_reducible rfl)) ?_; first | refine RX.soft (RX.move rfl) rfl ?_ | refine RX.soft (RX.assign rfl) rfl ?_ | refine RX.soft (RX.nilCheck_ptr rfl) rfl ?_ | refine RX.soft (RX.fieldAddr0 rfl) rfl ?_ | refine RX.soft (RX.fieldAddrH rfl) rfl ?_ | refine RX.soft (RX.fieldAddr rfl) rfl ?_ | refine RX.soft (RX.load_at rfl (by assumption)) rfl ?_ | refine RX.soft (RX.lookup_at rfl rfl (by assumption)) rfl ?_ | (refine RX.isBin ?_; first | refine RX.soft (RX.lss rfl rfl) rfl ?_ | refine RX.soft (RX.eql rfl rfl) rfl ?_ | refine RX.soft (RX.neq rfl rfl) rfl ?_ | refine RX.soft (RX.geq rfl rfl) rfl ?_ | refine RX.soft (RX.gtr rfl rfl) rfl ?_ | refine RX.soft (RX.leq rfl rfl) rfl ?_ | refine RX.soft (RX.add_one rfl rfl (by omega)) rfl ?_ | refine RX.soft (RX.add_in rfl rfl (by omega)) rfl ?_ | refine RX.soft (RX.sub_in rfl rfl (by omega)) rfl ?_ | refine RX.soft (RX.eql_ptr_nil rfl rfl) rfl ?_ | refine RX.soft (RX.eql_nil_nil rfl rfl) rfl ?_ | refine RX.soft (RX.neq_ptr_nil rfl rfl) rfl ?_ | refine RX.soft (RX.neq_nil_nil rfl rfl) rfl ?_ | refine RX.soft (RX.eql_same rfl rfl (by with_reducible rfl)) rfl ?_ | refine RX.soft (RX.eql_tf rfl rfl (by with_reducible rfl) (by with_reducible rfl)) rfl ?_ | refine RX.soft (RX.eql_ft rfl rfl (by with_reducible rfl) (by with_reducible rfl)) rfl ?_ | refine RX.soft (RX.neq_same rfl rfl (by with_reducible rfl)) rfl ?_ | refine RX.soft (RX.neq_tf rfl rfl (by with_reducible rfl) (by with_reducible rfl)) rfl ?_ | refine RX.soft (RX.neq_ft rfl rfl (by with_reducible rfl) (by with_reducible rfl)) rfl ?_ | refine RX.soft (RX.eql_bool rfl rfl) rfl ?_ | refine RX.soft (RX.neq_bool rfl rfl) rfl ?_) | (refine RX.isCall ?_; first | refine RX.soft (RX.len_slice rfl) rfl ?_ | refine RX.soft (RX.max2 rfl rfl) rfl ?_ | refine RX.soft (RX.min2 rfl rfl) rfl ?_) | refine RX.soft (RX.indexAddr1 rfl rfl (by omega)) rfl ?_ | refine RX.soft (RX.indexAddrO rfl rfl (by omega)) rfl ?_ | refine RX.soft (RX.indexAddrS rfl rfl (by omega)) rfl ?_ | refine RX.soft (RX.pick_true rfl (by with_reducible rfl) rfl) rfl ?_ | refine RX.soft (RX.pick_false rfl (by with_reducible rfl) rfl) rfl ?_ | refine RX.soft (RX.not_t rfl (by with_reducible rfl)) rfl ?_ | refine RX.soft (RX.not_f rfl (by with_reducible rfl)) rfl ?_ | refine RX.soft (RX.not rfl) rfl ?_ | refine RX.soft (RX.extract rfl rfl) rfl ?_ | refine RX.soft (RX.build rfl (by intro w; simp [Instr.build, Instr.fill] <;> rfl)) rfl ?_ | refine RX.slice_one rfl rfl rfl rfl ?_)
        | refine RX.guard_true rfl rfl (by with_reducible rfl) (by first | omega | (with_reducible assumption)) ?_
        | refine RX.guard_false rfl rfl (by with_reducible rfl) (by first | omega | (with_reducible assumption)) ?_
        | refine RX.nil ?_
        | refine RX.then_normal ?_
        | refine RX.seq ?_
        | refine RX.region ?_
        | refine RX.cond_true rfl (by with_reducible rfl) ?_
        | refine RX.cond_false rfl (by with_reducible rfl) ?_
        | refine RX.skip ?_
        | refine RX.block ?_
        | refine RX.inBlock_normal ?_
        | refine RX.exit ?_
        | refine RX.then_exit ?_
        | refine RX.inBlock_exit ?_
        | refine RX.inBlock_other rfl ?_
        | refine RX.ret ?_
        | refine RX.then_ret ?_
        | refine RX.inBlock_ret ?_
        | refine RX.unwanted (by first | exact RX.barred_t rfl rfl rfl (by with_reducible rfl) | exact RX.barred_f rfl rfl rfl (by with_reducible rfl)) rfl ?_
        | refine RX.unwanted_none (by first | exact RX.barred_t rfl rfl rfl (by with_reducible rfl) | exact RX.barred_f rfl rfl rfl (by with_reducible rfl)) ?_
        | refine RX.cond rfl (fun h => absurd h (by first | omega | (with_reducible assumption))) (fun _ => ?_)
        | refine RX.cond rfl (fun _ => ?_) (fun h => absurd (by first | omega | (with_reducible assumption)) h))
      refine RX.opw (by first | exact RX.plain rfl | exact RX.guarded rfl rfl rfl (by with_reducible rfl)) ?_
      refine call rfl (least_any a _ pb b1 _ hf2) rfl ?_
      rintro e w3 ⟨rfl, hf3, hu3⟩; refine ⟨_, rfl, ?_⟩
      repeat (first
        | (refine RX.opw (by first | exact RX.plain rfl | exact RX.guarded rfl rfl rfl (by with_reducible rfl)) ?_; first | refine RX.soft (RX.move rfl) rfl ?_ | refine RX.soft (RX.assign rfl) rfl ?_ | refine RX.soft (RX.nilCheck_ptr rfl) rfl ?_ | refine RX.soft (RX.fieldAddr0 rfl) rfl ?_ | refine RX.soft (RX.fieldAddrH rfl) rfl ?_ | refine RX.soft (RX.fieldAddr rfl) rfl ?_ | refine RX.soft (RX.load_at rfl (by assumption)) rfl ?_ | refine RX.soft (RX.lookup_at rfl rfl (by assumption)) rfl ?_ | (refine RX.isBin ?_; first | refine RX.soft (RX.lss rfl rfl) rfl ?_ | refine RX.soft (RX.eql rfl rfl) rfl ?_ | refine RX.soft (RX.neq rfl rfl) rfl ?_ | refine RX.soft (RX.geq rfl rfl) rfl ?_ | refine RX.soft (RX.gtr rfl rfl) rfl ?_ | refine RX.soft (RX.leq rfl rfl) rfl ?_ | refine RX.soft (RX.add_one rfl rfl (by omega)) rfl ?_ | refine RX.soft (RX.add_in rfl rfl (by omega)) rfl ?_ | refine RX.soft (RX.sub_in rfl rfl (by omega)) rfl ?_ | refine RX.soft (RX.eql_ptr_nil rfl rfl) rfl ?_ | refine RX.soft (RX.eql_nil_nil rfl rfl) rfl ?_ | refine RX.soft (RX.neq_ptr_nil rfl rfl) rfl ?_ | refine RX.soft (RX.neq_nil_nil rfl rfl) rfl ?_ | refine RX.soft (RX.eql_same rfl rfl (by with_reducible rfl)) rfl ?_ | refine RX.soft (RX.eql_tf rfl rfl (by with_reducible rfl) (by with_reducible rfl)) rfl ?_ | refine RX.soft (RX.eql_ft rfl rfl (by with_reducible rfl) (by with_reducible rfl)) rfl ?_ | refine RX.soft (RX.neq_same rfl rfl (by with_reducible rfl)) rfl ?_ | refine RX.soft (RX.neq_tf rfl rfl (by with_reducible rfl) (by with_reducible rfl)) rfl ?_ | refine RX.soft (RX.neq_ft rfl rfl (by with_reducible rfl) (by with_reducible rfl)) rfl ?_ | refine RX.soft (RX.eql_bool rfl rfl) rfl ?_ | refine RX.soft (RX.neq_bool rfl rfl) rfl ?_) | (refine RX.isCall ?_; first | refine RX.soft (RX.len_slice rfl) rfl ?_ | refine RX.soft (RX.max2 rfl rfl) rfl ?_ | refine RX.soft (RX.min2 rfl rfl) rfl ?_) | refine RX.soft (RX.indexAddr1 rfl rfl (by omega)) rfl ?_ | refine RX.soft (RX.indexAddrO rfl rfl (by omega)) rfl ?_ | refine RX.soft (RX.indexAddrS rfl rfl (by omega)) rfl ?_ | refine RX.soft (RX.pick_true rfl (by with_reducible rfl) rfl) rfl ?_ | refine RX.soft (RX.pick_false rfl (by with_reducible rfl) rfl) rfl ?_ | refine RX.soft (RX.not_t rfl (by with_reducible rfl)) rfl ?_ | refine RX.soft (RX.not_f rfl (by with_reducible rfl)) rfl ?_ | refine RX.soft (RX.not rfl) rfl ?_ | refine RX.soft (RX.extract rfl rfl) rfl ?_ | refine RX.soft (RX.build rfl (by intro w; simp [Instr.build, Instr.fill] <;> rfl)) rfl ?_ | refine RX.slice_one rfl rfl rfl rfl ?_)
        | refine RX.guard_true rfl rfl (by with_reducible rfl) (by first | omega | (with_reducible assumption)) ?_
        | refine RX.guard_false rfl rfl (by with_reducible rfl) (by first | omega | (with_reducible assumption)) ?_
        | refine RX.nil ?_
        | refine RX.then_normal ?_
        | refine RX.seq ?_
        | refine RX.region ?_
        | refine RX.cond_true rfl (by with_reducible rfl) ?_
        | refine RX.cond_false rfl (by with_reducible rfl) ?_
        | refine RX.skip ?_
        | refine RX.block ?_
        | refine RX.inBlock_normal ?_
        | refine RX.exit ?_
        | refine RX.then_exit ?_
        | refine RX.inBlock_exit ?_
        | refine RX.inBlock_other rfl ?_
        | refine RX.ret ?_
        | refine RX.then_ret ?_
        | refine RX.inBlock_ret ?_
        | refine RX.unwanted (by first | exact RX.barred_t rfl rfl rfl (by with_reducible rfl) | exact RX.barred_f rfl rfl rfl (by with_reducible rfl)) rfl ?_
        | refine RX.unwanted_none (by first | exact RX.barred_t rfl rfl rfl (by with_reducible rfl) | exact RX.barred_f rfl rfl rfl (by with_reducible rfl)) ?_
        | refine RX.cond rfl (fun h => absurd h (by first | omega | (with_reducible assumption))) (fun _ => ?_)
        | refine RX.cond rfl (fun _ => ?_) (fun h => absurd (by first | omega | (with_reducible assumption)) h))
      rw [hl1]
      repeat (first
        | (refine RX.opw (by first | exact RX.plain rfl | exact RX.guarded rfl rfl rfl (by with_reducible rfl)) ?_; first | refine RX.soft (RX.move rfl) rfl ?_ | refine RX.soft (RX.assign rfl) rfl ?_ | refine RX.soft (RX.nilCheck_ptr rfl) rfl ?_ | refine RX.soft (RX.fieldAddr0 rfl) rfl ?_ | refine RX.soft (RX.fieldAddrH rfl) rfl ?_ | refine RX.soft (RX.fieldAddr rfl) rfl ?_ | refine RX.soft (RX.load_at rfl (by assumption)) rfl ?_ | refine RX.soft (RX.lookup_at rfl rfl (by assumption)) rfl ?_ | (refine RX.isBin ?_; first | refine RX.soft (RX.lss rfl rfl) rfl ?_ | refine RX.soft (RX.eql rfl rfl) rfl ?_ | refine RX.soft (RX.neq rfl rfl) rfl ?_ | refine RX.soft (RX.geq rfl rfl) rfl ?_ | refine RX.soft (RX.gtr rfl rfl) rfl ?_ | refine RX.soft (RX.leq rfl rfl) rfl ?_ | refine RX.soft (RX.add_one rfl rfl (by omega)) rfl ?_ | refine RX.soft (RX.add_in rfl rfl (by omega)) rfl ?_ | refine RX.soft (RX.sub_in rfl rfl (by omega)) rfl ?_ | refine RX.soft (RX.eql_ptr_nil rfl rfl) rfl ?_ | refine RX.soft (RX.eql_nil_nil rfl rfl) rfl ?_ | refine RX.soft (RX.neq_ptr_nil rfl rfl) rfl ?_ | refine RX.soft (RX.neq_nil_nil rfl rfl) rfl ?_ | refine RX.soft (RX.eql_same rfl rfl (by with_reducible rfl)) rfl ?_ | refine RX.soft (RX.eql_tf rfl rfl (by with_reducible rfl) (by with_reducible rfl)) rfl ?_ | refine RX.soft (RX.eql_ft rfl rfl (by with_reducible rfl) (by with_reducible rfl)) rfl ?_ | refine RX.soft (RX.neq_same rfl rfl (by with_reducible rfl)) rfl ?_ | refine RX.soft (RX.neq_tf rfl rfl (by with_reducible rfl) (by with_reducible rfl)) rfl ?_ | refine RX.soft (RX.neq_ft rfl rfl (by with_reducible rfl) (by with_reducible rfl)) rfl ?_ | refine RX.soft (RX.eql_bool rfl rfl) rfl ?_ | refine RX.soft (RX.neq_bool rfl rfl) rfl ?_) | (refine RX.isCall ?_; first | refine RX.soft (RX.len_slice rfl) rfl ?_ | refine RX.soft (RX.max2 rfl rfl) rfl ?_ | refine RX.soft (RX.min2 rfl rfl) rfl ?_) | refine RX.soft (RX.indexAddr1 rfl rfl (by omega)) rfl ?_ | refine RX.soft (RX.indexAddrO rfl rfl (by omega)) rfl ?_ | refine RX.soft (RX.indexAddrS rfl rfl (by omega)) rfl ?_ | refine RX.soft (RX.pick_true rfl (by with_reducible rfl) rfl) rfl ?_ | refine RX.soft (RX.pick_false rfl (by with_reducible rfl) rfl) rfl ?_ | refine RX.soft (RX.not_t rfl (by with_reducible rfl)) rfl ?_ | refine RX.soft (RX.not_f rfl (by with_reducible rfl)) rfl ?_ | refine RX.soft (RX.not rfl) rfl ?_ | refine RX.soft (RX.extract rfl rfl) rfl ?_ | refine RX.soft (RX.build rfl (by intro w; simp [Instr.build, Instr.fill] <;> rfl)) rfl ?_ | refine RX.slice_one rfl rfl rfl rfl ?_)
        | refine RX.guard_true rfl rfl (by with_reducible rfl) (by first | omega | (with_reducible assumption)) ?_
        | refine RX.guard_false rfl rfl (by with_reducible rfl) (by first | omega | (with_reducible assumption)) ?_
        | refine RX.nil ?_
        | refine RX.then_normal ?_
        | refine RX.seq ?_
        | refine RX.region ?_
        | refine RX.cond_true rfl (by with_reducible rfl) ?_
        | refine RX.cond_false rfl (by with_reducible rfl) ?_
        | refine RX.skip ?_
        | refine RX.block ?_
        | refine RX.inBlock_normal ?_
        | refine RX.exit ?_
        | refine RX.then_exit ?_
        | refine RX.inBlock_exit ?_
        | refine RX.inBlock_other rfl ?_
        | refine RX.ret ?_
        | refine RX.then_ret ?_
        | refine RX.inBlock_ret ?_
        | refine RX.unwanted (by first | exact RX.barred_t rfl rfl rfl (by with_reducible rfl) | exact RX.barred_f rfl rfl rfl (by with_reducible rfl)) rfl ?_
        | refine RX.unwanted_none (by first | exact RX.barred_t rfl rfl rfl (by with_reducible rfl) | exact RX.barred_f rfl rfl rfl (by with_reducible rfl)) ?_
        | refine RX.cond rfl (fun h => absurd h (by first | omega | (with_reducible assumption))) (fun _ => ?_)
        | refine RX.cond rfl (fun _ => ?_) (fun h => absurd (by first | omega | (with_reducible assumption)) h))
      refine RX.opw (by first | exact RX.plain rfl | exact RX.guarded rfl rfl rfl (by with_reducible rfl)) ?_
      refine call rfl (known_any _) rfl ?_
      rintro e w4 ⟨rfl, hu4⟩; refine ⟨_, rfl, ?_⟩
      repeat (first
        | (refine RX.opw (by first | exact RX.plain rfl | exact RX.guarded rfl rfl rfl (by with_reducible rfl)) ?_; first | refine RX.soft (RX.move rfl) rfl ?_ | refine RX.soft (RX.assign rfl) rfl ?_ | refine RX.soft (RX.nilCheck_ptr rfl) rfl ?_ | refine RX.soft (RX.fieldAddr0 rfl) rfl ?_ | refine RX.soft (RX.fieldAddrH rfl) rfl ?_ | refine RX.soft (RX.fieldAddr rfl) rfl ?_ | refine RX.soft (RX.load_at rfl (by assumption)) rfl ?_ | refine RX.soft (RX.lookup_at rfl rfl (by assumption)) rfl ?_ | (refine RX.isBin ?_; first | refine RX.soft (RX.lss rfl rfl) rfl ?_ | refine RX.soft (RX.eql rfl rfl) rfl ?_ | refine RX.soft (RX.neq rfl rfl) rfl ?_ | refine RX.soft (RX.geq rfl rfl) rfl ?_ | refine RX.soft (RX.gtr rfl rfl) rfl ?_ | refine RX.soft (RX.leq rfl rfl) rfl ?_ | refine RX.soft (RX.add_one rfl rfl (by omega)) rfl ?_ | refine RX.soft (RX.add_in rfl rfl (by omega)) rfl ?_ | refine RX.soft (RX.sub_in rfl rfl (by omega)) rfl ?_ | refine RX.soft (RX.eql_ptr_nil rfl rfl) rfl ?_ | refine RX.soft (RX.eql_nil_nil rfl rfl) rfl ?_ | refine RX.soft (RX.neq_ptr_nil rfl rfl) rfl ?_ | refine RX.soft (RX.neq_nil_nil rfl rfl) rfl ?_ | refine RX.soft (RX.eql_same rfl rfl (by with_reducible rfl)) rfl ?_ | refine RX.soft (RX.eql_tf rfl rfl (by with_reducible rfl) (by with_reducible rfl)) rfl ?_ | refine RX.soft (RX.eql_ft rfl rfl (by with_reducible rfl) (by with_reducible rfl)) rfl ?_ | refine RX.soft (RX.neq_same rfl rfl (by with_reducible rfl)) rfl ?_ | refine RX.soft (RX.neq_tf rfl rfl (by with_reducible rfl) (by with_reducible rfl)) rfl ?_ | refine RX.soft (RX.neq_ft rfl rfl (by with_reducible rfl) (by with_reducible rfl)) rfl ?_ | refine RX.soft (RX.eql_bool rfl rfl) rfl ?_ | refine RX.soft (RX.neq_bool rfl rfl) rfl ?_) | (refine RX.isCall ?_; first | refine RX.soft (RX.len_slice rfl) rfl ?_ | refine RX.soft (RX.max2 rfl rfl) rfl ?_ | refine RX.soft (RX.min2 rfl rfl) rfl ?_) | refine RX.soft (RX.indexAddr1 rfl rfl (by omega)) rfl ?_ | refine RX.soft (RX.indexAddrO rfl rfl (by omega)) rfl ?_ | refine RX.soft (RX.indexAddrS rfl rfl (by omega)) rfl ?_ | refine RX.soft (RX.pick_true rfl (by with_reducible rfl) rfl) rfl ?_ | refine RX.soft (RX.pick_false rfl (by with_reducible rfl) rfl) rfl ?_ | refine RX.soft (RX.not_t rfl (by with_reducible rfl)) rfl ?_ | refine RX.soft (RX.not_f rfl (by with_reducible rfl)) rfl ?_ | refine RX.soft (RX.not rfl) rfl ?_ | refine RX.soft (RX.extract rfl rfl) rfl ?_ | refine RX.soft (RX.build rfl (by intro w; simp [Instr.build, Instr.fill] <;> rfl)) rfl ?_ | refine RX.slice_one rfl rfl rfl rfl ?_)
        | refine RX.guard_true rfl rfl (by with_reducible rfl) (by first | omega | (with_reducible assumption)) ?_
        | refine RX.guard_false rfl rfl (by with_reducible rfl) (by first | omega | (with_reducible assumption)) ?_
        | refine RX.nil ?_
        | refine RX.then_normal ?_
        | refine RX.seq ?_
        | refine RX.region ?_
        | refine RX.cond_true rfl (by with_reducible rfl) ?_
        | refine RX.cond_false rfl (by with_reducible rfl) ?_
        | refine RX.skip ?_
        | refine RX.block ?_
        | refine RX.inBlock_normal ?_
        | refine RX.exit ?_
        | refine RX.then_exit ?_
        | refine RX.inBlock_exit ?_
        | refine RX.inBlock_other rfl ?_
        | refine RX.ret ?_
        | refine RX.then_ret ?_
        | refine RX.inBlock_ret ?_
        | refine RX.unwanted (by first | exact RX.barred_t rfl rfl rfl (by with_reducible rfl) | exact RX.barred_f rfl rfl rfl (by with_reducible rfl)) rfl ?_
        | refine RX.unwanted_none (by first | exact RX.barred_t rfl rfl rfl (by with_reducible rfl) | exact RX.barred_f rfl rfl rfl (by with_reducible rfl)) ?_
        | refine RX.cond rfl (fun h => absurd h (by first | omega | (with_reducible assumption))) (fun _ => ?_)
        | refine RX.cond rfl (fun _ => ?_) (fun h => absurd (by first | omega | (with_reducible assumption)) h))
      exact ret1 rfl rfl ⟨rfl, (hw _ _ hu2 hu3).trans hu4 (fun _ _ h => h) (fun _ _ h => h)⟩

theorem findNil_own : ownKnob Try.prog.godebug = none := by kernel_rfl
theorem findNil_laidOut : laidOutB Try.prog = true := by kernel_rfl
set_option maxRecDepth 100000 in
theorem findNil_lifted (os : Os) (started : os.Started) (H : Type) (enc : TypeId × Value → H) :
    ReturnsInHanded {} Try.checked os 5 .any (Rows.findNilSpec.pre6 enc Try.prog Try.f5 Rows.findNilRow.domain false) (Rows.findNilSpec.post enc Try.prog Try.f5 false true false false) := by
  refine returnsInHanded_of_change (C := Try.checked) findNil_own started (by kernel_rfl) Try.func5
    (ChangeSpec.witness6 (enc := enc) (C := Try.checked) false ⟨#[], #[.int .i64 0, .int .i64 0, .int .i64 0], []⟩ 8 (by kernel_rfl) (by kernel_rfl) (by kernel_rfl) (by kernel_rfl)) ?_
  intro W base args ds gs before hval0 hW hcnd _
  have hval : ∀ (j : Nat) t v, Try.f5.params[j]? = some t → args[j]? = some v → Value.okWide Try.prog W .any base t v := hval0
  have hW' := hW
  obtain ⟨p, q, hA0, hV, rfl, hfz, hnd⟩ := hW
  have hA : DataW.TrodAll enc Try.prog W 0 (fun _ => true) true Try.f5.params.toList args.toList ds p := hA0
  rw [Try.params5] at hA hval
  obtain ⟨v0, vs0, d0, ds0, p0, q0, hargs, rfl, rfl, h0, r0⟩ := trodAll_cons hA
  obtain ⟨v1, vs1, d1, ds1, p1, q1, rfl, rfl, rfl, h1, r1⟩ := trodAll_cons r0
  obtain ⟨v2, vs2, d2, ds2, p2, q2, rfl, rfl, rfl, h2, r2⟩ := trodAll_cons r1
  obtain ⟨rfl, rfl, rfl⟩ := trodAll_nil r2
  obtain rfl : args = #[v0, v1, v2] := by cases args; simp_all
  obtain ⟨rfl, rfl⟩ := trodVars_none hV
  have hlt := hW'.lt
  have hl0 : ∀ x ∈ p0, x.block < W.heap.size := fun x hx => hlt x (by simp [hx])
  obtain ⟨a0, rfl, e0, g0, w0⟩ := open_int Try.underlying3 (hval 0 3 v0 rfl rfl) h0
  have b0 : -9223372036854775808 ≤ a0 ∧ a0 ≤ 9223372036854775807 := wf_i64 w0
  have hl1 : ∀ x ∈ p1, x.block < W.heap.size := fun x hx => hlt x (by simp [hx])
  obtain ⟨a1, rfl, e1, g1, w1⟩ := open_int Try.underlying3 (hval 1 3 v1 rfl rfl) h1
  have b1 : -9223372036854775808 ≤ a1 ∧ a1 ≤ 9223372036854775807 := wf_i64 w1
  have hl2 : ∀ x ∈ p2, x.block < W.heap.size := fun x hx => hlt x (by simp [hx])
  obtain ⟨a2, rfl, e2, g2, w2⟩ := open_int Try.underlying3 (hval 2 3 v2 rfl rfl) h2
  have b2 : -9223372036854775808 ≤ a2 ∧ a2 ≤ 9223372036854775807 := wf_i64 w2
  refine (findNil_calls W a0 b0 a1 b1 a2 b2).mono fun e W' ⟨he, hu⟩ => ?_
  subst he
  have hb := hu.below
  exact ⟨_, rfl, _, _, _, [], _, [], hW', trodAll_cons_mk (shut_bool Try.underlying4 _) trodAll_mk0, (trodAll_cons_mk (hb.trod findNil_laidOut (by kernel_rfl) (of_decide_eq_true (by kernel_rfl)) h0 hl0) (trodAll_cons_mk (hb.trod findNil_laidOut (by kernel_rfl) (of_decide_eq_true (by kernel_rfl)) h1 hl1) (trodAll_cons_mk (hb.trod findNil_laidOut (by kernel_rfl) (of_decide_eq_true (by kernel_rfl)) h2 hl2) trodAll_mk0))), rfl, hb.frame _, fun h => by cases h⟩
theorem findNil_holds : Rows.FindNilSaid :=
  OpenClaim.holds_of_wide 5 Try.f5 rfl rfl rfl rfl rfl rfl rfl ⟨rfl, rfl, rfl, rfl, rfl⟩ rfl rfl rfl rfl rfl (by kernel_rfl) Try.func5 (by kernel_rfl)
    (of_decide_eq_true (by kernel_rfl)) (by unfold Func.isWrapper; first | (rw [if_pos (by decide +kernel)]; kernel_rfl) | (rw [if_neg (by decide +kernel)]; exact ⟨rfl, rfl⟩))
    (fun os started H enc _ => findNil_lifted os started H enc)
end Go.Proofs.Ytfcmohfddjcfkaa
