/- The walk over 'known' of chapter 18's laws: a way round, by the contracts. -/
import Derived.Test.YtfcmohfddjcfkaaRef15S
namespace Go.Proofs.Ytfcmohfddjcfkaa
open Go Go.RR Go.RX Go.FindM
attribute [local irreducible] wpList Code.wp wpPlan Exit.then Exit.inBlock bodyPost NoPanic Went

theorem SetsAt.reads {w : World} {B : Nat} {v : Value} {xss : List (List Nat)} (h : SetsAt w B v xss) (F : Nat → Prop) (hF : ∀ k, B ≤ k → F k) : Reads2 F w v ((xss.map (fun l => l.map Int.ofNat)).map RX.ints) := by
  obtain ⟨cs, hg⟩ := h
  have := Reads2.of_grid hg hF
  rw [List.map_map]
  have e : (RX.ints ∘ fun l : List Nat => l.map Int.ofNat) = nats := by funext l; rw [nats_ints]; rfl
  rw [e]; exact this

theorem kj1 : join (List.range 4) 0 2 = (true, [0, 1, 0, 3]) := by decide
theorem kj2 : join [0, 1, 0, 3] 2 0 = (false, [0, 1, 0, 3]) := by decide
theorem kj3 : join [0, 1, 0, 3] 3 1 = (true, [0, 1, 0, 1]) := by decide
theorem kl1 : least [0, 1, 0, 1] 2 = 0 := by decide
theorem kl2 : least [0, 1, 0, 1] 3 = 1 := by decide
theorem ks : sets [0, 1, 0, 1] = [[0, 2], [1, 3]] := by decide

set_option maxHeartbeats 1000000 in
theorem known_any (w : World) : Calls Try.prog 17 #[] w fun e w' => e = .returned (.bool true) ∧ Upd (fun _ => False) w w' := by
  refine enter0 Try.func17 rfl Try.ntmps17 rfl ?_
  repeat (first
    | (refine RX.opw (by first | exact RX.plain rfl | exact RX.guarded rfl rfl rfl (by with_reducible rfl)) ?_; first | refine RX.soft (RX.move rfl) rfl ?_ | refine RX.soft (RX.assign rfl) rfl ?_ | refine RX.soft (RX.nilCheck_ptr rfl) rfl ?_ | refine RX.soft (RX.fieldAddr0 rfl) rfl ?_ | refine RX.soft (RX.fieldAddrH rfl) rfl ?_ | refine RX.soft (RX.fieldAddr rfl) rfl ?_ | refine RX.soft (RX.load_at rfl (by assumption)) rfl ?_ | refine RX.soft (RX.lookup_at rfl rfl (by assumption)) rfl ?_ | (refine RX.isBin ?_; first | refine RX.soft (RX.lss rfl rfl) rfl ?_ | refine RX.soft (RX.eql rfl rfl) rfl ?_ | refine RX.soft (RX.neq rfl rfl) rfl ?_ | refine RX.soft (RX.geq rfl rfl) rfl ?_ | refine RX.soft (RX.gtr rfl rfl) rfl ?_ | refine RX.soft (RX.leq rfl rfl) rfl ?_ | refine RX.soft (RX.add_one rfl rfl (by omega)) rfl ?_ | refine RX.soft (RX.add_in rfl rfl (by omega)) rfl ?_ | refine RX.soft (RX.sub_in rfl rfl (by omega)) rfl ?_ | refine RX.soft (RX.eql_ptr_nil rfl rfl) rfl ?_ | refine RX.soft (RX.eql_nil_nil rfl rfl) rfl ?_ | refine RX.soft (RX.neq_ptr_nil rfl rfl) rfl ?_ | refine RX.soft (RX.neq_nil_nil rfl rfl) rfl ?_ | refine RX.soft (RX.eql_same rfl rfl (by with_reducible rfl)) rfl ?_ | refine RX.soft (RX.eql_tf rfl rfl (by with_reducible rfl) (by with_reducible rfl)) rfl ?_ | refine RX.soft (RX.eql_ft rfl rfl (by with_reducible rfl) (by with_reducible rfl)) rfl ?_ | refine RX.soft (RX.neq_same rfl rfl (by with_reducible rfl)) rfl ?_ | refine RX.soft (RX.neq_tf rfl rfl (by with_reducible rfl) (by with_reducible rfl)) rfl ?_ | refine RX.soft (RX.neq_ft rfl rfl (by with_reducible rfl) (by with_reducible rfl)) rfl ?_ | refine RX.soft (RX.eql_bool rfl rfl) rfl ?_ | refine RX.soft (RX.neq_bool rfl rfl) rfl ?_) | (refine RX.isCall ?_; first | refine RX.soft (RX.len_slice rfl) rfl ?_ | refine RX.soft (RX.max2 rfl rfl) rfl ?_ | refine RX.soft (RX.min2 rfl rfl) rfl ?_) | refine RX.soft (RX.indexAddr1 rfl rfl (by omega)) rfl ?_ | refine RX.soft (RX.indexAddrO rfl rfl (by omega)) rfl ?_ | refine RX.soft (RX.indexAddrS rfl rfl (by omega)) rfl ?_ | refine RX.soft (RX.pick_true rfl (by with_reducible rfl) rfl) rfl ?_ | refine RX.soft (RX.pick_false rfl (by with_reducible rfl) rfl) rfl ?_ | refine RX.soft (RX.not_t rfl (by with_reducible rfl)) rfl ?_ | refine RX.soft (RX.not_f rfl (by with_reducible rfl)) rfl ?_ | refine RX.soft (RX.not rfl) rfl ?_ | refine RX.soft (RX.extract rfl rfl) rfl ?_ | refine RX.soft (RX.build rfl (by intro w; simp [Instr.build, Instr.fill] <;> rfl)) rfl ?_ | refine RX.slice_one rfl rfl rfl rfl ?_)
    | refine RX.guard_true rfl rfl (by with_reducible rfl) (by first | omega | (with_reducible assumption)) ?_
    | refine RX.guard_false rfl rfl (by with_reducible rfl) (by first | omega | (with_reducible assumption)) ?_
    | refine RX.nil ?_
    | refine RX.then_normal ?_
    | refine RX.seq ?_
    | refine RX.region ?_
    | refine RX.cond_true rfl (by with_reducible rfl) ?_
    | refine RX.cond_false rfl (by with_reducible rfl) ?_
    | refine RX.skip ?_
    | refine RX.block ?_
    | refine RX.inBlock_normal ?_
    | refine RX.exit ?_
    | refine RX.then_exit ?_
    | refine RX.inBlock_exit ?_
    | refine RX.inBlock_other rfl ?_
    | refine RX.ret ?_
    | refine RX.then_ret ?_
    | refine RX.inBlock_ret ?_
    | refine RX.unwanted (by first | exact RX.barred_t rfl rfl rfl (by with_reducible rfl) | exact RX.barred_f rfl rfl rfl (by with_reducible rfl)) rfl ?_
    | refine RX.unwanted_none (by first | exact RX.barred_t rfl rfl rfl (by with_reducible rfl) | exact RX.barred_f rfl rfl rfl (by with_reducible rfl)) ?_
    | refine RX.cond rfl (fun h => absurd h (by first | omega | (with_reducible assumption))) (fun _ => ?_)
    | refine RX.cond rfl (fun _ => ?_) (fun h => absurd (by first | omega | (with_reducible assumption)) h))
  refine RX.opw (by first | exact RX.plain rfl | exact RX.guarded rfl rfl rfl (by with_reducible rfl)) ?_
  refine call rfl (new_any _ _) rfl ?_
  rintro e w1 ⟨pb, b, rfl, hpb, hb, hf1, hu1⟩; refine ⟨_, rfl, ?_⟩
  rw [show many 4 = 4 from rfl] at hf1
  repeat (first
    | (refine RX.opw (by first | exact RX.plain rfl | exact RX.guarded rfl rfl rfl (by with_reducible rfl)) ?_; first | refine RX.soft (RX.move rfl) rfl ?_ | refine RX.soft (RX.assign rfl) rfl ?_ | refine RX.soft (RX.nilCheck_ptr rfl) rfl ?_ | refine RX.soft (RX.fieldAddr0 rfl) rfl ?_ | refine RX.soft (RX.fieldAddrH rfl) rfl ?_ | refine RX.soft (RX.fieldAddr rfl) rfl ?_ | refine RX.soft (RX.load_at rfl (by assumption)) rfl ?_ | refine RX.soft (RX.lookup_at rfl rfl (by assumption)) rfl ?_ | (refine RX.isBin ?_; first | refine RX.soft (RX.lss rfl rfl) rfl ?_ | refine RX.soft (RX.eql rfl rfl) rfl ?_ | refine RX.soft (RX.neq rfl rfl) rfl ?_ | refine RX.soft (RX.geq rfl rfl) rfl ?_ | refine RX.soft (RX.gtr rfl rfl) rfl ?_ | refine RX.soft (RX.leq rfl rfl) rfl ?_ | refine RX.soft (RX.add_one rfl rfl (by omega)) rfl ?_ | refine RX.soft (RX.add_in rfl rfl (by omega)) rfl ?_ | refine RX.soft (RX.sub_in rfl rfl (by omega)) rfl ?_ | refine RX.soft (RX.eql_ptr_nil rfl rfl) rfl ?_ | refine RX.soft (RX.eql_nil_nil rfl rfl) rfl ?_ | refine RX.soft (RX.neq_ptr_nil rfl rfl) rfl ?_ | refine RX.soft (RX.neq_nil_nil rfl rfl) rfl ?_ | refine RX.soft (RX.eql_same rfl rfl (by with_reducible rfl)) rfl ?_ | refine RX.soft (RX.eql_tf rfl rfl (by with_reducible rfl) (by with_reducible rfl)) rfl ?_ | refine RX.soft (RX.eql_ft rfl rfl (by with_reducible rfl) (by with_reducible rfl)) rfl ?_ | refine RX.soft (RX.neq_same rfl rfl (by with_reducible rfl)) rfl ?_ | refine RX.soft (RX.neq_tf rfl rfl (by with_reducible rfl) (by with_reducible rfl)) rfl ?_ | refine RX.soft (RX.neq_ft rfl rfl (by with_reducible rfl) (by with_reducible rfl)) rfl ?_ | refine RX.soft (RX.eql_bool rfl rfl) rfl ?_ | refine RX.soft (RX.neq_bool rfl rfl) rfl ?_) | (refine RX.isCall ?_; first | refine RX.soft (RX.len_slice rfl) rfl ?_ | refine RX.soft (RX.max2 rfl rfl) rfl ?_ | refine RX.soft (RX.min2 rfl rfl) rfl ?_) | refine RX.soft (RX.indexAddr1 rfl rfl (by omega)) rfl ?_ | refine RX.soft (RX.indexAddrO rfl rfl (by omega)) rfl ?_ | refine RX.soft (RX.indexAddrS rfl rfl (by omega)) rfl ?_ | refine RX.soft (RX.pick_true rfl (by with_reducible rfl) rfl) rfl ?_ | refine RX.soft (RX.pick_false rfl (by with_reducible rfl) rfl) rfl ?_ | refine RX.soft (RX.not_t rfl (by with_reducible rfl)) rfl ?_ | refine RX.soft (RX.not_f rfl (by with_reducible rfl)) rfl ?_ | refine RX.soft (RX.not rfl) rfl ?_ | refine RX.soft (RX.extract rfl rfl) rfl ?_ | refine RX.soft (RX.build rfl (by intro w; simp [Instr.build, Instr.fill] <;> rfl)) rfl ?_ | refine RX.slice_one rfl rfl rfl rfl ?_)
    | refine RX.guard_true rfl rfl (by with_reducible rfl) (by first | omega | (with_reducible assumption)) ?_
    | refine RX.guard_false rfl rfl (by with_reducible rfl) (by first | omega | (with_reducible assumption)) ?_
    | refine RX.nil ?_
    | refine RX.then_normal ?_
    | refine RX.seq ?_
    | refine RX.region ?_
    | refine RX.cond_true rfl (by with_reducible rfl) ?_
    | refine RX.cond_false rfl (by with_reducible rfl) ?_
    | refine RX.skip ?_
    | refine RX.block ?_
    | refine RX.inBlock_normal ?_
    | refine RX.exit ?_
    | refine RX.then_exit ?_
    | refine RX.inBlock_exit ?_
    | refine RX.inBlock_other rfl ?_
    | refine RX.ret ?_
    | refine RX.then_ret ?_
    | refine RX.inBlock_ret ?_
    | refine RX.unwanted (by first | exact RX.barred_t rfl rfl rfl (by with_reducible rfl) | exact RX.barred_f rfl rfl rfl (by with_reducible rfl)) rfl ?_
    | refine RX.unwanted_none (by first | exact RX.barred_t rfl rfl rfl (by with_reducible rfl) | exact RX.barred_f rfl rfl rfl (by with_reducible rfl)) ?_
    | refine RX.cond rfl (fun h => absurd h (by first | omega | (with_reducible assumption))) (fun _ => ?_)
    | refine RX.cond rfl (fun _ => ?_) (fun h => absurd (by first | omega | (with_reducible assumption)) h))
  refine RX.opw (by first | exact RX.plain rfl | exact RX.guarded rfl rfl rfl (by with_reducible rfl)) ?_
  refine call rfl (join_any _ _ _ pb b _ hf1) rfl ?_
  rw [kj1]
  rintro e w2 ⟨rfl, hf2, hu2⟩; refine ⟨_, rfl, ?_⟩
  dsimp only at hf2 ⊢
  repeat (first
    | (refine RX.opw (by first | exact RX.plain rfl | exact RX.guarded rfl rfl rfl (by with_reducible rfl)) ?_; first | refine RX.soft (RX.move rfl) rfl ?_ | refine RX.soft (RX.assign rfl) rfl ?_ | refine RX.soft (RX.nilCheck_ptr rfl) rfl ?_ | refine RX.soft (RX.fieldAddr0 rfl) rfl ?_ | refine RX.soft (RX.fieldAddrH rfl) rfl ?_ | refine RX.soft (RX.fieldAddr rfl) rfl ?_ | refine RX.soft (RX.load_at rfl (by assumption)) rfl ?_ | refine RX.soft (RX.lookup_at rfl rfl (by assumption)) rfl ?_ | (refine RX.isBin ?_; first | refine RX.soft (RX.lss rfl rfl) rfl ?_ | refine RX.soft (RX.eql rfl rfl) rfl ?_ | refine RX.soft (RX.neq rfl rfl) rfl ?_ | refine RX.soft (RX.geq rfl rfl) rfl ?_ | refine RX.soft (RX.gtr rfl rfl) rfl ?_ | refine RX.soft (RX.leq rfl rfl) rfl ?_ | refine RX.soft (RX.add_one rfl rfl (by omega)) rfl ?_ | refine RX.soft (RX.add_in rfl rfl (by omega)) rfl ?_ | refine RX.soft (RX.sub_in rfl rfl (by omega)) rfl ?_ | refine RX.soft (RX.eql_ptr_nil rfl rfl) rfl ?_ | refine RX.soft (RX.eql_nil_nil rfl rfl) rfl ?_ | refine RX.soft (RX.neq_ptr_nil rfl rfl) rfl ?_ | refine RX.soft (RX.neq_nil_nil rfl rfl) rfl ?_ | refine RX.soft (RX.eql_same rfl rfl (by with_reducible rfl)) rfl ?_ | refine RX.soft (RX.eql_tf rfl rfl (by with_reducible rfl) (by with_reducible rfl)) rfl ?_ | refine RX.soft (RX.eql_ft rfl rfl (by with_reducible rfl) (by with_reducible rfl)) rfl ?_ | refine RX.soft (RX.neq_same rfl rfl (by with_reducible rfl)) rfl ?_ | refine RX.soft (RX.neq_tf rfl rfl (by with_reducible rfl) (by with_reducible rfl)) rfl ?_ | refine RX.soft (RX.neq_ft rfl rfl (by with_reducible rfl) (by with_reducible rfl)) rfl ?_ | refine RX.soft (RX.eql_bool rfl rfl) rfl ?_ | refine RX.soft (RX.neq_bool rfl rfl) rfl ?_) | (refine RX.isCall ?_; first | refine RX.soft (RX.len_slice rfl) rfl ?_ | refine RX.soft (RX.max2 rfl rfl) rfl ?_ | refine RX.soft (RX.min2 rfl rfl) rfl ?_) | refine RX.soft (RX.indexAddr1 rfl rfl (by omega)) rfl ?_ | refine RX.soft (RX.indexAddrO rfl rfl (by omega)) rfl ?_ | refine RX.soft (RX.indexAddrS rfl rfl (by omega)) rfl ?_ | refine RX.soft (RX.pick_true rfl (by with_reducible rfl) rfl) rfl ?_ | refine RX.soft (RX.pick_false rfl (by with_reducible rfl) rfl) rfl ?_ | refine RX.soft (RX.not_t rfl (by with_reducible rfl)) rfl ?_ | refine RX.soft (RX.not_f rfl (by with_reducible rfl)) rfl ?_ | refine RX.soft (RX.not rfl) rfl ?_ | refine RX.soft (RX.extract rfl rfl) rfl ?_ | refine RX.soft (RX.build rfl (by intro w; simp [Instr.build, Instr.fill] <;> rfl)) rfl ?_ | refine RX.slice_one rfl rfl rfl rfl ?_)
    | refine RX.guard_true rfl rfl (by with_reducible rfl) (by first | omega | (with_reducible assumption)) ?_
    | refine RX.guard_false rfl rfl (by with_reducible rfl) (by first | omega | (with_reducible assumption)) ?_
    | refine RX.nil ?_
    | refine RX.then_normal ?_
    | refine RX.seq ?_
    | refine RX.region ?_
    | refine RX.cond_true rfl (by with_reducible rfl) ?_
    | refine RX.cond_false rfl (by with_reducible rfl) ?_
    | refine RX.skip ?_
    | refine RX.block ?_
    | refine RX.inBlock_normal ?_
    | refine RX.exit ?_
    | refine RX.then_exit ?_
    | refine RX.inBlock_exit ?_
    | refine RX.inBlock_other rfl ?_
    | refine RX.ret ?_
    | refine RX.then_ret ?_
    | refine RX.inBlock_ret ?_
    | refine RX.unwanted (by first | exact RX.barred_t rfl rfl rfl (by with_reducible rfl) | exact RX.barred_f rfl rfl rfl (by with_reducible rfl)) rfl ?_
    | refine RX.unwanted_none (by first | exact RX.barred_t rfl rfl rfl (by with_reducible rfl) | exact RX.barred_f rfl rfl rfl (by with_reducible rfl)) ?_
    | refine RX.cond rfl (fun h => absurd h (by first | omega | (with_reducible assumption))) (fun _ => ?_)
    | refine RX.cond rfl (fun _ => ?_) (fun h => absurd (by first | omega | (with_reducible assumption)) h))
  refine RX.opw (by first | exact RX.plain rfl | exact RX.guarded rfl rfl rfl (by with_reducible rfl)) ?_
  refine call rfl (join_any _ _ _ pb b _ hf2) rfl ?_
  rw [kj2]
  rintro e w3 ⟨rfl, hf3, hu3⟩; refine ⟨_, rfl, ?_⟩
  dsimp only at hf3 ⊢
  repeat (first
    | (refine RX.opw (by first | exact RX.plain rfl | exact RX.guarded rfl rfl rfl (by with_reducible rfl)) ?_; first | refine RX.soft (RX.move rfl) rfl ?_ | refine RX.soft (RX.assign rfl) rfl ?_ | refine RX.soft (RX.nilCheck_ptr rfl) rfl ?_ | refine RX.soft (RX.fieldAddr0 rfl) rfl ?_ | refine RX.soft (RX.fieldAddrH rfl) rfl ?_ | refine RX.soft (RX.fieldAddr rfl) rfl ?_ | refine RX.soft (RX.load_at rfl (by assumption)) rfl ?_ | refine RX.soft (RX.lookup_at rfl rfl (by assumption)) rfl ?_ | (refine RX.isBin ?_; first | refine RX.soft (RX.lss rfl rfl) rfl ?_ | refine RX.soft (RX.eql rfl rfl) rfl ?_ | refine RX.soft (RX.neq rfl rfl) rfl ?_ | refine RX.soft (RX.geq rfl rfl) rfl ?_ | refine RX.soft (RX.gtr rfl rfl) rfl ?_ | refine RX.soft (RX.leq rfl rfl) rfl ?_ | refine RX.soft (RX.add_one rfl rfl (by omega)) rfl ?_ | refine RX.soft (RX.add_in rfl rfl (by omega)) rfl ?_ | refine RX.soft (RX.sub_in rfl rfl (by omega)) rfl ?_ | refine RX.soft (RX.eql_ptr_nil rfl rfl) rfl ?_ | refine RX.soft (RX.eql_nil_nil rfl rfl) rfl ?_ | refine RX.soft (RX.neq_ptr_nil rfl rfl) rfl ?_ | refine RX.soft (RX.neq_nil_nil rfl rfl) rfl ?_ | refine RX.soft (RX.eql_same rfl rfl (by with_reducible rfl)) rfl ?_ | refine RX.soft (RX.eql_tf rfl rfl (by with_reducible rfl) (by with_reducible rfl)) rfl ?_ | refine RX.soft (RX.eql_ft rfl rfl (by with_reducible rfl) (by with_reducible rfl)) rfl ?_ | refine RX.soft (RX.neq_same rfl rfl (by with_reducible rfl)) rfl ?_ | refine RX.soft (RX.neq_tf rfl rfl (by with_reducible rfl) (by with_reducible rfl)) rfl ?_ | refine RX.soft (RX.neq_ft rfl rfl (by with_reducible rfl) (by with_reducible rfl)) rfl ?_ | refine RX.soft (RX.eql_bool rfl rfl) rfl ?_ | refine RX.soft (RX.neq_bool rfl rfl) rfl ?_) | (refine RX.isCall ?_; first | refine RX.soft (RX.len_slice rfl) rfl ?_ | refine RX.soft (RX.max2 rfl rfl) rfl ?_ | refine RX.soft (RX.min2 rfl rfl) rfl ?_) | refine RX.soft (RX.indexAddr1 rfl rfl (by omega)) rfl ?_ | refine RX.soft (RX.indexAddrO rfl rfl (by omega)) rfl ?_ | refine RX.soft (RX.indexAddrS rfl rfl (by omega)) rfl ?_ | refine RX.soft (RX.pick_true rfl (by with_reducible rfl) rfl) rfl ?_ | refine RX.soft (RX.pick_false rfl (by with_reducible rfl) rfl) rfl ?_ | refine RX.soft (RX.not_t rfl (by with_reducible rfl)) rfl ?_ | refine RX.soft (RX.not_f rfl (by with_reducible rfl)) rfl ?_ | refine RX.soft (RX.not rfl) rfl ?_ | refine RX.soft (RX.extract rfl rfl) rfl ?_ | refine RX.soft (RX.build rfl (by intro w; simp [Instr.build, Instr.fill] <;> rfl)) rfl ?_ | refine RX.slice_one rfl rfl rfl rfl ?_)
    | refine RX.guard_true rfl rfl (by with_reducible rfl) (by first | omega | (with_reducible assumption)) ?_
    | refine RX.guard_false rfl rfl (by with_reducible rfl) (by first | omega | (with_reducible assumption)) ?_
    | refine RX.nil ?_
    | refine RX.then_normal ?_
    | refine RX.seq ?_
    | refine RX.region ?_
    | refine RX.cond_true rfl (by with_reducible rfl) ?_
    | refine RX.cond_false rfl (by with_reducible rfl) ?_
    | refine RX.skip ?_
    | refine RX.block ?_
    | refine RX.inBlock_normal ?_
    | refine RX.exit ?_
    | refine RX.then_exit ?_
    | refine RX.inBlock_exit ?_
    | refine RX.inBlock_other rfl ?_
    | refine RX.ret ?_
    | refine RX.then_ret ?_
    | refine RX.inBlock_ret ?_
    | refine RX.unwanted (by first | exact RX.barred_t rfl rfl rfl (by with_reducible rfl) | exact RX.barred_f rfl rfl rfl (by with_reducible rfl)) rfl ?_
    | refine RX.unwanted_none (by first | exact RX.barred_t rfl rfl rfl (by with_reducible rfl) | exact RX.barred_f rfl rfl rfl (by with_reducible rfl)) ?_
    | refine RX.cond rfl (fun h => absurd h (by first | omega | (with_reducible assumption))) (fun _ => ?_)
    | refine RX.cond rfl (fun _ => ?_) (fun h => absurd (by first | omega | (with_reducible assumption)) h))
  refine RX.opw (by first | exact RX.plain rfl | exact RX.guarded rfl rfl rfl (by with_reducible rfl)) ?_
  refine call rfl (join_any _ _ _ pb b _ hf3) rfl ?_
  rw [kj3]
  rintro e w4 ⟨rfl, hf4, hu4⟩; refine ⟨_, rfl, ?_⟩
  dsimp only at hf4 ⊢
  repeat (first
    | (refine RX.opw (by first | exact RX.plain rfl | exact RX.guarded rfl rfl rfl (by with_reducible rfl)) ?_; first | refine RX.soft (RX.move rfl) rfl ?_ | refine RX.soft (RX.assign rfl) rfl ?_ | refine RX.soft (RX.nilCheck_ptr rfl) rfl ?_ | refine RX.soft (RX.fieldAddr0 rfl) rfl ?_ | refine RX.soft (RX.fieldAddrH rfl) rfl ?_ | refine RX.soft (RX.fieldAddr rfl) rfl ?_ | refine RX.soft (RX.load_at rfl (by assumption)) rfl ?_ | refine RX.soft (RX.lookup_at rfl rfl (by assumption)) rfl ?_ | (refine RX.isBin ?_; first | refine RX.soft (RX.lss rfl rfl) rfl ?_ | refine RX.soft (RX.eql rfl rfl) rfl ?_ | refine RX.soft (RX.neq rfl rfl) rfl ?_ | refine RX.soft (RX.geq rfl rfl) rfl ?_ | refine RX.soft (RX.gtr rfl rfl) rfl ?_ | refine RX.soft (RX.leq rfl rfl) rfl ?_ | refine RX.soft (RX.add_one rfl rfl (by omega)) rfl ?_ | refine RX.soft (RX.add_in rfl rfl (by omega)) rfl ?_ | refine RX.soft (RX.sub_in rfl rfl (by omega)) rfl ?_ | refine RX.soft (RX.eql_ptr_nil rfl rfl) rfl ?_ | refine RX.soft (RX.eql_nil_nil rfl rfl) rfl ?_ | refine RX.soft (RX.neq_ptr_nil rfl rfl) rfl ?_ | refine RX.soft (RX.neq_nil_nil rfl rfl) rfl ?_ | refine RX.soft (RX.eql_same rfl rfl (by with_reducible rfl)) rfl ?_ | refine RX.soft (RX.eql_tf rfl rfl (by with_reducible rfl) (by with_reducible rfl)) rfl ?_ | refine RX.soft (RX.eql_ft rfl rfl (by with_reducible rfl) (by with_reducible rfl)) rfl ?_ | refine RX.soft (RX.neq_same rfl rfl (by with_reducible rfl)) rfl ?_ | refine RX.soft (RX.neq_tf rfl rfl (by with_reducible rfl) (by with_reducible rfl)) rfl ?_ | refine RX.soft (RX.neq_ft rfl rfl (by with_reducible rfl) (by with_reducible rfl)) rfl ?_ | refine RX.soft (RX.eql_bool rfl rfl) rfl ?_ | refine RX.soft (RX.neq_bool rfl rfl) rfl ?_) | (refine RX.isCall ?_; first | refine RX.soft (RX.len_slice rfl) rfl ?_ | refine RX.soft (RX.max2 rfl rfl) rfl ?_ | refine RX.soft (RX.min2 rfl rfl) rfl ?_) | refine RX.soft (RX.indexAddr1 rfl rfl (by omega)) rfl ?_ | refine RX.soft (RX.indexAddrO rfl rfl (by omega)) rfl ?_ | refine RX.soft (RX.indexAddrS rfl rfl (by omega)) rfl ?_ | refine RX.soft (RX.pick_true rfl (by with_reducible rfl) rfl) rfl ?_ | refine RX.soft (RX.pick_false rfl (by with_reducible rfl) rfl) rfl ?_ | refine RX.soft (RX.not_t rfl (by with_reducible rfl)) rfl ?_ | refine RX.soft (RX.not_f rfl (by with_reducible rfl)) rfl ?_ | refine RX.soft (RX.not rfl) rfl ?_ | refine RX.soft (RX.extract rfl rfl) rfl ?_ | refine RX.soft (RX.build rfl (by intro w; simp [Instr.build, Instr.fill] <;> rfl)) rfl ?_ | refine RX.slice_one rfl rfl rfl rfl ?_)
    | refine RX.guard_true rfl rfl (by with_reducible rfl) (by first | omega | (with_reducible assumption)) ?_
    | refine RX.guard_false rfl rfl (by with_reducible rfl) (by first | omega | (with_reducible assumption)) ?_
    | refine RX.nil ?_
    | refine RX.then_normal ?_
    | refine RX.seq ?_
    | refine RX.region ?_
    | refine RX.cond_true rfl (by with_reducible rfl) ?_
    | refine RX.cond_false rfl (by with_reducible rfl) ?_
    | refine RX.skip ?_
    | refine RX.block ?_
    | refine RX.inBlock_normal ?_
    | refine RX.exit ?_
    | refine RX.then_exit ?_
    | refine RX.inBlock_exit ?_
    | refine RX.inBlock_other rfl ?_
    | refine RX.ret ?_
    | refine RX.then_ret ?_
    | refine RX.inBlock_ret ?_
    | refine RX.unwanted (by first | exact RX.barred_t rfl rfl rfl (by with_reducible rfl) | exact RX.barred_f rfl rfl rfl (by with_reducible rfl)) rfl ?_
    | refine RX.unwanted_none (by first | exact RX.barred_t rfl rfl rfl (by with_reducible rfl) | exact RX.barred_f rfl rfl rfl (by with_reducible rfl)) ?_
    | refine RX.cond rfl (fun h => absurd h (by first | omega | (with_reducible assumption))) (fun _ => ?_)
    | refine RX.cond rfl (fun _ => ?_) (fun h => absurd (by first | omega | (with_reducible assumption)) h))
  refine RX.opw (by first | exact RX.plain rfl | exact RX.guarded rfl rfl rfl (by with_reducible rfl)) ?_
  refine call rfl (least_any _ _ pb b _ hf4) rfl ?_
  rw [kl1]
  rintro e w5 ⟨rfl, hf5, hu5⟩; refine ⟨_, rfl, ?_⟩
  repeat (first
    | (refine RX.opw (by first | exact RX.plain rfl | exact RX.guarded rfl rfl rfl (by with_reducible rfl)) ?_; first | refine RX.soft (RX.move rfl) rfl ?_ | refine RX.soft (RX.assign rfl) rfl ?_ | refine RX.soft (RX.nilCheck_ptr rfl) rfl ?_ | refine RX.soft (RX.fieldAddr0 rfl) rfl ?_ | refine RX.soft (RX.fieldAddrH rfl) rfl ?_ | refine RX.soft (RX.fieldAddr rfl) rfl ?_ | refine RX.soft (RX.load_at rfl (by assumption)) rfl ?_ | refine RX.soft (RX.lookup_at rfl rfl (by assumption)) rfl ?_ | (refine RX.isBin ?_; first | refine RX.soft (RX.lss rfl rfl) rfl ?_ | refine RX.soft (RX.eql rfl rfl) rfl ?_ | refine RX.soft (RX.neq rfl rfl) rfl ?_ | refine RX.soft (RX.geq rfl rfl) rfl ?_ | refine RX.soft (RX.gtr rfl rfl) rfl ?_ | refine RX.soft (RX.leq rfl rfl) rfl ?_ | refine RX.soft (RX.add_one rfl rfl (by omega)) rfl ?_ | refine RX.soft (RX.add_in rfl rfl (by omega)) rfl ?_ | refine RX.soft (RX.sub_in rfl rfl (by omega)) rfl ?_ | refine RX.soft (RX.eql_ptr_nil rfl rfl) rfl ?_ | refine RX.soft (RX.eql_nil_nil rfl rfl) rfl ?_ | refine RX.soft (RX.neq_ptr_nil rfl rfl) rfl ?_ | refine RX.soft (RX.neq_nil_nil rfl rfl) rfl ?_ | refine RX.soft (RX.eql_same rfl rfl (by with_reducible rfl)) rfl ?_ | refine RX.soft (RX.eql_tf rfl rfl (by with_reducible rfl) (by with_reducible rfl)) rfl ?_ | refine RX.soft (RX.eql_ft rfl rfl (by with_reducible rfl) (by with_reducible rfl)) rfl ?_ | refine RX.soft (RX.neq_same rfl rfl (by with_reducible rfl)) rfl ?_ | refine RX.soft (RX.neq_tf rfl rfl (by with_reducible rfl) (by with_reducible rfl)) rfl ?_ | refine RX.soft (RX.neq_ft rfl rfl (by with_reducible rfl) (by with_reducible rfl)) rfl ?_ | refine RX.soft (RX.eql_bool rfl rfl) rfl ?_ | refine RX.soft (RX.neq_bool rfl rfl) rfl ?_) | (refine RX.isCall ?_; first | refine RX.soft (RX.len_slice rfl) rfl ?_ | refine RX.soft (RX.max2 rfl rfl) rfl ?_ | refine RX.soft (RX.min2 rfl rfl) rfl ?_) | refine RX.soft (RX.indexAddr1 rfl rfl (by omega)) rfl ?_ | refine RX.soft (RX.indexAddrO rfl rfl (by omega)) rfl ?_ | refine RX.soft (RX.indexAddrS rfl rfl (by omega)) rfl ?_ | refine RX.soft (RX.pick_true rfl (by with_reducible rfl) rfl) rfl ?_ | refine RX.soft (RX.pick_false rfl (by with_reducible rfl) rfl) rfl ?_ | refine RX.soft (RX.not_t rfl (by with_reducible rfl)) rfl ?_ | refine RX.soft (RX.not_f rfl (by with_reducible rfl)) rfl ?_ | refine RX.soft (RX.not rfl) rfl ?_ | refine RX.soft (RX.extract rfl rfl) rfl ?_ | refine RX.soft (RX.build rfl (by intro w; simp [Instr.build, Instr.fill] <;> rfl)) rfl ?_ | refine RX.slice_one rfl rfl rfl rfl ?_)
    | refine RX.guard_true rfl rfl (by with_reducible rfl) (by first | omega | (with_reducible assumption)) ?_
    | refine RX.guard_false rfl rfl (by with_reducible rfl) (by first | omega | (with_reducible assumption)) ?_
    | refine RX.nil ?_
    | refine RX.then_normal ?_
    | refine RX.seq ?_
    | refine RX.region ?_
    | refine RX.cond_true rfl (by with_reducible rfl) ?_
    | refine RX.cond_false rfl (by with_reducible rfl) ?_
    | refine RX.skip ?_
    | refine RX.block ?_
    | refine RX.inBlock_normal ?_
    | refine RX.exit ?_
    | refine RX.then_exit ?_
    | refine RX.inBlock_exit ?_
    | refine RX.inBlock_other rfl ?_
    | refine RX.ret ?_
    | refine RX.then_ret ?_
    | refine RX.inBlock_ret ?_
    | refine RX.unwanted (by first | exact RX.barred_t rfl rfl rfl (by with_reducible rfl) | exact RX.barred_f rfl rfl rfl (by with_reducible rfl)) rfl ?_
    | refine RX.unwanted_none (by first | exact RX.barred_t rfl rfl rfl (by with_reducible rfl) | exact RX.barred_f rfl rfl rfl (by with_reducible rfl)) ?_
    | refine RX.cond rfl (fun h => absurd h (by first | omega | (with_reducible assumption))) (fun _ => ?_)
    | refine RX.cond rfl (fun _ => ?_) (fun h => absurd (by first | omega | (with_reducible assumption)) h))
  refine RX.opw (by first | exact RX.plain rfl | exact RX.guarded rfl rfl rfl (by with_reducible rfl)) ?_
  refine call rfl (least_any _ _ pb b _ hf5) rfl ?_
  rw [kl2]
  rintro e w6 ⟨rfl, hf6, hu6⟩; refine ⟨_, rfl, ?_⟩
  repeat (first
    | (refine RX.opw (by first | exact RX.plain rfl | exact RX.guarded rfl rfl rfl (by with_reducible rfl)) ?_; first | refine RX.soft (RX.move rfl) rfl ?_ | refine RX.soft (RX.assign rfl) rfl ?_ | refine RX.soft (RX.nilCheck_ptr rfl) rfl ?_ | refine RX.soft (RX.fieldAddr0 rfl) rfl ?_ | refine RX.soft (RX.fieldAddrH rfl) rfl ?_ | refine RX.soft (RX.fieldAddr rfl) rfl ?_ | refine RX.soft (RX.load_at rfl (by assumption)) rfl ?_ | refine RX.soft (RX.lookup_at rfl rfl (by assumption)) rfl ?_ | (refine RX.isBin ?_; first | refine RX.soft (RX.lss rfl rfl) rfl ?_ | refine RX.soft (RX.eql rfl rfl) rfl ?_ | refine RX.soft (RX.neq rfl rfl) rfl ?_ | refine RX.soft (RX.geq rfl rfl) rfl ?_ | refine RX.soft (RX.gtr rfl rfl) rfl ?_ | refine RX.soft (RX.leq rfl rfl) rfl ?_ | refine RX.soft (RX.add_one rfl rfl (by omega)) rfl ?_ | refine RX.soft (RX.add_in rfl rfl (by omega)) rfl ?_ | refine RX.soft (RX.sub_in rfl rfl (by omega)) rfl ?_ | refine RX.soft (RX.eql_ptr_nil rfl rfl) rfl ?_ | refine RX.soft (RX.eql_nil_nil rfl rfl) rfl ?_ | refine RX.soft (RX.neq_ptr_nil rfl rfl) rfl ?_ | refine RX.soft (RX.neq_nil_nil rfl rfl) rfl ?_ | refine RX.soft (RX.eql_same rfl rfl (by with_reducible rfl)) rfl ?_ | refine RX.soft (RX.eql_tf rfl rfl (by with_reducible rfl) (by with_reducible rfl)) rfl ?_ | refine RX.soft (RX.eql_ft rfl rfl (by with_reducible rfl) (by with_reducible rfl)) rfl ?_ | refine RX.soft (RX.neq_same rfl rfl (by with_reducible rfl)) rfl ?_ | refine RX.soft (RX.neq_tf rfl rfl (by with_reducible rfl) (by with_reducible rfl)) rfl ?_ | refine RX.soft (RX.neq_ft rfl rfl (by with_reducible rfl) (by with_reducible rfl)) rfl ?_ | refine RX.soft (RX.eql_bool rfl rfl) rfl ?_ | refine RX.soft (RX.neq_bool rfl rfl) rfl ?_) | (refine RX.isCall ?_; first | refine RX.soft (RX.len_slice rfl) rfl ?_ | refine RX.soft (RX.max2 rfl rfl) rfl ?_ | refine RX.soft (RX.min2 rfl rfl) rfl ?_) | refine RX.soft (RX.indexAddr1 rfl rfl (by omega)) rfl ?_ | refine RX.soft (RX.indexAddrO rfl rfl (by omega)) rfl ?_ | refine RX.soft (RX.indexAddrS rfl rfl (by omega)) rfl ?_ | refine RX.soft (RX.pick_true rfl (by with_reducible rfl) rfl) rfl ?_ | refine RX.soft (RX.pick_false rfl (by with_reducible rfl) rfl) rfl ?_ | refine RX.soft (RX.not_t rfl (by with_reducible rfl)) rfl ?_ | refine RX.soft (RX.not_f rfl (by with_reducible rfl)) rfl ?_ | refine RX.soft (RX.not rfl) rfl ?_ | refine RX.soft (RX.extract rfl rfl) rfl ?_ | refine RX.soft (RX.build rfl (by intro w; simp [Instr.build, Instr.fill] <;> rfl)) rfl ?_ | refine RX.slice_one rfl rfl rfl rfl ?_)
    | refine RX.guard_true rfl rfl (by with_reducible rfl) (by first | omega | (with_reducible assumption)) ?_
    | refine RX.guard_false rfl rfl (by with_reducible rfl) (by first | omega | (with_reducible assumption)) ?_
    | refine RX.nil ?_
    | refine RX.then_normal ?_
    | refine RX.seq ?_
    | refine RX.region ?_
    | refine RX.cond_true rfl (by with_reducible rfl) ?_
    | refine RX.cond_false rfl (by with_reducible rfl) ?_
    | refine RX.skip ?_
    | refine RX.block ?_
    | refine RX.inBlock_normal ?_
    | refine RX.exit ?_
    | refine RX.then_exit ?_
    | refine RX.inBlock_exit ?_
    | refine RX.inBlock_other rfl ?_
    | refine RX.ret ?_
    | refine RX.then_ret ?_
    | refine RX.inBlock_ret ?_
    | refine RX.unwanted (by first | exact RX.barred_t rfl rfl rfl (by with_reducible rfl) | exact RX.barred_f rfl rfl rfl (by with_reducible rfl)) rfl ?_
    | refine RX.unwanted_none (by first | exact RX.barred_t rfl rfl rfl (by with_reducible rfl) | exact RX.barred_f rfl rfl rfl (by with_reducible rfl)) ?_
    | refine RX.cond rfl (fun h => absurd h (by first | omega | (with_reducible assumption))) (fun _ => ?_)
    | refine RX.cond rfl (fun _ => ?_) (fun h => absurd (by first | omega | (with_reducible assumption)) h))
  refine RX.opw (by first | exact RX.plain rfl | exact RX.guarded rfl rfl rfl (by with_reducible rfl)) ?_
  refine call rfl (sets_any _ pb b _ hf6) rfl ?_
  rw [ks]
  rintro e w7 ⟨v, rfl, hs, hf7, hu7⟩; refine ⟨_, rfl, ?_⟩
  repeat (first
    | (refine RX.opw (by first | exact RX.plain rfl | exact RX.guarded rfl rfl rfl (by with_reducible rfl)) ?_; first | refine RX.soft (RX.move rfl) rfl ?_ | refine RX.soft (RX.assign rfl) rfl ?_ | refine RX.soft (RX.nilCheck_ptr rfl) rfl ?_ | refine RX.soft (RX.fieldAddr0 rfl) rfl ?_ | refine RX.soft (RX.fieldAddrH rfl) rfl ?_ | refine RX.soft (RX.fieldAddr rfl) rfl ?_ | refine RX.soft (RX.load_at rfl (by assumption)) rfl ?_ | refine RX.soft (RX.lookup_at rfl rfl (by assumption)) rfl ?_ | (refine RX.isBin ?_; first | refine RX.soft (RX.lss rfl rfl) rfl ?_ | refine RX.soft (RX.eql rfl rfl) rfl ?_ | refine RX.soft (RX.neq rfl rfl) rfl ?_ | refine RX.soft (RX.geq rfl rfl) rfl ?_ | refine RX.soft (RX.gtr rfl rfl) rfl ?_ | refine RX.soft (RX.leq rfl rfl) rfl ?_ | refine RX.soft (RX.add_one rfl rfl (by omega)) rfl ?_ | refine RX.soft (RX.add_in rfl rfl (by omega)) rfl ?_ | refine RX.soft (RX.sub_in rfl rfl (by omega)) rfl ?_ | refine RX.soft (RX.eql_ptr_nil rfl rfl) rfl ?_ | refine RX.soft (RX.eql_nil_nil rfl rfl) rfl ?_ | refine RX.soft (RX.neq_ptr_nil rfl rfl) rfl ?_ | refine RX.soft (RX.neq_nil_nil rfl rfl) rfl ?_ | refine RX.soft (RX.eql_same rfl rfl (by with_reducible rfl)) rfl ?_ | refine RX.soft (RX.eql_tf rfl rfl (by with_reducible rfl) (by with_reducible rfl)) rfl ?_ | refine RX.soft (RX.eql_ft rfl rfl (by with_reducible rfl) (by with_reducible rfl)) rfl ?_ | refine RX.soft (RX.neq_same rfl rfl (by with_reducible rfl)) rfl ?_ | refine RX.soft (RX.neq_tf rfl rfl (by with_reducible rfl) (by with_reducible rfl)) rfl ?_ | refine RX.soft (RX.neq_ft rfl rfl (by with_reducible rfl) (by with_reducible rfl)) rfl ?_ | refine RX.soft (RX.eql_bool rfl rfl) rfl ?_ | refine RX.soft (RX.neq_bool rfl rfl) rfl ?_) | (refine RX.isCall ?_; first | refine RX.soft (RX.len_slice rfl) rfl ?_ | refine RX.soft (RX.max2 rfl rfl) rfl ?_ | refine RX.soft (RX.min2 rfl rfl) rfl ?_) | refine RX.soft (RX.indexAddr1 rfl rfl (by omega)) rfl ?_ | refine RX.soft (RX.indexAddrO rfl rfl (by omega)) rfl ?_ | refine RX.soft (RX.indexAddrS rfl rfl (by omega)) rfl ?_ | refine RX.soft (RX.pick_true rfl (by with_reducible rfl) rfl) rfl ?_ | refine RX.soft (RX.pick_false rfl (by with_reducible rfl) rfl) rfl ?_ | refine RX.soft (RX.not_t rfl (by with_reducible rfl)) rfl ?_ | refine RX.soft (RX.not_f rfl (by with_reducible rfl)) rfl ?_ | refine RX.soft (RX.not rfl) rfl ?_ | refine RX.soft (RX.extract rfl rfl) rfl ?_ | refine RX.soft (RX.build rfl (by intro w; simp [Instr.build, Instr.fill] <;> rfl)) rfl ?_ | refine RX.slice_one rfl rfl rfl rfl ?_)
    | refine RX.guard_true rfl rfl (by with_reducible rfl) (by first | omega | (with_reducible assumption)) ?_
    | refine RX.guard_false rfl rfl (by with_reducible rfl) (by first | omega | (with_reducible assumption)) ?_
    | refine RX.nil ?_
    | refine RX.then_normal ?_
    | refine RX.seq ?_
    | refine RX.region ?_
    | refine RX.cond_true rfl (by with_reducible rfl) ?_
    | refine RX.cond_false rfl (by with_reducible rfl) ?_
    | refine RX.skip ?_
    | refine RX.block ?_
    | refine RX.inBlock_normal ?_
    | refine RX.exit ?_
    | refine RX.then_exit ?_
    | refine RX.inBlock_exit ?_
    | refine RX.inBlock_other rfl ?_
    | refine RX.ret ?_
    | refine RX.then_ret ?_
    | refine RX.inBlock_ret ?_
    | refine RX.unwanted (by first | exact RX.barred_t rfl rfl rfl (by with_reducible rfl) | exact RX.barred_f rfl rfl rfl (by with_reducible rfl)) rfl ?_
    | refine RX.unwanted_none (by first | exact RX.barred_t rfl rfl rfl (by with_reducible rfl) | exact RX.barred_f rfl rfl rfl (by with_reducible rfl)) ?_
    | refine RX.cond rfl (fun h => absurd h (by first | omega | (with_reducible assumption))) (fun _ => ?_)
    | refine RX.cond rfl (fun _ => ?_) (fun h => absurd (by first | omega | (with_reducible assumption)) h))
  refine RX.opw (by first | exact RX.plain rfl | exact RX.guarded rfl rfl rfl (by with_reducible rfl)) ?_
  refine slice_lit [.int .i64 0, .int .i64 2] rfl rfl rfl rfl (by simp [Value.oneCell']) (by simp) (fun b1 w8 hb1 hr8 hu8 => ?_)
  repeat (first
    | (refine RX.opw (by first | exact RX.plain rfl | exact RX.guarded rfl rfl rfl (by with_reducible rfl)) ?_; first | refine RX.soft (RX.move rfl) rfl ?_ | refine RX.soft (RX.assign rfl) rfl ?_ | refine RX.soft (RX.nilCheck_ptr rfl) rfl ?_ | refine RX.soft (RX.fieldAddr0 rfl) rfl ?_ | refine RX.soft (RX.fieldAddrH rfl) rfl ?_ | refine RX.soft (RX.fieldAddr rfl) rfl ?_ | refine RX.soft (RX.load_at rfl (by assumption)) rfl ?_ | refine RX.soft (RX.lookup_at rfl rfl (by assumption)) rfl ?_ | (refine RX.isBin ?_; first | refine RX.soft (RX.lss rfl rfl) rfl ?_ | refine RX.soft (RX.eql rfl rfl) rfl ?_ | refine RX.soft (RX.neq rfl rfl) rfl ?_ | refine RX.soft (RX.geq rfl rfl) rfl ?_ | refine RX.soft (RX.gtr rfl rfl) rfl ?_ | refine RX.soft (RX.leq rfl rfl) rfl ?_ | refine RX.soft (RX.add_one rfl rfl (by omega)) rfl ?_ | refine RX.soft (RX.add_in rfl rfl (by omega)) rfl ?_ | refine RX.soft (RX.sub_in rfl rfl (by omega)) rfl ?_ | refine RX.soft (RX.eql_ptr_nil rfl rfl) rfl ?_ | refine RX.soft (RX.eql_nil_nil rfl rfl) rfl ?_ | refine RX.soft (RX.neq_ptr_nil rfl rfl) rfl ?_ | refine RX.soft (RX.neq_nil_nil rfl rfl) rfl ?_ | refine RX.soft (RX.eql_same rfl rfl (by with_reducible rfl)) rfl ?_ | refine RX.soft (RX.eql_tf rfl rfl (by with_reducible rfl) (by with_reducible rfl)) rfl ?_ | refine RX.soft (RX.eql_ft rfl rfl (by with_reducible rfl) (by with_reducible rfl)) rfl ?_ | refine RX.soft (RX.neq_same rfl rfl (by with_reducible rfl)) rfl ?_ | refine RX.soft (RX.neq_tf rfl rfl (by with_reducible rfl) (by with_reducible rfl)) rfl ?_ | refine RX.soft (RX.neq_ft rfl rfl (by with_reducible rfl) (by with_reducible rfl)) rfl ?_ | refine RX.soft (RX.eql_bool rfl rfl) rfl ?_ | refine RX.soft (RX.neq_bool rfl rfl) rfl ?_) | (refine RX.isCall ?_; first | refine RX.soft (RX.len_slice rfl) rfl ?_ | refine RX.soft (RX.max2 rfl rfl) rfl ?_ | refine RX.soft (RX.min2 rfl rfl) rfl ?_) | refine RX.soft (RX.indexAddr1 rfl rfl (by omega)) rfl ?_ | refine RX.soft (RX.indexAddrO rfl rfl (by omega)) rfl ?_ | refine RX.soft (RX.indexAddrS rfl rfl (by omega)) rfl ?_ | refine RX.soft (RX.pick_true rfl (by with_reducible rfl) rfl) rfl ?_ | refine RX.soft (RX.pick_false rfl (by with_reducible rfl) rfl) rfl ?_ | refine RX.soft (RX.not_t rfl (by with_reducible rfl)) rfl ?_ | refine RX.soft (RX.not_f rfl (by with_reducible rfl)) rfl ?_ | refine RX.soft (RX.not rfl) rfl ?_ | refine RX.soft (RX.extract rfl rfl) rfl ?_ | refine RX.soft (RX.build rfl (by intro w; simp [Instr.build, Instr.fill] <;> rfl)) rfl ?_ | refine RX.slice_one rfl rfl rfl rfl ?_)
    | refine RX.guard_true rfl rfl (by with_reducible rfl) (by first | omega | (with_reducible assumption)) ?_
    | refine RX.guard_false rfl rfl (by with_reducible rfl) (by first | omega | (with_reducible assumption)) ?_
    | refine RX.nil ?_
    | refine RX.then_normal ?_
    | refine RX.seq ?_
    | refine RX.region ?_
    | refine RX.cond_true rfl (by with_reducible rfl) ?_
    | refine RX.cond_false rfl (by with_reducible rfl) ?_
    | refine RX.skip ?_
    | refine RX.block ?_
    | refine RX.inBlock_normal ?_
    | refine RX.exit ?_
    | refine RX.then_exit ?_
    | refine RX.inBlock_exit ?_
    | refine RX.inBlock_other rfl ?_
    | refine RX.ret ?_
    | refine RX.then_ret ?_
    | refine RX.inBlock_ret ?_
    | refine RX.unwanted (by first | exact RX.barred_t rfl rfl rfl (by with_reducible rfl) | exact RX.barred_f rfl rfl rfl (by with_reducible rfl)) rfl ?_
    | refine RX.unwanted_none (by first | exact RX.barred_t rfl rfl rfl (by with_reducible rfl) | exact RX.barred_f rfl rfl rfl (by with_reducible rfl)) ?_
    | refine RX.cond rfl (fun h => absurd h (by first | omega | (with_reducible assumption))) (fun _ => ?_)
    | refine RX.cond rfl (fun _ => ?_) (fun h => absurd (by first | omega | (with_reducible assumption)) h))
  refine RX.opw (by first | exact RX.plain rfl | exact RX.guarded rfl rfl rfl (by with_reducible rfl)) ?_
  refine slice_lit [.int .i64 1, .int .i64 3] rfl rfl rfl rfl (by simp [Value.oneCell']) (by simp) (fun b2 w9 hb2 hr9 hu9 => ?_)
  repeat (first
    | (refine RX.opw (by first | exact RX.plain rfl | exact RX.guarded rfl rfl rfl (by with_reducible rfl)) ?_; first | refine RX.soft (RX.move rfl) rfl ?_ | refine RX.soft (RX.assign rfl) rfl ?_ | refine RX.soft (RX.nilCheck_ptr rfl) rfl ?_ | refine RX.soft (RX.fieldAddr0 rfl) rfl ?_ | refine RX.soft (RX.fieldAddrH rfl) rfl ?_ | refine RX.soft (RX.fieldAddr rfl) rfl ?_ | refine RX.soft (RX.load_at rfl (by assumption)) rfl ?_ | refine RX.soft (RX.lookup_at rfl rfl (by assumption)) rfl ?_ | (refine RX.isBin ?_; first | refine RX.soft (RX.lss rfl rfl) rfl ?_ | refine RX.soft (RX.eql rfl rfl) rfl ?_ | refine RX.soft (RX.neq rfl rfl) rfl ?_ | refine RX.soft (RX.geq rfl rfl) rfl ?_ | refine RX.soft (RX.gtr rfl rfl) rfl ?_ | refine RX.soft (RX.leq rfl rfl) rfl ?_ | refine RX.soft (RX.add_one rfl rfl (by omega)) rfl ?_ | refine RX.soft (RX.add_in rfl rfl (by omega)) rfl ?_ | refine RX.soft (RX.sub_in rfl rfl (by omega)) rfl ?_ | refine RX.soft (RX.eql_ptr_nil rfl rfl) rfl ?_ | refine RX.soft (RX.eql_nil_nil rfl rfl) rfl ?_ | refine RX.soft (RX.neq_ptr_nil rfl rfl) rfl ?_ | refine RX.soft (RX.neq_nil_nil rfl rfl) rfl ?_ | refine RX.soft (RX.eql_same rfl rfl (by with_reducible rfl)) rfl ?_ | refine RX.soft (RX.eql_tf rfl rfl (by with_reducible rfl) (by with_reducible rfl)) rfl ?_ | refine RX.soft (RX.eql_ft rfl rfl (by with_reducible rfl) (by with_reducible rfl)) rfl ?_ | refine RX.soft (RX.neq_same rfl rfl (by with_reducible rfl)) rfl ?_ | refine RX.soft (RX.neq_tf rfl rfl (by with_reducible rfl) (by with_reducible rfl)) rfl ?_ | refine RX.soft (RX.neq_ft rfl rfl (by with_reducible rfl) (by with_reducible rfl)) rfl ?_ | refine RX.soft (RX.eql_bool rfl rfl) rfl ?_ | refine RX.soft (RX.neq_bool rfl rfl) rfl ?_) | (refine RX.isCall ?_; first | refine RX.soft (RX.len_slice rfl) rfl ?_ | refine RX.soft (RX.max2 rfl rfl) rfl ?_ | refine RX.soft (RX.min2 rfl rfl) rfl ?_) | refine RX.soft (RX.indexAddr1 rfl rfl (by omega)) rfl ?_ | refine RX.soft (RX.indexAddrO rfl rfl (by omega)) rfl ?_ | refine RX.soft (RX.indexAddrS rfl rfl (by omega)) rfl ?_ | refine RX.soft (RX.pick_true rfl (by with_reducible rfl) rfl) rfl ?_ | refine RX.soft (RX.pick_false rfl (by with_reducible rfl) rfl) rfl ?_ | refine RX.soft (RX.not_t rfl (by with_reducible rfl)) rfl ?_ | refine RX.soft (RX.not_f rfl (by with_reducible rfl)) rfl ?_ | refine RX.soft (RX.not rfl) rfl ?_ | refine RX.soft (RX.extract rfl rfl) rfl ?_ | refine RX.soft (RX.build rfl (by intro w; simp [Instr.build, Instr.fill] <;> rfl)) rfl ?_ | refine RX.slice_one rfl rfl rfl rfl ?_)
    | refine RX.guard_true rfl rfl (by with_reducible rfl) (by first | omega | (with_reducible assumption)) ?_
    | refine RX.guard_false rfl rfl (by with_reducible rfl) (by first | omega | (with_reducible assumption)) ?_
    | refine RX.nil ?_
    | refine RX.then_normal ?_
    | refine RX.seq ?_
    | refine RX.region ?_
    | refine RX.cond_true rfl (by with_reducible rfl) ?_
    | refine RX.cond_false rfl (by with_reducible rfl) ?_
    | refine RX.skip ?_
    | refine RX.block ?_
    | refine RX.inBlock_normal ?_
    | refine RX.exit ?_
    | refine RX.then_exit ?_
    | refine RX.inBlock_exit ?_
    | refine RX.inBlock_other rfl ?_
    | refine RX.ret ?_
    | refine RX.then_ret ?_
    | refine RX.inBlock_ret ?_
    | refine RX.unwanted (by first | exact RX.barred_t rfl rfl rfl (by with_reducible rfl) | exact RX.barred_f rfl rfl rfl (by with_reducible rfl)) rfl ?_
    | refine RX.unwanted_none (by first | exact RX.barred_t rfl rfl rfl (by with_reducible rfl) | exact RX.barred_f rfl rfl rfl (by with_reducible rfl)) ?_
    | refine RX.cond rfl (fun h => absurd h (by first | omega | (with_reducible assumption))) (fun _ => ?_)
    | refine RX.cond rfl (fun _ => ?_) (fun h => absurd (by first | omega | (with_reducible assumption)) h))
  refine RX.opw (by first | exact RX.plain rfl | exact RX.guarded rfl rfl rfl (by with_reducible rfl)) ?_
  refine slice_lit [.slice (some ⟨b1, 0, none⟩) 2 2, .slice (some ⟨b2, 0, none⟩) 2 2] rfl rfl rfl rfl (by simp [Value.oneCell']) (by simp) (fun b3 w10 hb3 hr10 hu10 => ?_)
  have hB : w6.heap.size ≤ w7.heap.size := hu7.size
  have hu10' : Upd (fun _ => False) w7 w10 := (hu8.trans hu9 (fun _ _ h => h) (fun _ _ h => h)).trans hu10 (fun _ _ h => h) (fun _ _ h => h)
  have hl8 := hr8.lt
  have hl9 := hr9.lt
  have r1 := ((hs.reads (fun _ => True) (fun _ _ => trivial)).keep hu10' (fun _ _ _ h => h))
  have r2 : Reads2 (fun _ => True) w10 (.slice (some ⟨b3, 0, none⟩) 2 2) (([[0, 2], [1, 3]] : List (List Int)).map RX.ints) := reads2_lit hr10 ⟨rfl, rfl⟩ (fun i c xs h1 h2 => by
    match i, h1, h2 with
    | 0, h1, h2 => cases h1; cases h2; exact (Reads.of_row ((hr8.keep hu9 (fun h => h)).keep hu10 (fun h => h)) rfl (by simp) trivial)
    | 1, h1, h2 => cases h1; cases h2; exact (Reads.of_row (hr9.keep hu10 (fun h => h)) rfl (by simp) trivial)) (by simp) trivial
  refine RX.opw (by first | exact RX.plain rfl | exact RX.guarded rfl rfl rfl (by with_reducible rfl)) ?_
  refine call rfl (same_any (fun _ => True) _ _ _ _ _ r1 r2) rfl ?_
  rintro e w11 ⟨rfl, hu11⟩; refine ⟨_, rfl, ?_⟩
  rw [show (decide ([[0, 2], [1, 3]].map (fun l : List Nat => l.map Int.ofNat) = ([[0, 2], [1, 3]] : List (List Int)))) = true from by decide]
  repeat (first
    | (refine RX.opw (by first | exact RX.plain rfl | exact RX.guarded rfl rfl rfl (by with_reducible rfl)) ?_; first | refine RX.soft (RX.move rfl) rfl ?_ | refine RX.soft (RX.assign rfl) rfl ?_ | refine RX.soft (RX.nilCheck_ptr rfl) rfl ?_ | refine RX.soft (RX.fieldAddr0 rfl) rfl ?_ | refine RX.soft (RX.fieldAddrH rfl) rfl ?_ | refine RX.soft (RX.fieldAddr rfl) rfl ?_ | refine RX.soft (RX.load_at rfl (by assumption)) rfl ?_ | refine RX.soft (RX.lookup_at rfl rfl (by assumption)) rfl ?_ | (refine RX.isBin ?_; first | refine RX.soft (RX.lss rfl rfl) rfl ?_ | refine RX.soft (RX.eql rfl rfl) rfl ?_ | refine RX.soft (RX.neq rfl rfl) rfl ?_ | refine RX.soft (RX.geq rfl rfl) rfl ?_ | refine RX.soft (RX.gtr rfl rfl) rfl ?_ | refine RX.soft (RX.leq rfl rfl) rfl ?_ | refine RX.soft (RX.add_one rfl rfl (by omega)) rfl ?_ | refine RX.soft (RX.add_in rfl rfl (by omega)) rfl ?_ | refine RX.soft (RX.sub_in rfl rfl (by omega)) rfl ?_ | refine RX.soft (RX.eql_ptr_nil rfl rfl) rfl ?_ | refine RX.soft (RX.eql_nil_nil rfl rfl) rfl ?_ | refine RX.soft (RX.neq_ptr_nil rfl rfl) rfl ?_ | refine RX.soft (RX.neq_nil_nil rfl rfl) rfl ?_ | refine RX.soft (RX.eql_same rfl rfl (by with_reducible rfl)) rfl ?_ | refine RX.soft (RX.eql_tf rfl rfl (by with_reducible rfl) (by with_reducible rfl)) rfl ?_ | refine RX.soft (RX.eql_ft rfl rfl (by with_reducible rfl) (by with_reducible rfl)) rfl ?_ | refine RX.soft (RX.neq_same rfl rfl (by with_reducible rfl)) rfl ?_ | refine RX.soft (RX.neq_tf rfl rfl (by with_reducible rfl) (by with_reducible rfl)) rfl ?_ | refine RX.soft (RX.neq_ft rfl rfl (by with_reducible rfl) (by with_reducible rfl)) rfl ?_ | refine RX.soft (RX.eql_bool rfl rfl) rfl ?_ | refine RX.soft (RX.neq_bool rfl rfl) rfl ?_) | (refine RX.isCall ?_; first | refine RX.soft (RX.len_slice rfl) rfl ?_ | refine RX.soft (RX.max2 rfl rfl) rfl ?_ | refine RX.soft (RX.min2 rfl rfl) rfl ?_) | refine RX.soft (RX.indexAddr1 rfl rfl (by omega)) rfl ?_ | refine RX.soft (RX.indexAddrO rfl rfl (by omega)) rfl ?_ | refine RX.soft (RX.indexAddrS rfl rfl (by omega)) rfl ?_ | refine RX.soft (RX.pick_true rfl (by with_reducible rfl) rfl) rfl ?_ | refine RX.soft (RX.pick_false rfl (by with_reducible rfl) rfl) rfl ?_ | refine RX.soft (RX.not_t rfl (by with_reducible rfl)) rfl ?_ | refine RX.soft (RX.not_f rfl (by with_reducible rfl)) rfl ?_ | refine RX.soft (RX.not rfl) rfl ?_ | refine RX.soft (RX.extract rfl rfl) rfl ?_ | refine RX.soft (RX.build rfl (by intro w; simp [Instr.build, Instr.fill] <;> rfl)) rfl ?_ | refine RX.slice_one rfl rfl rfl rfl ?_)
    | refine RX.guard_true rfl rfl (by with_reducible rfl) (by first | omega | (with_reducible assumption)) ?_
    | refine RX.guard_false rfl rfl (by with_reducible rfl) (by first | omega | (with_reducible assumption)) ?_
    | refine RX.nil ?_
    | refine RX.then_normal ?_
    | refine RX.seq ?_
    | refine RX.region ?_
    | refine RX.cond_true rfl (by with_reducible rfl) ?_
    | refine RX.cond_false rfl (by with_reducible rfl) ?_
    | refine RX.skip ?_
    | refine RX.block ?_
    | refine RX.inBlock_normal ?_
    | refine RX.exit ?_
    | refine RX.then_exit ?_
    | refine RX.inBlock_exit ?_
    | refine RX.inBlock_other rfl ?_
    | refine RX.ret ?_
    | refine RX.then_ret ?_
    | refine RX.inBlock_ret ?_
    | refine RX.unwanted (by first | exact RX.barred_t rfl rfl rfl (by with_reducible rfl) | exact RX.barred_f rfl rfl rfl (by with_reducible rfl)) rfl ?_
    | refine RX.unwanted_none (by first | exact RX.barred_t rfl rfl rfl (by with_reducible rfl) | exact RX.barred_f rfl rfl rfl (by with_reducible rfl)) ?_
    | refine RX.cond rfl (fun h => absurd h (by first | omega | (with_reducible assumption))) (fun _ => ?_)
    | refine RX.cond rfl (fun _ => ?_) (fun h => absurd (by first | omega | (with_reducible assumption)) h))
  refine ret1 rfl rfl ⟨rfl, ?_⟩
  have f1 : Upd (fun k => k = b) w1 w7 := ((((hu2.trans hu3 (fun _ _ h => h) (fun _ _ h => h)).trans hu4 (fun _ _ h => h) (fun _ _ h => h)).trans hu5 (fun _ _ h => h) (fun _ _ h => h)).trans hu6 (fun _ _ h => h) (fun _ _ h => h)).trans hu7 (fun _ _ h => h) (fun _ _ h => h)
  exact ((hu1.trans f1 (fun _ _ h => h) (fun j hj h => by omega)).trans hu10' (fun _ _ h => h) (fun _ _ h => h)).trans hu11 (fun _ _ h => h) (fun _ _ h => h)
end Go.Proofs.Ytfcmohfddjcfkaa
