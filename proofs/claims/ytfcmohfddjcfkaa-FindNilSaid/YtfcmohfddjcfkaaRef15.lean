/- The walks over the reference of chapters 15 to 18, as far as chapter 18 asks: Same, Ints, Find. -/
import Derived.Test.YtfcmohfddjcfkaaFindSets
namespace Go.Proofs.Ytfcmohfddjcfkaa
open Go Go.RR Go.RX Go.FindM
attribute [local irreducible] wpList Code.wp wpPlan Exit.then Exit.inBlock bodyPost NoPanic Went

theorem getElem_of {α : Type} {l : List α} {i : Nat} {x : α} (h : l[i]? = some x) : ∃ h : i < l.length, l[i] = x := List.getElem?_eq_some_iff.1 h

theorem ints_any (F : Nat → Prop) (v u : Value) (xs ys : List Int) (w : World) (hv : Reads F w v xs.length 1 (ints xs)) (hu : Reads F w u ys.length 1 (ints ys)) :
    Calls Try.prog 18 #[v, u] w fun e w' => e = .returned (.bool (decide (xs = ys))) ∧ Upd (fun _ => False) w w' := by
  obtain ⟨ao, cap, rfl, hn, -, hc⟩ := hv
  obtain ⟨ao', cap', rfl, hn', -, hc'⟩ := hu
  refine enter2 Try.func18 rfl Try.ntmps18 rfl ?_
  by_cases hl : xs.length = ys.length
  · repeat (first
      | (refine RX.opw (by first | exact RX.plain rfl | exact RX.guarded rfl rfl rfl (by with_reducible rfl)) ?_; first | refine RX.soft (RX.move rfl) rfl ?_ | refine RX.soft (RX.assign rfl) rfl ?_ | refine RX.soft (RX.nilCheck_ptr rfl) rfl ?_ | refine RX.soft (RX.fieldAddr0 rfl) rfl ?_ | refine RX.soft (RX.fieldAddrH rfl) rfl ?_ | refine RX.soft (RX.fieldAddr rfl) rfl ?_ | refine RX.soft (RX.load_at rfl (by assumption)) rfl ?_ | refine RX.soft (RX.lookup_at rfl rfl (by assumption)) rfl ?_ | (refine RX.isBin ?_; first | refine RX.soft (RX.lss rfl rfl) rfl ?_ | refine RX.soft (RX.eql rfl rfl) rfl ?_ | refine RX.soft (RX.neq rfl rfl) rfl ?_ | refine RX.soft (RX.geq rfl rfl) rfl ?_ | refine RX.soft (RX.gtr rfl rfl) rfl ?_ | refine RX.soft (RX.leq rfl rfl) rfl ?_ | refine RX.soft (RX.add_one rfl rfl (by omega)) rfl ?_ | refine RX.soft (RX.add_in rfl rfl (by omega)) rfl ?_ | refine RX.soft (RX.sub_in rfl rfl (by omega)) rfl ?_ | refine RX.soft (RX.eql_ptr_nil rfl rfl) rfl ?_ | refine RX.soft (RX.eql_nil_nil rfl rfl) rfl ?_ | refine RX.soft (RX.neq_ptr_nil rfl rfl) rfl ?_ | refine RX.soft (RX.neq_nil_nil rfl rfl) rfl ?_ | refine RX.soft (RX.eql_same rfl rfl (by with_reducible rfl)) rfl ?_ | refine RX.soft (RX.eql_tf rfl rfl (by with_reducible rfl) (by with_reducible rfl)) rfl ?_ | refine RX.soft (RX.eql_ft rfl rfl (by with_reducible rfl) (by with_reducible rfl)) rfl ?_ | refine RX.soft (RX.neq_same rfl rfl (by with_reducible rfl)) rfl ?_ | refine RX.soft (RX.neq_tf rfl rfl (by with_reducible rfl) (by with_reducible rfl)) rfl ?_ | refine RX.soft (RX.neq_ft rfl rfl (by with_reducible rfl) (by with_reducible rfl)) rfl ?_ | refine RX.soft (RX.eql_bool rfl rfl) rfl ?_ | refine RX.soft (RX.neq_bool rfl rfl) rfl ?_) | (refine RX.isCall ?_; first | refine RX.soft (RX.len_slice rfl) rfl ?_ | refine RX.soft (RX.max2 rfl rfl) rfl ?_ | refine RX.soft (RX.min2 rfl rfl) rfl ?_) | refine RX.soft (RX.indexAddr1 rfl rfl (by omega)) rfl ?_ | refine RX.soft (RX.indexAddrO rfl rfl (by omega)) rfl ?_ | refine RX.soft (RX.indexAddrS rfl rfl (by omega)) rfl ?_ | refine RX.soft (RX.pick_true rfl (by with_reducible rfl) rfl) rfl ?_ | refine RX.soft (RX.pick_false rfl (by with_reducible rfl) rfl) rfl ?_ | refine RX.soft (RX.not_t rfl (by with_reducible rfl)) rfl ?_ | refine RX.soft (RX.not_f rfl (by with_reducible rfl)) rfl ?_ | refine RX.soft (RX.not rfl) rfl ?_ | refine RX.soft (RX.extract rfl rfl) rfl ?_ | refine RX.soft (RX.build rfl (by intro w; simp [Instr.build, Instr.fill] <;> rfl)) rfl ?_ | refine RX.slice_one rfl rfl rfl rfl ?_)
      | refine RX.guard_true rfl rfl (by with_reducible rfl) (by first | omega | (with_reducible assumption)) ?_
      | refine RX.guard_false rfl rfl (by with_reducible rfl) (by first | omega | (with_reducible assumption)) ?_
      | refine RX.nil ?_
      | refine RX.then_normal ?_
      | refine RX.seq ?_
      | refine RX.region ?_
      | refine RX.cond_true rfl (by with_reducible rfl) ?_
      | refine RX.cond_false rfl (by with_reducible rfl) ?_
      | refine RX.skip ?_
      | refine RX.block ?_
      | refine RX.inBlock_normal ?_
      | refine RX.exit ?_
      | refine RX.then_exit ?_
      | refine RX.inBlock_exit ?_
      | refine RX.inBlock_other rfl ?_
      | refine RX.ret ?_
      | refine RX.then_ret ?_
      | refine RX.inBlock_ret ?_
      | refine RX.unwanted (by first | exact RX.barred_t rfl rfl rfl (by with_reducible rfl) | exact RX.barred_f rfl rfl rfl (by with_reducible rfl)) rfl ?_
      | refine RX.unwanted_none (by first | exact RX.barred_t rfl rfl rfl (by with_reducible rfl) | exact RX.barred_f rfl rfl rfl (by with_reducible rfl)) ?_
      | refine RX.cond rfl (fun h => absurd h (by first | omega | (with_reducible assumption))) (fun _ => ?_)
      | refine RX.cond rfl (fun _ => ?_) (fun h => absurd (by first | omega | (with_reducible assumption)) h))
    refine RX.loop (σ := Nat) (fun k => [(0, .slice ao xs.length cap), (1, .slice ao' ys.length cap'), (5, .int .i64 (k : Int))])
      (fun k wr => k ≤ xs.length ∧ (∀ j, j < k → xs[j]? = ys[j]?) ∧ Upd (fun _ => False) w wr) (fun k => xs.length - k) 0 ⟨rfl, rfl, rfl, trivial⟩ ⟨by omega, fun j h => by omega, Upd.refl _ _⟩ ?_
    rintro k wr ⟨hk, hj, hu⟩
    by_cases hlt : k < xs.length
    · obtain ⟨x, hx⟩ : ∃ x, xs[k]? = some x := ⟨_, List.getElem?_eq_getElem hlt⟩
      obtain ⟨y, hy⟩ : ∃ y, ys[k]? = some y := ⟨_, List.getElem?_eq_getElem (by omega)⟩
      obtain ⟨b, o, rfl, _, hcx⟩ := hc k _ (by rw [ints_get, hx]; rfl)
      obtain ⟨b', o', rfl, _, hcy⟩ := hc' k _ (by rw [ints_get, hy]; rfl)
      have hcx := hu.cell hcx (fun h => h)
      have hcy := hu.cell hcy (fun h => h)
      repeat (first
        | (refine RX.opw (by first | exact RX.plain rfl | exact RX.guarded rfl rfl rfl (by with_reducible rfl)) ?_; first | refine RX.soft (RX.move rfl) rfl ?_ | refine RX.soft (RX.assign rfl) rfl ?_ | refine RX.soft (RX.nilCheck_ptr rfl) rfl ?_ | refine RX.soft (RX.fieldAddr0 rfl) rfl ?_ | refine RX.soft (RX.fieldAddrH rfl) rfl ?_ | refine RX.soft (RX.fieldAddr rfl) rfl ?_ | refine RX.soft (RX.load_at rfl (by assumption)) rfl ?_ | refine RX.soft (RX.lookup_at rfl rfl (by assumption)) rfl ?_ | (refine RX.isBin ?_; first | refine RX.soft (RX.lss rfl rfl) rfl ?_ | refine RX.soft (RX.eql rfl rfl) rfl ?_ | refine RX.soft (RX.neq rfl rfl) rfl ?_ | refine RX.soft (RX.geq rfl rfl) rfl ?_ | refine RX.soft (RX.gtr rfl rfl) rfl ?_ | refine RX.soft (RX.leq rfl rfl) rfl ?_ | refine RX.soft (RX.add_one rfl rfl (by omega)) rfl ?_ | refine RX.soft (RX.add_in rfl rfl (by omega)) rfl ?_ | refine RX.soft (RX.sub_in rfl rfl (by omega)) rfl ?_ | refine RX.soft (RX.eql_ptr_nil rfl rfl) rfl ?_ | refine RX.soft (RX.eql_nil_nil rfl rfl) rfl ?_ | refine RX.soft (RX.neq_ptr_nil rfl rfl) rfl ?_ | refine RX.soft (RX.neq_nil_nil rfl rfl) rfl ?_ | refine RX.soft (RX.eql_same rfl rfl (by with_reducible rfl)) rfl ?_ | refine RX.soft (RX.eql_tf rfl rfl (by with_reducible rfl) (by with_reducible rfl)) rfl ?_ | refine RX.soft (RX.eql_ft rfl rfl (by with_reducible rfl) (by with_reducible rfl)) rfl ?_ | refine RX.soft (RX.neq_same rfl rfl (by with_reducible rfl)) rfl ?_ | refine RX.soft (RX.neq_tf rfl rfl (by with_reducible rfl) (by with_reducible rfl)) rfl ?_ | refine RX.soft (RX.neq_ft rfl rfl (by with_reducible rfl) (by with_reducible rfl)) rfl ?_ | refine RX.soft (RX.eql_bool rfl rfl) rfl ?_ | refine RX.soft (RX.neq_bool rfl rfl) rfl ?_) | (refine RX.isCall ?_; first | refine RX.soft (RX.len_slice rfl) rfl ?_ | refine RX.soft (RX.max2 rfl rfl) rfl ?_ | refine RX.soft (RX.min2 rfl rfl) rfl ?_) | refine RX.soft (RX.indexAddr1 rfl rfl (by omega)) rfl ?_ | refine RX.soft (RX.indexAddrO rfl rfl (by omega)) rfl ?_ | refine RX.soft (RX.indexAddrS rfl rfl (by omega)) rfl ?_ | refine RX.soft (RX.pick_true rfl (by with_reducible rfl) rfl) rfl ?_ | refine RX.soft (RX.pick_false rfl (by with_reducible rfl) rfl) rfl ?_ | refine RX.soft (RX.not_t rfl (by with_reducible rfl)) rfl ?_ | refine RX.soft (RX.not_f rfl (by with_reducible rfl)) rfl ?_ | refine RX.soft (RX.not rfl) rfl ?_ | refine RX.soft (RX.extract rfl rfl) rfl ?_ | refine RX.soft (RX.build rfl (by intro w; simp [Instr.build, Instr.fill] <;> rfl)) rfl ?_ | refine RX.slice_one rfl rfl rfl rfl ?_)
        | refine RX.guard_true rfl rfl (by with_reducible rfl) (by first | omega | (with_reducible assumption)) ?_
        | refine RX.guard_false rfl rfl (by with_reducible rfl) (by first | omega | (with_reducible assumption)) ?_
        | refine RX.nil ?_
        | refine RX.then_normal ?_
        | refine RX.seq ?_
        | refine RX.region ?_
        | refine RX.cond_true rfl (by with_reducible rfl) ?_
        | refine RX.cond_false rfl (by with_reducible rfl) ?_
        | refine RX.skip ?_
        | refine RX.block ?_
        | refine RX.inBlock_normal ?_
        | refine RX.exit ?_
        | refine RX.then_exit ?_
        | refine RX.inBlock_exit ?_
        | refine RX.inBlock_other rfl ?_
        | refine RX.ret ?_
        | refine RX.then_ret ?_
        | refine RX.inBlock_ret ?_
        | refine RX.unwanted (by first | exact RX.barred_t rfl rfl rfl (by with_reducible rfl) | exact RX.barred_f rfl rfl rfl (by with_reducible rfl)) rfl ?_
        | refine RX.unwanted_none (by first | exact RX.barred_t rfl rfl rfl (by with_reducible rfl) | exact RX.barred_f rfl rfl rfl (by with_reducible rfl)) ?_
        | refine RX.cond rfl (fun h => absurd h (by first | omega | (with_reducible assumption))) (fun _ => ?_)
        | refine RX.cond rfl (fun _ => ?_) (fun h => absurd (by first | omega | (with_reducible assumption)) h))
      refine drawn (fun w' => w' = wr.drew) (fun j => !(List.contains [] j)) [(0, true), (1, true), (2, true), (3, true), (4, true), (5, true), (6, true), (7, true), (8, true)] rfl (by kernel_rfl) (by kernel_rfl) ?_
      repeat (first
        | (refine RX.take rfl (by first | exact RX.plain rfl | exact RX.guarded rfl rfl rfl (by with_reducible rfl)) (by first | assumption | exact rfl) ?_; first | refine RX.tsoft (RX.move rfl) rfl ?_ | refine RX.tsoft (RX.assign rfl) rfl ?_ | refine RX.tsoft (RX.nilCheck_ptr rfl) rfl ?_ | refine RX.tsoft (RX.fieldAddr0 rfl) rfl ?_ | refine RX.tsoft (RX.fieldAddrH rfl) rfl ?_ | refine RX.tsoft (RX.fieldAddr rfl) rfl ?_ | refine RX.tsoft (RX.load rfl (by first | assumption | (intro _ hS; subst hS; assumption))) rfl ?_ | refine RX.tsoft (RX.lookup_some rfl rfl (by first | assumption | (intro _ hS; subst hS; assumption)) (by assumption)) rfl ?_ | refine RX.tsoft (RX.lookup rfl rfl (by first | assumption | (intro _ hS; subst hS; assumption))) rfl ?_ | (refine RX.isBinT ?_; first | refine RX.tsoft (RX.lss rfl rfl) rfl ?_ | refine RX.tsoft (RX.eql rfl rfl) rfl ?_ | refine RX.tsoft (RX.neq rfl rfl) rfl ?_ | refine RX.tsoft (RX.geq rfl rfl) rfl ?_ | refine RX.tsoft (RX.gtr rfl rfl) rfl ?_ | refine RX.tsoft (RX.leq rfl rfl) rfl ?_ | refine RX.tsoft (RX.add_one rfl rfl (by omega)) rfl ?_ | refine RX.tsoft (RX.add_in rfl rfl (by omega)) rfl ?_ | refine RX.tsoft (RX.sub_in rfl rfl (by omega)) rfl ?_ | refine RX.tsoft (RX.eql_ptr_nil rfl rfl) rfl ?_ | refine RX.tsoft (RX.eql_nil_nil rfl rfl) rfl ?_ | refine RX.tsoft (RX.neq_ptr_nil rfl rfl) rfl ?_ | refine RX.tsoft (RX.neq_nil_nil rfl rfl) rfl ?_ | refine RX.tsoft (RX.eql_same rfl rfl (by with_reducible rfl)) rfl ?_ | refine RX.tsoft (RX.eql_tf rfl rfl (by with_reducible rfl) (by with_reducible rfl)) rfl ?_ | refine RX.tsoft (RX.eql_ft rfl rfl (by with_reducible rfl) (by with_reducible rfl)) rfl ?_ | refine RX.tsoft (RX.neq_same rfl rfl (by with_reducible rfl)) rfl ?_ | refine RX.tsoft (RX.neq_tf rfl rfl (by with_reducible rfl) (by with_reducible rfl)) rfl ?_ | refine RX.tsoft (RX.neq_ft rfl rfl (by with_reducible rfl) (by with_reducible rfl)) rfl ?_ | refine RX.tsoft (RX.eql_bool rfl rfl) rfl ?_ | refine RX.tsoft (RX.neq_bool rfl rfl) rfl ?_) | (refine RX.isCallT ?_; first | refine RX.tsoft (RX.len_slice rfl) rfl ?_ | refine RX.tsoft (RX.max2 rfl rfl) rfl ?_ | refine RX.tsoft (RX.min2 rfl rfl) rfl ?_) | refine RX.tsoft (RX.indexAddr1 rfl rfl (by omega)) rfl ?_ | refine RX.tsoft (RX.indexAddrO rfl rfl (by omega)) rfl ?_ | refine RX.tsoft (RX.indexAddrS rfl rfl (by omega)) rfl ?_ | refine RX.tsoft (RX.pick_true rfl (by with_reducible rfl) rfl) rfl ?_ | refine RX.tsoft (RX.pick_false rfl (by with_reducible rfl) rfl) rfl ?_ | refine RX.tsoft (RX.not_t rfl (by with_reducible rfl)) rfl ?_ | refine RX.tsoft (RX.not_f rfl (by with_reducible rfl)) rfl ?_ | refine RX.tsoft (RX.not rfl) rfl ?_ | refine RX.tsoft (RX.extract rfl rfl) rfl ?_ | refine RX.tsoft (RX.build rfl (by intro w; simp [Instr.build, Instr.fill] <;> rfl)) rfl ?_)
        | refine RX.pguard_true rfl rfl (by with_reducible rfl) (by first | omega | (with_reducible assumption)) ?_
        | refine RX.pguard_false rfl rfl (by with_reducible rfl) (by first | omega | (with_reducible assumption)) ?_
        | refine RX.take_not rfl (by first | exact RX.barred_t rfl rfl rfl (by with_reducible rfl) | exact RX.barred_f rfl rfl rfl (by with_reducible rfl)) rfl (by first | assumption | exact rfl) ?_
        | refine RX.done ?_)
      repeat (first
        | (refine RX.opw (by first | exact RX.plain rfl | exact RX.guarded rfl rfl rfl (by with_reducible rfl)) ?_; first | refine RX.soft (RX.move rfl) rfl ?_ | refine RX.soft (RX.assign rfl) rfl ?_ | refine RX.soft (RX.nilCheck_ptr rfl) rfl ?_ | refine RX.soft (RX.fieldAddr0 rfl) rfl ?_ | refine RX.soft (RX.fieldAddrH rfl) rfl ?_ | refine RX.soft (RX.fieldAddr rfl) rfl ?_ | refine RX.soft (RX.load_at rfl (by assumption)) rfl ?_ | refine RX.soft (RX.lookup_at rfl rfl (by assumption)) rfl ?_ | (refine RX.isBin ?_; first | refine RX.soft (RX.lss rfl rfl) rfl ?_ | refine RX.soft (RX.eql rfl rfl) rfl ?_ | refine RX.soft (RX.neq rfl rfl) rfl ?_ | refine RX.soft (RX.geq rfl rfl) rfl ?_ | refine RX.soft (RX.gtr rfl rfl) rfl ?_ | refine RX.soft (RX.leq rfl rfl) rfl ?_ | refine RX.soft (RX.add_one rfl rfl (by omega)) rfl ?_ | refine RX.soft (RX.add_in rfl rfl (by omega)) rfl ?_ | refine RX.soft (RX.sub_in rfl rfl (by omega)) rfl ?_ | refine RX.soft (RX.eql_ptr_nil rfl rfl) rfl ?_ | refine RX.soft (RX.eql_nil_nil rfl rfl) rfl ?_ | refine RX.soft (RX.neq_ptr_nil rfl rfl) rfl ?_ | refine RX.soft (RX.neq_nil_nil rfl rfl) rfl ?_ | refine RX.soft (RX.eql_same rfl rfl (by with_reducible rfl)) rfl ?_ | refine RX.soft (RX.eql_tf rfl rfl (by with_reducible rfl) (by with_reducible rfl)) rfl ?_ | refine RX.soft (RX.eql_ft rfl rfl (by with_reducible rfl) (by with_reducible rfl)) rfl ?_ | refine RX.soft (RX.neq_same rfl rfl (by with_reducible rfl)) rfl ?_ | refine RX.soft (RX.neq_tf rfl rfl (by with_reducible rfl) (by with_reducible rfl)) rfl ?_ | refine RX.soft (RX.neq_ft rfl rfl (by with_reducible rfl) (by with_reducible rfl)) rfl ?_ | refine RX.soft (RX.eql_bool rfl rfl) rfl ?_ | refine RX.soft (RX.neq_bool rfl rfl) rfl ?_) | (refine RX.isCall ?_; first | refine RX.soft (RX.len_slice rfl) rfl ?_ | refine RX.soft (RX.max2 rfl rfl) rfl ?_ | refine RX.soft (RX.min2 rfl rfl) rfl ?_) | refine RX.soft (RX.indexAddr1 rfl rfl (by omega)) rfl ?_ | refine RX.soft (RX.indexAddrO rfl rfl (by omega)) rfl ?_ | refine RX.soft (RX.indexAddrS rfl rfl (by omega)) rfl ?_ | refine RX.soft (RX.pick_true rfl (by with_reducible rfl) rfl) rfl ?_ | refine RX.soft (RX.pick_false rfl (by with_reducible rfl) rfl) rfl ?_ | refine RX.soft (RX.not_t rfl (by with_reducible rfl)) rfl ?_ | refine RX.soft (RX.not_f rfl (by with_reducible rfl)) rfl ?_ | refine RX.soft (RX.not rfl) rfl ?_ | refine RX.soft (RX.extract rfl rfl) rfl ?_ | refine RX.soft (RX.build rfl (by intro w; simp [Instr.build, Instr.fill] <;> rfl)) rfl ?_ | refine RX.slice_one rfl rfl rfl rfl ?_)
        | refine RX.guard_true rfl rfl (by with_reducible rfl) (by first | omega | (with_reducible assumption)) ?_
        | refine RX.guard_false rfl rfl (by with_reducible rfl) (by first | omega | (with_reducible assumption)) ?_
        | refine RX.nil ?_
        | refine RX.then_normal ?_
        | refine RX.seq ?_
        | refine RX.region ?_
        | refine RX.cond_true rfl (by with_reducible rfl) ?_
        | refine RX.cond_false rfl (by with_reducible rfl) ?_
        | refine RX.skip ?_
        | refine RX.block ?_
        | refine RX.inBlock_normal ?_
        | refine RX.exit ?_
        | refine RX.then_exit ?_
        | refine RX.inBlock_exit ?_
        | refine RX.inBlock_other rfl ?_
        | refine RX.ret ?_
        | refine RX.then_ret ?_
        | refine RX.inBlock_ret ?_
        | refine RX.unwanted (by first | exact RX.barred_t rfl rfl rfl (by with_reducible rfl) | exact RX.barred_f rfl rfl rfl (by with_reducible rfl)) rfl ?_
        | refine RX.unwanted_none (by first | exact RX.barred_t rfl rfl rfl (by with_reducible rfl) | exact RX.barred_f rfl rfl rfl (by with_reducible rfl)) ?_
        | refine RX.cond rfl (fun h => absurd h (by first | omega | (with_reducible assumption))) (fun _ => ?_)
        | refine RX.cond rfl (fun _ => ?_) (fun h => absurd (by first | omega | (with_reducible assumption)) h))
      refine RX.cond rfl (fun h => ?_) (fun h => ?_)
      · repeat (first
          | (refine RX.opw (by first | exact RX.plain rfl | exact RX.guarded rfl rfl rfl (by with_reducible rfl)) ?_; first | refine RX.soft (RX.move rfl) rfl ?_ | refine RX.soft (RX.assign rfl) rfl ?_ | refine RX.soft (RX.nilCheck_ptr rfl) rfl ?_ | refine RX.soft (RX.fieldAddr0 rfl) rfl ?_ | refine RX.soft (RX.fieldAddrH rfl) rfl ?_ | refine RX.soft (RX.fieldAddr rfl) rfl ?_ | refine RX.soft (RX.load_at rfl (by assumption)) rfl ?_ | refine RX.soft (RX.lookup_at rfl rfl (by assumption)) rfl ?_ | (refine RX.isBin ?_; first | refine RX.soft (RX.lss rfl rfl) rfl ?_ | refine RX.soft (RX.eql rfl rfl) rfl ?_ | refine RX.soft (RX.neq rfl rfl) rfl ?_ | refine RX.soft (RX.geq rfl rfl) rfl ?_ | refine RX.soft (RX.gtr rfl rfl) rfl ?_ | refine RX.soft (RX.leq rfl rfl) rfl ?_ | refine RX.soft (RX.add_one rfl rfl (by omega)) rfl ?_ | refine RX.soft (RX.add_in rfl rfl (by omega)) rfl ?_ | refine RX.soft (RX.sub_in rfl rfl (by omega)) rfl ?_ | refine RX.soft (RX.eql_ptr_nil rfl rfl) rfl ?_ | refine RX.soft (RX.eql_nil_nil rfl rfl) rfl ?_ | refine RX.soft (RX.neq_ptr_nil rfl rfl) rfl ?_ | refine RX.soft (RX.neq_nil_nil rfl rfl) rfl ?_ | refine RX.soft (RX.eql_same rfl rfl (by with_reducible rfl)) rfl ?_ | refine RX.soft (RX.eql_tf rfl rfl (by with_reducible rfl) (by with_reducible rfl)) rfl ?_ | refine RX.soft (RX.eql_ft rfl rfl (by with_reducible rfl) (by with_reducible rfl)) rfl ?_ | refine RX.soft (RX.neq_same rfl rfl (by with_reducible rfl)) rfl ?_ | refine RX.soft (RX.neq_tf rfl rfl (by with_reducible rfl) (by with_reducible rfl)) rfl ?_ | refine RX.soft (RX.neq_ft rfl rfl (by with_reducible rfl) (by with_reducible rfl)) rfl ?_ | refine RX.soft (RX.eql_bool rfl rfl) rfl ?_ | refine RX.soft (RX.neq_bool rfl rfl) rfl ?_) | (refine RX.isCall ?_; first | refine RX.soft (RX.len_slice rfl) rfl ?_ | refine RX.soft (RX.max2 rfl rfl) rfl ?_ | refine RX.soft (RX.min2 rfl rfl) rfl ?_) | refine RX.soft (RX.indexAddr1 rfl rfl (by omega)) rfl ?_ | refine RX.soft (RX.indexAddrO rfl rfl (by omega)) rfl ?_ | refine RX.soft (RX.indexAddrS rfl rfl (by omega)) rfl ?_ | refine RX.soft (RX.pick_true rfl (by with_reducible rfl) rfl) rfl ?_ | refine RX.soft (RX.pick_false rfl (by with_reducible rfl) rfl) rfl ?_ | refine RX.soft (RX.not_t rfl (by with_reducible rfl)) rfl ?_ | refine RX.soft (RX.not_f rfl (by with_reducible rfl)) rfl ?_ | refine RX.soft (RX.not rfl) rfl ?_ | refine RX.soft (RX.extract rfl rfl) rfl ?_ | refine RX.soft (RX.build rfl (by intro w; simp [Instr.build, Instr.fill] <;> rfl)) rfl ?_ | refine RX.slice_one rfl rfl rfl rfl ?_)
          | refine RX.guard_true rfl rfl (by with_reducible rfl) (by first | omega | (with_reducible assumption)) ?_
          | refine RX.guard_false rfl rfl (by with_reducible rfl) (by first | omega | (with_reducible assumption)) ?_
          | refine RX.nil ?_
          | refine RX.then_normal ?_
          | refine RX.seq ?_
          | refine RX.region ?_
          | refine RX.cond_true rfl (by with_reducible rfl) ?_
          | refine RX.cond_false rfl (by with_reducible rfl) ?_
          | refine RX.skip ?_
          | refine RX.block ?_
          | refine RX.inBlock_normal ?_
          | refine RX.exit ?_
          | refine RX.then_exit ?_
          | refine RX.inBlock_exit ?_
          | refine RX.inBlock_other rfl ?_
          | refine RX.ret ?_
          | refine RX.then_ret ?_
          | refine RX.inBlock_ret ?_
          | refine RX.unwanted (by first | exact RX.barred_t rfl rfl rfl (by with_reducible rfl) | exact RX.barred_f rfl rfl rfl (by with_reducible rfl)) rfl ?_
          | refine RX.unwanted_none (by first | exact RX.barred_t rfl rfl rfl (by with_reducible rfl) | exact RX.barred_f rfl rfl rfl (by with_reducible rfl)) ?_
          | refine RX.cond rfl (fun h => absurd h (by first | omega | (with_reducible assumption))) (fun _ => ?_)
          | refine RX.cond rfl (fun _ => ?_) (fun h => absurd (by first | omega | (with_reducible assumption)) h))
        refine ret1 rfl rfl ⟨ret_bool ?_, hu.drew⟩
        symm
        rw [decide_eq_false_iff_not]
        intro e; subst e; rw [hx] at hy; cases hy; exact h rfl
      · have hxy : x = y := Decidable.not_not.1 h
        repeat (first
          | (refine RX.opw (by first | exact RX.plain rfl | exact RX.guarded rfl rfl rfl (by with_reducible rfl)) ?_; first | refine RX.soft (RX.move rfl) rfl ?_ | refine RX.soft (RX.assign rfl) rfl ?_ | refine RX.soft (RX.nilCheck_ptr rfl) rfl ?_ | refine RX.soft (RX.fieldAddr0 rfl) rfl ?_ | refine RX.soft (RX.fieldAddrH rfl) rfl ?_ | refine RX.soft (RX.fieldAddr rfl) rfl ?_ | refine RX.soft (RX.load_at rfl (by assumption)) rfl ?_ | refine RX.soft (RX.lookup_at rfl rfl (by assumption)) rfl ?_ | (refine RX.isBin ?_; first | refine RX.soft (RX.lss rfl rfl) rfl ?_ | refine RX.soft (RX.eql rfl rfl) rfl ?_ | refine RX.soft (RX.neq rfl rfl) rfl ?_ | refine RX.soft (RX.geq rfl rfl) rfl ?_ | refine RX.soft (RX.gtr rfl rfl) rfl ?_ | refine RX.soft (RX.leq rfl rfl) rfl ?_ | refine RX.soft (RX.add_one rfl rfl (by omega)) rfl ?_ | refine RX.soft (RX.add_in rfl rfl (by omega)) rfl ?_ | refine RX.soft (RX.sub_in rfl rfl (by omega)) rfl ?_ | refine RX.soft (RX.eql_ptr_nil rfl rfl) rfl ?_ | refine RX.soft (RX.eql_nil_nil rfl rfl) rfl ?_ | refine RX.soft (RX.neq_ptr_nil rfl rfl) rfl ?_ | refine RX.soft (RX.neq_nil_nil rfl rfl) rfl ?_ | refine RX.soft (RX.eql_same rfl rfl (by with_reducible rfl)) rfl ?_ | refine RX.soft (RX.eql_tf rfl rfl (by with_reducible rfl) (by with_reducible rfl)) rfl ?_ | refine RX.soft (RX.eql_ft rfl rfl (by with_reducible rfl) (by with_reducible rfl)) rfl ?_ | refine RX.soft (RX.neq_same rfl rfl (by with_reducible rfl)) rfl ?_ | refine RX.soft (RX.neq_tf rfl rfl (by with_reducible rfl) (by with_reducible rfl)) rfl ?_ | refine RX.soft (RX.neq_ft rfl rfl (by with_reducible rfl) (by with_reducible rfl)) rfl ?_ | refine RX.soft (RX.eql_bool rfl rfl) rfl ?_ | refine RX.soft (RX.neq_bool rfl rfl) rfl ?_) | (refine RX.isCall ?_; first | refine RX.soft (RX.len_slice rfl) rfl ?_ | refine RX.soft (RX.max2 rfl rfl) rfl ?_ | refine RX.soft (RX.min2 rfl rfl) rfl ?_) | refine RX.soft (RX.indexAddr1 rfl rfl (by omega)) rfl ?_ | refine RX.soft (RX.indexAddrO rfl rfl (by omega)) rfl ?_ | refine RX.soft (RX.indexAddrS rfl rfl (by omega)) rfl ?_ | refine RX.soft (RX.pick_true rfl (by with_reducible rfl) rfl) rfl ?_ | refine RX.soft (RX.pick_false rfl (by with_reducible rfl) rfl) rfl ?_ | refine RX.soft (RX.not_t rfl (by with_reducible rfl)) rfl ?_ | refine RX.soft (RX.not_f rfl (by with_reducible rfl)) rfl ?_ | refine RX.soft (RX.not rfl) rfl ?_ | refine RX.soft (RX.extract rfl rfl) rfl ?_ | refine RX.soft (RX.build rfl (by intro w; simp [Instr.build, Instr.fill] <;> rfl)) rfl ?_ | refine RX.slice_one rfl rfl rfl rfl ?_)
          | refine RX.guard_true rfl rfl (by with_reducible rfl) (by first | omega | (with_reducible assumption)) ?_
          | refine RX.guard_false rfl rfl (by with_reducible rfl) (by first | omega | (with_reducible assumption)) ?_
          | refine RX.nil ?_
          | refine RX.then_normal ?_
          | refine RX.seq ?_
          | refine RX.region ?_
          | refine RX.cond_true rfl (by with_reducible rfl) ?_
          | refine RX.cond_false rfl (by with_reducible rfl) ?_
          | refine RX.skip ?_
          | refine RX.block ?_
          | refine RX.inBlock_normal ?_
          | refine RX.exit ?_
          | refine RX.then_exit ?_
          | refine RX.inBlock_exit ?_
          | refine RX.inBlock_other rfl ?_
          | refine RX.ret ?_
          | refine RX.then_ret ?_
          | refine RX.inBlock_ret ?_
          | refine RX.unwanted (by first | exact RX.barred_t rfl rfl rfl (by with_reducible rfl) | exact RX.barred_f rfl rfl rfl (by with_reducible rfl)) rfl ?_
          | refine RX.unwanted_none (by first | exact RX.barred_t rfl rfl rfl (by with_reducible rfl) | exact RX.barred_f rfl rfl rfl (by with_reducible rfl)) ?_
          | refine RX.cond rfl (fun h => absurd h (by first | omega | (with_reducible assumption))) (fun _ => ?_)
          | refine RX.cond rfl (fun _ => ?_) (fun h => absurd (by first | omega | (with_reducible assumption)) h))
        refine RX.again (k + 1) ⟨rfl, rfl, rfl, trivial⟩ ⟨by omega, fun j hj2 => ?_, hu.drew⟩ (by omega)
        rcases Nat.lt_or_ge j k with h1 | h1
        · exact hj j h1
        · rw [show j = k by omega, hx, hy, hxy]
    · repeat (first
        | (refine RX.opw (by first | exact RX.plain rfl | exact RX.guarded rfl rfl rfl (by with_reducible rfl)) ?_; first | refine RX.soft (RX.move rfl) rfl ?_ | refine RX.soft (RX.assign rfl) rfl ?_ | refine RX.soft (RX.nilCheck_ptr rfl) rfl ?_ | refine RX.soft (RX.fieldAddr0 rfl) rfl ?_ | refine RX.soft (RX.fieldAddrH rfl) rfl ?_ | refine RX.soft (RX.fieldAddr rfl) rfl ?_ | refine RX.soft (RX.load_at rfl (by assumption)) rfl ?_ | refine RX.soft (RX.lookup_at rfl rfl (by assumption)) rfl ?_ | (refine RX.isBin ?_; first | refine RX.soft (RX.lss rfl rfl) rfl ?_ | refine RX.soft (RX.eql rfl rfl) rfl ?_ | refine RX.soft (RX.neq rfl rfl) rfl ?_ | refine RX.soft (RX.geq rfl rfl) rfl ?_ | refine RX.soft (RX.gtr rfl rfl) rfl ?_ | refine RX.soft (RX.leq rfl rfl) rfl ?_ | refine RX.soft (RX.add_one rfl rfl (by omega)) rfl ?_ | refine RX.soft (RX.add_in rfl rfl (by omega)) rfl ?_ | refine RX.soft (RX.sub_in rfl rfl (by omega)) rfl ?_ | refine RX.soft (RX.eql_ptr_nil rfl rfl) rfl ?_ | refine RX.soft (RX.eql_nil_nil rfl rfl) rfl ?_ | refine RX.soft (RX.neq_ptr_nil rfl rfl) rfl ?_ | refine RX.soft (RX.neq_nil_nil rfl rfl) rfl ?_ | refine RX.soft (RX.eql_same rfl rfl (by with_reducible rfl)) rfl ?_ | refine RX.soft (RX.eql_tf rfl rfl (by with_reducible rfl) (by with_reducible rfl)) rfl ?_ | refine RX.soft (RX.eql_ft rfl rfl (by with_reducible rfl) (by with_reducible rfl)) rfl ?_ | refine RX.soft (RX.neq_same rfl rfl (by with_reducible rfl)) rfl ?_ | refine RX.soft (RX.neq_tf rfl rfl (by with_reducible rfl) (by with_reducible rfl)) rfl ?_ | refine RX.soft (RX.neq_ft rfl rfl (by with_reducible rfl) (by with_reducible rfl)) rfl ?_ | refine RX.soft (RX.eql_bool rfl rfl) rfl ?_ | refine RX.soft (RX.neq_bool rfl rfl) rfl ?_) | (refine RX.isCall ?_; first | refine RX.soft (RX.len_slice rfl) rfl ?_ | refine RX.soft (RX.max2 rfl rfl) rfl ?_ | refine RX.soft (RX.min2 rfl rfl) rfl ?_) | refine RX.soft (RX.indexAddr1 rfl rfl (by omega)) rfl ?_ | refine RX.soft (RX.indexAddrO rfl rfl (by omega)) rfl ?_ | refine RX.soft (RX.indexAddrS rfl rfl (by omega)) rfl ?_ | refine RX.soft (RX.pick_true rfl (by with_reducible rfl) rfl) rfl ?_ | refine RX.soft (RX.pick_false rfl (by with_reducible rfl) rfl) rfl ?_ | refine RX.soft (RX.not_t rfl (by with_reducible rfl)) rfl ?_ | refine RX.soft (RX.not_f rfl (by with_reducible rfl)) rfl ?_ | refine RX.soft (RX.not rfl) rfl ?_ | refine RX.soft (RX.extract rfl rfl) rfl ?_ | refine RX.soft (RX.build rfl (by intro w; simp [Instr.build, Instr.fill] <;> rfl)) rfl ?_ | refine RX.slice_one rfl rfl rfl rfl ?_)
        | refine RX.guard_true rfl rfl (by with_reducible rfl) (by first | omega | (with_reducible assumption)) ?_
        | refine RX.guard_false rfl rfl (by with_reducible rfl) (by first | omega | (with_reducible assumption)) ?_
        | refine RX.nil ?_
        | refine RX.then_normal ?_
        | refine RX.seq ?_
        | refine RX.region ?_
        | refine RX.cond_true rfl (by with_reducible rfl) ?_
        | refine RX.cond_false rfl (by with_reducible rfl) ?_
        | refine RX.skip ?_
        | refine RX.block ?_
        | refine RX.inBlock_normal ?_
        | refine RX.exit ?_
        | refine RX.then_exit ?_
        | refine RX.inBlock_exit ?_
        | refine RX.inBlock_other rfl ?_
        | refine RX.ret ?_
        | refine RX.then_ret ?_
        | refine RX.inBlock_ret ?_
        | refine RX.unwanted (by first | exact RX.barred_t rfl rfl rfl (by with_reducible rfl) | exact RX.barred_f rfl rfl rfl (by with_reducible rfl)) rfl ?_
        | refine RX.unwanted_none (by first | exact RX.barred_t rfl rfl rfl (by with_reducible rfl) | exact RX.barred_f rfl rfl rfl (by with_reducible rfl)) ?_
        | refine RX.cond rfl (fun h => absurd h (by first | omega | (with_reducible assumption))) (fun _ => ?_)
        | refine RX.cond rfl (fun _ => ?_) (fun h => absurd (by first | omega | (with_reducible assumption)) h))
      refine ret1 rfl rfl ⟨ret_bool ?_, hu⟩
      symm
      rw [decide_eq_true_eq]
      apply List.ext_getElem?
      intro j
      rcases Nat.lt_or_ge j k with h1 | h1
      · exact hj j h1
      · rw [List.getElem?_eq_none (by omega), List.getElem?_eq_none (by omega)]
  · repeat (first
      | (refine RX.opw (by first | exact RX.plain rfl | exact RX.guarded rfl rfl rfl (by with_reducible rfl)) ?_; first | refine RX.soft (RX.move rfl) rfl ?_ | refine RX.soft (RX.assign rfl) rfl ?_ | refine RX.soft (RX.nilCheck_ptr rfl) rfl ?_ | refine RX.soft (RX.fieldAddr0 rfl) rfl ?_ | refine RX.soft (RX.fieldAddrH rfl) rfl ?_ | refine RX.soft (RX.fieldAddr rfl) rfl ?_ | refine RX.soft (RX.load_at rfl (by assumption)) rfl ?_ | refine RX.soft (RX.lookup_at rfl rfl (by assumption)) rfl ?_ | (refine RX.isBin ?_; first | refine RX.soft (RX.lss rfl rfl) rfl ?_ | refine RX.soft (RX.eql rfl rfl) rfl ?_ | refine RX.soft (RX.neq rfl rfl) rfl ?_ | refine RX.soft (RX.geq rfl rfl) rfl ?_ | refine RX.soft (RX.gtr rfl rfl) rfl ?_ | refine RX.soft (RX.leq rfl rfl) rfl ?_ | refine RX.soft (RX.add_one rfl rfl (by omega)) rfl ?_ | refine RX.soft (RX.add_in rfl rfl (by omega)) rfl ?_ | refine RX.soft (RX.sub_in rfl rfl (by omega)) rfl ?_ | refine RX.soft (RX.eql_ptr_nil rfl rfl) rfl ?_ | refine RX.soft (RX.eql_nil_nil rfl rfl) rfl ?_ | refine RX.soft (RX.neq_ptr_nil rfl rfl) rfl ?_ | refine RX.soft (RX.neq_nil_nil rfl rfl) rfl ?_ | refine RX.soft (RX.eql_same rfl rfl (by with_reducible rfl)) rfl ?_ | refine RX.soft (RX.eql_tf rfl rfl (by with_reducible rfl) (by with_reducible rfl)) rfl ?_ | refine RX.soft (RX.eql_ft rfl rfl (by with_reducible rfl) (by with_reducible rfl)) rfl ?_ | refine RX.soft (RX.neq_same rfl rfl (by with_reducible rfl)) rfl ?_ | refine RX.soft (RX.neq_tf rfl rfl (by with_reducible rfl) (by with_reducible rfl)) rfl ?_ | refine RX.soft (RX.neq_ft rfl rfl (by with_reducible rfl) (by with_reducible rfl)) rfl ?_ | refine RX.soft (RX.eql_bool rfl rfl) rfl ?_ | refine RX.soft (RX.neq_bool rfl rfl) rfl ?_) | (refine RX.isCall ?_; first | refine RX.soft (RX.len_slice rfl) rfl ?_ | refine RX.soft (RX.max2 rfl rfl) rfl ?_ | refine RX.soft (RX.min2 rfl rfl) rfl ?_) | refine RX.soft (RX.indexAddr1 rfl rfl (by omega)) rfl ?_ | refine RX.soft (RX.indexAddrO rfl rfl (by omega)) rfl ?_ | refine RX.soft (RX.indexAddrS rfl rfl (by omega)) rfl ?_ | refine RX.soft (RX.pick_true rfl (by with_reducible rfl) rfl) rfl ?_ | refine RX.soft (RX.pick_false rfl (by with_reducible rfl) rfl) rfl ?_ | refine RX.soft (RX.not_t rfl (by with_reducible rfl)) rfl ?_ | refine RX.soft (RX.not_f rfl (by with_reducible rfl)) rfl ?_ | refine RX.soft (RX.not rfl) rfl ?_ | refine RX.soft (RX.extract rfl rfl) rfl ?_ | refine RX.soft (RX.build rfl (by intro w; simp [Instr.build, Instr.fill] <;> rfl)) rfl ?_ | refine RX.slice_one rfl rfl rfl rfl ?_)
      | refine RX.guard_true rfl rfl (by with_reducible rfl) (by first | omega | (with_reducible assumption)) ?_
      | refine RX.guard_false rfl rfl (by with_reducible rfl) (by first | omega | (with_reducible assumption)) ?_
      | refine RX.nil ?_
      | refine RX.then_normal ?_
      | refine RX.seq ?_
      | refine RX.region ?_
      | refine RX.cond_true rfl (by with_reducible rfl) ?_
      | refine RX.cond_false rfl (by with_reducible rfl) ?_
      | refine RX.skip ?_
      | refine RX.block ?_
      | refine RX.inBlock_normal ?_
      | refine RX.exit ?_
      | refine RX.then_exit ?_
      | refine RX.inBlock_exit ?_
      | refine RX.inBlock_other rfl ?_
      | refine RX.ret ?_
      | refine RX.then_ret ?_
      | refine RX.inBlock_ret ?_
      | refine RX.unwanted (by first | exact RX.barred_t rfl rfl rfl (by with_reducible rfl) | exact RX.barred_f rfl rfl rfl (by with_reducible rfl)) rfl ?_
      | refine RX.unwanted_none (by first | exact RX.barred_t rfl rfl rfl (by with_reducible rfl) | exact RX.barred_f rfl rfl rfl (by with_reducible rfl)) ?_
      | refine RX.cond rfl (fun h => absurd h (by first | omega | (with_reducible assumption))) (fun _ => ?_)
      | refine RX.cond rfl (fun _ => ?_) (fun h => absurd (by first | omega | (with_reducible assumption)) h))
    refine ret1 rfl rfl ⟨ret_bool ?_, Upd.refl _ _⟩
    symm
    rw [decide_eq_false_iff_not]
    intro e; exact hl (by rw [e])

theorem same_any (F : Nat → Prop) (v u : Value) (xss yss : List (List Int)) (w : World) (hv : Reads2 F w v (xss.map ints)) (hu : Reads2 F w u (yss.map ints)) :
    Calls Try.prog 14 #[v, u] w fun e w' => e = .returned (.bool (decide (xss = yss))) ∧ Upd (fun _ => False) w w' := by
  obtain ⟨cs, ⟨ao, cap, rfl, hn, hcl, hc⟩, hin⟩ := hv
  obtain ⟨cs', ⟨ao', cap', rfl, hn', hcl', hc'⟩, hin'⟩ := hu
  simp only [List.length_map] at *
  refine enter2 Try.func14 rfl Try.ntmps14 rfl ?_
  by_cases hl : xss.length = yss.length
  · repeat (first
      | (refine RX.opw (by first | exact RX.plain rfl | exact RX.guarded rfl rfl rfl (by with_reducible rfl)) ?_; first | refine RX.soft (RX.move rfl) rfl ?_ | refine RX.soft (RX.assign rfl) rfl ?_ | refine RX.soft (RX.nilCheck_ptr rfl) rfl ?_ | refine RX.soft (RX.fieldAddr0 rfl) rfl ?_ | refine RX.soft (RX.fieldAddrH rfl) rfl ?_ | refine RX.soft (RX.fieldAddr rfl) rfl ?_ | refine RX.soft (RX.load_at rfl (by assumption)) rfl ?_ | refine RX.soft (RX.lookup_at rfl rfl (by assumption)) rfl ?_ | (refine RX.isBin ?_; first | refine RX.soft (RX.lss rfl rfl) rfl ?_ | refine RX.soft (RX.eql rfl rfl) rfl ?_ | refine RX.soft (RX.neq rfl rfl) rfl ?_ | refine RX.soft (RX.geq rfl rfl) rfl ?_ | refine RX.soft (RX.gtr rfl rfl) rfl ?_ | refine RX.soft (RX.leq rfl rfl) rfl ?_ | refine RX.soft (RX.add_one rfl rfl (by omega)) rfl ?_ | refine RX.soft (RX.add_in rfl rfl (by omega)) rfl ?_ | refine RX.soft (RX.sub_in rfl rfl (by omega)) rfl ?_ | refine RX.soft (RX.eql_ptr_nil rfl rfl) rfl ?_ | refine RX.soft (RX.eql_nil_nil rfl rfl) rfl ?_ | refine RX.soft (RX.neq_ptr_nil rfl rfl) rfl ?_ | refine RX.soft (RX.neq_nil_nil rfl rfl) rfl ?_ | refine RX.soft (RX.eql_same rfl rfl (by with_reducible rfl)) rfl ?_ | refine RX.soft (RX.eql_tf rfl rfl (by with_reducible rfl) (by with_reducible rfl)) rfl ?_ | refine RX.soft (RX.eql_ft rfl rfl (by with_reducible rfl) (by with_reducible rfl)) rfl ?_ | refine RX.soft (RX.neq_same rfl rfl (by with_reducible rfl)) rfl ?_ | refine RX.soft (RX.neq_tf rfl rfl (by with_reducible rfl) (by with_reducible rfl)) rfl ?_ | refine RX.soft (RX.neq_ft rfl rfl (by with_reducible rfl) (by with_reducible rfl)) rfl ?_ | refine RX.soft (RX.eql_bool rfl rfl) rfl ?_ | refine RX.soft (RX.neq_bool rfl rfl) rfl ?_) | (refine RX.isCall ?_; first | refine RX.soft (RX.len_slice rfl) rfl ?_ | refine RX.soft (RX.max2 rfl rfl) rfl ?_ | refine RX.soft (RX.min2 rfl rfl) rfl ?_) | refine RX.soft (RX.indexAddr1 rfl rfl (by omega)) rfl ?_ | refine RX.soft (RX.indexAddrO rfl rfl (by omega)) rfl ?_ | refine RX.soft (RX.indexAddrS rfl rfl (by omega)) rfl ?_ | refine RX.soft (RX.pick_true rfl (by with_reducible rfl) rfl) rfl ?_ | refine RX.soft (RX.pick_false rfl (by with_reducible rfl) rfl) rfl ?_ | refine RX.soft (RX.not_t rfl (by with_reducible rfl)) rfl ?_ | refine RX.soft (RX.not_f rfl (by with_reducible rfl)) rfl ?_ | refine RX.soft (RX.not rfl) rfl ?_ | refine RX.soft (RX.extract rfl rfl) rfl ?_ | refine RX.soft (RX.build rfl (by intro w; simp [Instr.build, Instr.fill] <;> rfl)) rfl ?_ | refine RX.slice_one rfl rfl rfl rfl ?_)
      | refine RX.guard_true rfl rfl (by with_reducible rfl) (by first | omega | (with_reducible assumption)) ?_
      | refine RX.guard_false rfl rfl (by with_reducible rfl) (by first | omega | (with_reducible assumption)) ?_
      | refine RX.nil ?_
      | refine RX.then_normal ?_
      | refine RX.seq ?_
      | refine RX.region ?_
      | refine RX.cond_true rfl (by with_reducible rfl) ?_
      | refine RX.cond_false rfl (by with_reducible rfl) ?_
      | refine RX.skip ?_
      | refine RX.block ?_
      | refine RX.inBlock_normal ?_
      | refine RX.exit ?_
      | refine RX.then_exit ?_
      | refine RX.inBlock_exit ?_
      | refine RX.inBlock_other rfl ?_
      | refine RX.ret ?_
      | refine RX.then_ret ?_
      | refine RX.inBlock_ret ?_
      | refine RX.unwanted (by first | exact RX.barred_t rfl rfl rfl (by with_reducible rfl) | exact RX.barred_f rfl rfl rfl (by with_reducible rfl)) rfl ?_
      | refine RX.unwanted_none (by first | exact RX.barred_t rfl rfl rfl (by with_reducible rfl) | exact RX.barred_f rfl rfl rfl (by with_reducible rfl)) ?_
      | refine RX.cond rfl (fun h => absurd h (by first | omega | (with_reducible assumption))) (fun _ => ?_)
      | refine RX.cond rfl (fun _ => ?_) (fun h => absurd (by first | omega | (with_reducible assumption)) h))
    refine RX.loop (σ := Nat) (fun k => [(0, .slice ao xss.length cap), (1, .slice ao' yss.length cap'), (5, .int .i64 (k : Int))])
      (fun k wr => k ≤ xss.length ∧ (∀ j, j < k → xss[j]? = yss[j]?) ∧ Upd (fun _ => False) w wr) (fun k => xss.length - k) 0 ⟨rfl, rfl, rfl, trivial⟩ ⟨by omega, fun j h => by omega, Upd.refl _ _⟩ ?_
    rintro k wr ⟨hk, hj, hu⟩
    by_cases hlt : k < xss.length
    · obtain ⟨xs, hx⟩ : ∃ x, xss[k]? = some x := ⟨_, List.getElem?_eq_getElem hlt⟩
      obtain ⟨ys, hy⟩ : ∃ y, yss[k]? = some y := ⟨_, List.getElem?_eq_getElem (by omega)⟩
      obtain ⟨c, hcx⟩ : ∃ x, cs[k]? = some x := ⟨_, List.getElem?_eq_getElem (by omega)⟩
      obtain ⟨c', hcy⟩ : ∃ y, cs'[k]? = some y := ⟨_, List.getElem?_eq_getElem (by omega)⟩
      obtain ⟨b, o, rfl, _, hlx⟩ := hc k _ hcx
      obtain ⟨b', o', rfl, _, hly⟩ := hc' k _ hcy
      have hlx := hu.cell hlx (fun h => h)
      have hly := hu.cell hly (fun h => h)
      have r1 := (hin k c (ints xs) hcx (by rw [List.getElem?_map, hx]; rfl)).keep hu.drew (fun _ _ _ h => h)
      have r2 := (hin' k c' (ints ys) hcy (by rw [List.getElem?_map, hy]; rfl)).keep hu.drew (fun _ _ _ h => h)
      rw [ints_length] at r1 r2
      have hS0 : Upd (fun _ => False) wr.drew wr.drew := Upd.refl _ _
      have s1 : ∀ w', Upd (fun _ => False) wr.drew w' → w'.cell? ⟨b, o + k, none⟩ = some c := fun w' h => h.cell (w := wr.drew) hlx (fun h => h)
      have s2 : ∀ w', Upd (fun _ => False) wr.drew w' → w'.cell? ⟨b', o' + k, none⟩ = some c' := fun w' h => h.cell (w := wr.drew) hly (fun h => h)
      repeat (first
        | (refine RX.opw (by first | exact RX.plain rfl | exact RX.guarded rfl rfl rfl (by with_reducible rfl)) ?_; first | refine RX.soft (RX.move rfl) rfl ?_ | refine RX.soft (RX.assign rfl) rfl ?_ | refine RX.soft (RX.nilCheck_ptr rfl) rfl ?_ | refine RX.soft (RX.fieldAddr0 rfl) rfl ?_ | refine RX.soft (RX.fieldAddrH rfl) rfl ?_ | refine RX.soft (RX.fieldAddr rfl) rfl ?_ | refine RX.soft (RX.load_at rfl (by assumption)) rfl ?_ | refine RX.soft (RX.lookup_at rfl rfl (by assumption)) rfl ?_ | (refine RX.isBin ?_; first | refine RX.soft (RX.lss rfl rfl) rfl ?_ | refine RX.soft (RX.eql rfl rfl) rfl ?_ | refine RX.soft (RX.neq rfl rfl) rfl ?_ | refine RX.soft (RX.geq rfl rfl) rfl ?_ | refine RX.soft (RX.gtr rfl rfl) rfl ?_ | refine RX.soft (RX.leq rfl rfl) rfl ?_ | refine RX.soft (RX.add_one rfl rfl (by omega)) rfl ?_ | refine RX.soft (RX.add_in rfl rfl (by omega)) rfl ?_ | refine RX.soft (RX.sub_in rfl rfl (by omega)) rfl ?_ | refine RX.soft (RX.eql_ptr_nil rfl rfl) rfl ?_ | refine RX.soft (RX.eql_nil_nil rfl rfl) rfl ?_ | refine RX.soft (RX.neq_ptr_nil rfl rfl) rfl ?_ | refine RX.soft (RX.neq_nil_nil rfl rfl) rfl ?_ | refine RX.soft (RX.eql_same rfl rfl (by with_reducible rfl)) rfl ?_ | refine RX.soft (RX.eql_tf rfl rfl (by with_reducible rfl) (by with_reducible rfl)) rfl ?_ | refine RX.soft (RX.eql_ft rfl rfl (by with_reducible rfl) (by with_reducible rfl)) rfl ?_ | refine RX.soft (RX.neq_same rfl rfl (by with_reducible rfl)) rfl ?_ | refine RX.soft (RX.neq_tf rfl rfl (by with_reducible rfl) (by with_reducible rfl)) rfl ?_ | refine RX.soft (RX.neq_ft rfl rfl (by with_reducible rfl) (by with_reducible rfl)) rfl ?_ | refine RX.soft (RX.eql_bool rfl rfl) rfl ?_ | refine RX.soft (RX.neq_bool rfl rfl) rfl ?_) | (refine RX.isCall ?_; first | refine RX.soft (RX.len_slice rfl) rfl ?_ | refine RX.soft (RX.max2 rfl rfl) rfl ?_ | refine RX.soft (RX.min2 rfl rfl) rfl ?_) | refine RX.soft (RX.indexAddr1 rfl rfl (by omega)) rfl ?_ | refine RX.soft (RX.indexAddrO rfl rfl (by omega)) rfl ?_ | refine RX.soft (RX.indexAddrS rfl rfl (by omega)) rfl ?_ | refine RX.soft (RX.pick_true rfl (by with_reducible rfl) rfl) rfl ?_ | refine RX.soft (RX.pick_false rfl (by with_reducible rfl) rfl) rfl ?_ | refine RX.soft (RX.not_t rfl (by with_reducible rfl)) rfl ?_ | refine RX.soft (RX.not_f rfl (by with_reducible rfl)) rfl ?_ | refine RX.soft (RX.not rfl) rfl ?_ | refine RX.soft (RX.extract rfl rfl) rfl ?_ | refine RX.soft (RX.build rfl (by intro w; simp [Instr.build, Instr.fill] <;> rfl)) rfl ?_ | refine RX.slice_one rfl rfl rfl rfl ?_)
        | refine RX.guard_true rfl rfl (by with_reducible rfl) (by first | omega | (with_reducible assumption)) ?_
        | refine RX.guard_false rfl rfl (by with_reducible rfl) (by first | omega | (with_reducible assumption)) ?_
        | refine RX.nil ?_
        | refine RX.then_normal ?_
        | refine RX.seq ?_
        | refine RX.region ?_
        | refine RX.cond_true rfl (by with_reducible rfl) ?_
        | refine RX.cond_false rfl (by with_reducible rfl) ?_
        | refine RX.skip ?_
        | refine RX.block ?_
        | refine RX.inBlock_normal ?_
        | refine RX.exit ?_
        | refine RX.then_exit ?_
        | refine RX.inBlock_exit ?_
        | refine RX.inBlock_other rfl ?_
        | refine RX.ret ?_
        | refine RX.then_ret ?_
        | refine RX.inBlock_ret ?_
        | refine RX.unwanted (by first | exact RX.barred_t rfl rfl rfl (by with_reducible rfl) | exact RX.barred_f rfl rfl rfl (by with_reducible rfl)) rfl ?_
        | refine RX.unwanted_none (by first | exact RX.barred_t rfl rfl rfl (by with_reducible rfl) | exact RX.barred_f rfl rfl rfl (by with_reducible rfl)) ?_
        | refine RX.cond rfl (fun h => absurd h (by first | omega | (with_reducible assumption))) (fun _ => ?_)
        | refine RX.cond rfl (fun _ => ?_) (fun h => absurd (by first | omega | (with_reducible assumption)) h))
      refine drawn (fun w' => Upd (fun _ => False) wr.drew w') (fun j => !(List.contains [] j)) [(0, true), (1, true), (2, true), (3, true), (4, true), (5, true), (6, true), (7, true), (8, false), (9, true)] rfl (by kernel_rfl) (by kernel_rfl) ?_
      repeat (first
        | (refine RX.take rfl (by first | exact RX.plain rfl | exact RX.guarded rfl rfl rfl (by with_reducible rfl)) (by first | assumption | exact rfl) ?_; first | refine RX.tsoft (RX.move rfl) rfl ?_ | refine RX.tsoft (RX.assign rfl) rfl ?_ | refine RX.tsoft (RX.nilCheck_ptr rfl) rfl ?_ | refine RX.tsoft (RX.fieldAddr0 rfl) rfl ?_ | refine RX.tsoft (RX.fieldAddrH rfl) rfl ?_ | refine RX.tsoft (RX.fieldAddr rfl) rfl ?_ | refine RX.tsoft (RX.load rfl (by first | assumption | (intro _ hS; subst hS; assumption))) rfl ?_ | refine RX.tsoft (RX.lookup_some rfl rfl (by first | assumption | (intro _ hS; subst hS; assumption)) (by assumption)) rfl ?_ | refine RX.tsoft (RX.lookup rfl rfl (by first | assumption | (intro _ hS; subst hS; assumption))) rfl ?_ | (refine RX.isBinT ?_; first | refine RX.tsoft (RX.lss rfl rfl) rfl ?_ | refine RX.tsoft (RX.eql rfl rfl) rfl ?_ | refine RX.tsoft (RX.neq rfl rfl) rfl ?_ | refine RX.tsoft (RX.geq rfl rfl) rfl ?_ | refine RX.tsoft (RX.gtr rfl rfl) rfl ?_ | refine RX.tsoft (RX.leq rfl rfl) rfl ?_ | refine RX.tsoft (RX.add_one rfl rfl (by omega)) rfl ?_ | refine RX.tsoft (RX.add_in rfl rfl (by omega)) rfl ?_ | refine RX.tsoft (RX.sub_in rfl rfl (by omega)) rfl ?_ | refine RX.tsoft (RX.eql_ptr_nil rfl rfl) rfl ?_ | refine RX.tsoft (RX.eql_nil_nil rfl rfl) rfl ?_ | refine RX.tsoft (RX.neq_ptr_nil rfl rfl) rfl ?_ | refine RX.tsoft (RX.neq_nil_nil rfl rfl) rfl ?_ | refine RX.tsoft (RX.eql_same rfl rfl (by with_reducible rfl)) rfl ?_ | refine RX.tsoft (RX.eql_tf rfl rfl (by with_reducible rfl) (by with_reducible rfl)) rfl ?_ | refine RX.tsoft (RX.eql_ft rfl rfl (by with_reducible rfl) (by with_reducible rfl)) rfl ?_ | refine RX.tsoft (RX.neq_same rfl rfl (by with_reducible rfl)) rfl ?_ | refine RX.tsoft (RX.neq_tf rfl rfl (by with_reducible rfl) (by with_reducible rfl)) rfl ?_ | refine RX.tsoft (RX.neq_ft rfl rfl (by with_reducible rfl) (by with_reducible rfl)) rfl ?_ | refine RX.tsoft (RX.eql_bool rfl rfl) rfl ?_ | refine RX.tsoft (RX.neq_bool rfl rfl) rfl ?_) | (refine RX.isCallT ?_; first | refine RX.tsoft (RX.len_slice rfl) rfl ?_ | refine RX.tsoft (RX.max2 rfl rfl) rfl ?_ | refine RX.tsoft (RX.min2 rfl rfl) rfl ?_) | refine RX.tsoft (RX.indexAddr1 rfl rfl (by omega)) rfl ?_ | refine RX.tsoft (RX.indexAddrO rfl rfl (by omega)) rfl ?_ | refine RX.tsoft (RX.indexAddrS rfl rfl (by omega)) rfl ?_ | refine RX.tsoft (RX.pick_true rfl (by with_reducible rfl) rfl) rfl ?_ | refine RX.tsoft (RX.pick_false rfl (by with_reducible rfl) rfl) rfl ?_ | refine RX.tsoft (RX.not_t rfl (by with_reducible rfl)) rfl ?_ | refine RX.tsoft (RX.not_f rfl (by with_reducible rfl)) rfl ?_ | refine RX.tsoft (RX.not rfl) rfl ?_ | refine RX.tsoft (RX.extract rfl rfl) rfl ?_ | refine RX.tsoft (RX.build rfl (by intro w; simp [Instr.build, Instr.fill] <;> rfl)) rfl ?_)
        | refine RX.pguard_true rfl rfl (by with_reducible rfl) (by first | omega | (with_reducible assumption)) ?_
        | refine RX.pguard_false rfl rfl (by with_reducible rfl) (by first | omega | (with_reducible assumption)) ?_
        | refine RX.take_not rfl (by first | exact RX.barred_t rfl rfl rfl (by with_reducible rfl) | exact RX.barred_f rfl rfl rfl (by with_reducible rfl)) rfl (by first | assumption | exact rfl) ?_
        | refine RX.done ?_)
      refine RX.go rfl rfl ?_
      refine call rfl (ints_any F c c' xs ys _ r1 r2) rfl ?_
      rintro e w2 ⟨rfl, hu2⟩; refine ⟨_, rfl, ?_⟩
      refine RX.went hu2 ?_
      have hu3 : Upd (fun _ => False) w w2 := hu.drew.trans hu2 (fun _ _ h => h) (fun _ _ h => h)
      by_cases hxy : xs = ys
      · have hd : decide (xs = ys) = true := by simpa using hxy
        rw [hd]
        repeat (first
          | (refine RX.take rfl (by first | exact RX.plain rfl | exact RX.guarded rfl rfl rfl (by with_reducible rfl)) (by first | assumption | exact rfl) ?_; first | refine RX.tsoft (RX.move rfl) rfl ?_ | refine RX.tsoft (RX.assign rfl) rfl ?_ | refine RX.tsoft (RX.nilCheck_ptr rfl) rfl ?_ | refine RX.tsoft (RX.fieldAddr0 rfl) rfl ?_ | refine RX.tsoft (RX.fieldAddrH rfl) rfl ?_ | refine RX.tsoft (RX.fieldAddr rfl) rfl ?_ | refine RX.tsoft (RX.load rfl (by first | assumption | (intro _ hS; subst hS; assumption))) rfl ?_ | refine RX.tsoft (RX.lookup_some rfl rfl (by first | assumption | (intro _ hS; subst hS; assumption)) (by assumption)) rfl ?_ | refine RX.tsoft (RX.lookup rfl rfl (by first | assumption | (intro _ hS; subst hS; assumption))) rfl ?_ | (refine RX.isBinT ?_; first | refine RX.tsoft (RX.lss rfl rfl) rfl ?_ | refine RX.tsoft (RX.eql rfl rfl) rfl ?_ | refine RX.tsoft (RX.neq rfl rfl) rfl ?_ | refine RX.tsoft (RX.geq rfl rfl) rfl ?_ | refine RX.tsoft (RX.gtr rfl rfl) rfl ?_ | refine RX.tsoft (RX.leq rfl rfl) rfl ?_ | refine RX.tsoft (RX.add_one rfl rfl (by omega)) rfl ?_ | refine RX.tsoft (RX.add_in rfl rfl (by omega)) rfl ?_ | refine RX.tsoft (RX.sub_in rfl rfl (by omega)) rfl ?_ | refine RX.tsoft (RX.eql_ptr_nil rfl rfl) rfl ?_ | refine RX.tsoft (RX.eql_nil_nil rfl rfl) rfl ?_ | refine RX.tsoft (RX.neq_ptr_nil rfl rfl) rfl ?_ | refine RX.tsoft (RX.neq_nil_nil rfl rfl) rfl ?_ | refine RX.tsoft (RX.eql_same rfl rfl (by with_reducible rfl)) rfl ?_ | refine RX.tsoft (RX.eql_tf rfl rfl (by with_reducible rfl) (by with_reducible rfl)) rfl ?_ | refine RX.tsoft (RX.eql_ft rfl rfl (by with_reducible rfl) (by with_reducible rfl)) rfl ?_ | refine RX.tsoft (RX.neq_same rfl rfl (by with_reducible rfl)) rfl ?_ | refine RX.tsoft (RX.neq_tf rfl rfl (by with_reducible rfl) (by with_reducible rfl)) rfl ?_ | refine RX.tsoft (RX.neq_ft rfl rfl (by with_reducible rfl) (by with_reducible rfl)) rfl ?_ | refine RX.tsoft (RX.eql_bool rfl rfl) rfl ?_ | refine RX.tsoft (RX.neq_bool rfl rfl) rfl ?_) | (refine RX.isCallT ?_; first | refine RX.tsoft (RX.len_slice rfl) rfl ?_ | refine RX.tsoft (RX.max2 rfl rfl) rfl ?_ | refine RX.tsoft (RX.min2 rfl rfl) rfl ?_) | refine RX.tsoft (RX.indexAddr1 rfl rfl (by omega)) rfl ?_ | refine RX.tsoft (RX.indexAddrO rfl rfl (by omega)) rfl ?_ | refine RX.tsoft (RX.indexAddrS rfl rfl (by omega)) rfl ?_ | refine RX.tsoft (RX.pick_true rfl (by with_reducible rfl) rfl) rfl ?_ | refine RX.tsoft (RX.pick_false rfl (by with_reducible rfl) rfl) rfl ?_ | refine RX.tsoft (RX.not_t rfl (by with_reducible rfl)) rfl ?_ | refine RX.tsoft (RX.not_f rfl (by with_reducible rfl)) rfl ?_ | refine RX.tsoft (RX.not rfl) rfl ?_ | refine RX.tsoft (RX.extract rfl rfl) rfl ?_ | refine RX.tsoft (RX.build rfl (by intro w; simp [Instr.build, Instr.fill] <;> rfl)) rfl ?_)
          | refine RX.pguard_true rfl rfl (by with_reducible rfl) (by first | omega | (with_reducible assumption)) ?_
          | refine RX.pguard_false rfl rfl (by with_reducible rfl) (by first | omega | (with_reducible assumption)) ?_
          | refine RX.take_not rfl (by first | exact RX.barred_t rfl rfl rfl (by with_reducible rfl) | exact RX.barred_f rfl rfl rfl (by with_reducible rfl)) rfl (by first | assumption | exact rfl) ?_
          | refine RX.done ?_)
        repeat (first
          | (refine RX.opw (by first | exact RX.plain rfl | exact RX.guarded rfl rfl rfl (by with_reducible rfl)) ?_; first | refine RX.soft (RX.move rfl) rfl ?_ | refine RX.soft (RX.assign rfl) rfl ?_ | refine RX.soft (RX.nilCheck_ptr rfl) rfl ?_ | refine RX.soft (RX.fieldAddr0 rfl) rfl ?_ | refine RX.soft (RX.fieldAddrH rfl) rfl ?_ | refine RX.soft (RX.fieldAddr rfl) rfl ?_ | refine RX.soft (RX.load_at rfl (by assumption)) rfl ?_ | refine RX.soft (RX.lookup_at rfl rfl (by assumption)) rfl ?_ | (refine RX.isBin ?_; first | refine RX.soft (RX.lss rfl rfl) rfl ?_ | refine RX.soft (RX.eql rfl rfl) rfl ?_ | refine RX.soft (RX.neq rfl rfl) rfl ?_ | refine RX.soft (RX.geq rfl rfl) rfl ?_ | refine RX.soft (RX.gtr rfl rfl) rfl ?_ | refine RX.soft (RX.leq rfl rfl) rfl ?_ | refine RX.soft (RX.add_one rfl rfl (by omega)) rfl ?_ | refine RX.soft (RX.add_in rfl rfl (by omega)) rfl ?_ | refine RX.soft (RX.sub_in rfl rfl (by omega)) rfl ?_ | refine RX.soft (RX.eql_ptr_nil rfl rfl) rfl ?_ | refine RX.soft (RX.eql_nil_nil rfl rfl) rfl ?_ | refine RX.soft (RX.neq_ptr_nil rfl rfl) rfl ?_ | refine RX.soft (RX.neq_nil_nil rfl rfl) rfl ?_ | refine RX.soft (RX.eql_same rfl rfl (by with_reducible rfl)) rfl ?_ | refine RX.soft (RX.eql_tf rfl rfl (by with_reducible rfl) (by with_reducible rfl)) rfl ?_ | refine RX.soft (RX.eql_ft rfl rfl (by with_reducible rfl) (by with_reducible rfl)) rfl ?_ | refine RX.soft (RX.neq_same rfl rfl (by with_reducible rfl)) rfl ?_ | refine RX.soft (RX.neq_tf rfl rfl (by with_reducible rfl) (by with_reducible rfl)) rfl ?_ | refine RX.soft (RX.neq_ft rfl rfl (by with_reducible rfl) (by with_reducible rfl)) rfl ?_ | refine RX.soft (RX.eql_bool rfl rfl) rfl ?_ | refine RX.soft (RX.neq_bool rfl rfl) rfl ?_) | (refine RX.isCall ?_; first | refine RX.soft (RX.len_slice rfl) rfl ?_ | refine RX.soft (RX.max2 rfl rfl) rfl ?_ | refine RX.soft (RX.min2 rfl rfl) rfl ?_) | refine RX.soft (RX.indexAddr1 rfl rfl (by omega)) rfl ?_ | refine RX.soft (RX.indexAddrO rfl rfl (by omega)) rfl ?_ | refine RX.soft (RX.indexAddrS rfl rfl (by omega)) rfl ?_ | refine RX.soft (RX.pick_true rfl (by with_reducible rfl) rfl) rfl ?_ | refine RX.soft (RX.pick_false rfl (by with_reducible rfl) rfl) rfl ?_ | refine RX.soft (RX.not_t rfl (by with_reducible rfl)) rfl ?_ | refine RX.soft (RX.not_f rfl (by with_reducible rfl)) rfl ?_ | refine RX.soft (RX.not rfl) rfl ?_ | refine RX.soft (RX.extract rfl rfl) rfl ?_ | refine RX.soft (RX.build rfl (by intro w; simp [Instr.build, Instr.fill] <;> rfl)) rfl ?_ | refine RX.slice_one rfl rfl rfl rfl ?_)
          | refine RX.guard_true rfl rfl (by with_reducible rfl) (by first | omega | (with_reducible assumption)) ?_
          | refine RX.guard_false rfl rfl (by with_reducible rfl) (by first | omega | (with_reducible assumption)) ?_
          | refine RX.nil ?_
          | refine RX.then_normal ?_
          | refine RX.seq ?_
          | refine RX.region ?_
          | refine RX.cond_true rfl (by with_reducible rfl) ?_
          | refine RX.cond_false rfl (by with_reducible rfl) ?_
          | refine RX.skip ?_
          | refine RX.block ?_
          | refine RX.inBlock_normal ?_
          | refine RX.exit ?_
          | refine RX.then_exit ?_
          | refine RX.inBlock_exit ?_
          | refine RX.inBlock_other rfl ?_
          | refine RX.ret ?_
          | refine RX.then_ret ?_
          | refine RX.inBlock_ret ?_
          | refine RX.unwanted (by first | exact RX.barred_t rfl rfl rfl (by with_reducible rfl) | exact RX.barred_f rfl rfl rfl (by with_reducible rfl)) rfl ?_
          | refine RX.unwanted_none (by first | exact RX.barred_t rfl rfl rfl (by with_reducible rfl) | exact RX.barred_f rfl rfl rfl (by with_reducible rfl)) ?_
          | refine RX.cond rfl (fun h => absurd h (by first | omega | (with_reducible assumption))) (fun _ => ?_)
          | refine RX.cond rfl (fun _ => ?_) (fun h => absurd (by first | omega | (with_reducible assumption)) h))
        refine RX.again (k + 1) ⟨rfl, rfl, rfl, trivial⟩ ⟨by omega, fun j hj2 => ?_, hu3⟩ (by omega)
        rcases Nat.lt_or_ge j k with h1 | h1
        · exact hj j h1
        · rw [show j = k by omega, hx, hy, hxy]
      · have hd : decide (xs = ys) = false := by simpa using hxy
        rw [hd]
        repeat (first
          | (refine RX.take rfl (by first | exact RX.plain rfl | exact RX.guarded rfl rfl rfl (by with_reducible rfl)) (by first | assumption | exact rfl) ?_; first | refine RX.tsoft (RX.move rfl) rfl ?_ | refine RX.tsoft (RX.assign rfl) rfl ?_ | refine RX.tsoft (RX.nilCheck_ptr rfl) rfl ?_ | refine RX.tsoft (RX.fieldAddr0 rfl) rfl ?_ | refine RX.tsoft (RX.fieldAddrH rfl) rfl ?_ | refine RX.tsoft (RX.fieldAddr rfl) rfl ?_ | refine RX.tsoft (RX.load rfl (by first | assumption | (intro _ hS; subst hS; assumption))) rfl ?_ | refine RX.tsoft (RX.lookup_some rfl rfl (by first | assumption | (intro _ hS; subst hS; assumption)) (by assumption)) rfl ?_ | refine RX.tsoft (RX.lookup rfl rfl (by first | assumption | (intro _ hS; subst hS; assumption))) rfl ?_ | (refine RX.isBinT ?_; first | refine RX.tsoft (RX.lss rfl rfl) rfl ?_ | refine RX.tsoft (RX.eql rfl rfl) rfl ?_ | refine RX.tsoft (RX.neq rfl rfl) rfl ?_ | refine RX.tsoft (RX.geq rfl rfl) rfl ?_ | refine RX.tsoft (RX.gtr rfl rfl) rfl ?_ | refine RX.tsoft (RX.leq rfl rfl) rfl ?_ | refine RX.tsoft (RX.add_one rfl rfl (by omega)) rfl ?_ | refine RX.tsoft (RX.add_in rfl rfl (by omega)) rfl ?_ | refine RX.tsoft (RX.sub_in rfl rfl (by omega)) rfl ?_ | refine RX.tsoft (RX.eql_ptr_nil rfl rfl) rfl ?_ | refine RX.tsoft (RX.eql_nil_nil rfl rfl) rfl ?_ | refine RX.tsoft (RX.neq_ptr_nil rfl rfl) rfl ?_ | refine RX.tsoft (RX.neq_nil_nil rfl rfl) rfl ?_ | refine RX.tsoft (RX.eql_same rfl rfl (by with_reducible rfl)) rfl ?_ | refine RX.tsoft (RX.eql_tf rfl rfl (by with_reducible rfl) (by with_reducible rfl)) rfl ?_ | refine RX.tsoft (RX.eql_ft rfl rfl (by with_reducible rfl) (by with_reducible rfl)) rfl ?_ | refine RX.tsoft (RX.neq_same rfl rfl (by with_reducible rfl)) rfl ?_ | refine RX.tsoft (RX.neq_tf rfl rfl (by with_reducible rfl) (by with_reducible rfl)) rfl ?_ | refine RX.tsoft (RX.neq_ft rfl rfl (by with_reducible rfl) (by with_reducible rfl)) rfl ?_ | refine RX.tsoft (RX.eql_bool rfl rfl) rfl ?_ | refine RX.tsoft (RX.neq_bool rfl rfl) rfl ?_) | (refine RX.isCallT ?_; first | refine RX.tsoft (RX.len_slice rfl) rfl ?_ | refine RX.tsoft (RX.max2 rfl rfl) rfl ?_ | refine RX.tsoft (RX.min2 rfl rfl) rfl ?_) | refine RX.tsoft (RX.indexAddr1 rfl rfl (by omega)) rfl ?_ | refine RX.tsoft (RX.indexAddrO rfl rfl (by omega)) rfl ?_ | refine RX.tsoft (RX.indexAddrS rfl rfl (by omega)) rfl ?_ | refine RX.tsoft (RX.pick_true rfl (by with_reducible rfl) rfl) rfl ?_ | refine RX.tsoft (RX.pick_false rfl (by with_reducible rfl) rfl) rfl ?_ | refine RX.tsoft (RX.not_t rfl (by with_reducible rfl)) rfl ?_ | refine RX.tsoft (RX.not_f rfl (by with_reducible rfl)) rfl ?_ | refine RX.tsoft (RX.not rfl) rfl ?_ | refine RX.tsoft (RX.extract rfl rfl) rfl ?_ | refine RX.tsoft (RX.build rfl (by intro w; simp [Instr.build, Instr.fill] <;> rfl)) rfl ?_)
          | refine RX.pguard_true rfl rfl (by with_reducible rfl) (by first | omega | (with_reducible assumption)) ?_
          | refine RX.pguard_false rfl rfl (by with_reducible rfl) (by first | omega | (with_reducible assumption)) ?_
          | refine RX.take_not rfl (by first | exact RX.barred_t rfl rfl rfl (by with_reducible rfl) | exact RX.barred_f rfl rfl rfl (by with_reducible rfl)) rfl (by first | assumption | exact rfl) ?_
          | refine RX.done ?_)
        repeat (first
          | (refine RX.opw (by first | exact RX.plain rfl | exact RX.guarded rfl rfl rfl (by with_reducible rfl)) ?_; first | refine RX.soft (RX.move rfl) rfl ?_ | refine RX.soft (RX.assign rfl) rfl ?_ | refine RX.soft (RX.nilCheck_ptr rfl) rfl ?_ | refine RX.soft (RX.fieldAddr0 rfl) rfl ?_ | refine RX.soft (RX.fieldAddrH rfl) rfl ?_ | refine RX.soft (RX.fieldAddr rfl) rfl ?_ | refine RX.soft (RX.load_at rfl (by assumption)) rfl ?_ | refine RX.soft (RX.lookup_at rfl rfl (by assumption)) rfl ?_ | (refine RX.isBin ?_; first | refine RX.soft (RX.lss rfl rfl) rfl ?_ | refine RX.soft (RX.eql rfl rfl) rfl ?_ | refine RX.soft (RX.neq rfl rfl) rfl ?_ | refine RX.soft (RX.geq rfl rfl) rfl ?_ | refine RX.soft (RX.gtr rfl rfl) rfl ?_ | refine RX.soft (RX.leq rfl rfl) rfl ?_ | refine RX.soft (RX.add_one rfl rfl (by omega)) rfl ?_ | refine RX.soft (RX.add_in rfl rfl (by omega)) rfl ?_ | refine RX.soft (RX.sub_in rfl rfl (by omega)) rfl ?_ | refine RX.soft (RX.eql_ptr_nil rfl rfl) rfl ?_ | refine RX.soft (RX.eql_nil_nil rfl rfl) rfl ?_ | refine RX.soft (RX.neq_ptr_nil rfl rfl) rfl ?_ | refine RX.soft (RX.neq_nil_nil rfl rfl) rfl ?_ | refine RX.soft (RX.eql_same rfl rfl (by with_reducible rfl)) rfl ?_ | refine RX.soft (RX.eql_tf rfl rfl (by with_reducible rfl) (by with_reducible rfl)) rfl ?_ | refine RX.soft (RX.eql_ft rfl rfl (by with_reducible rfl) (by with_reducible rfl)) rfl ?_ | refine RX.soft (RX.neq_same rfl rfl (by with_reducible rfl)) rfl ?_ | refine RX.soft (RX.neq_tf rfl rfl (by with_reducible rfl) (by with_reducible rfl)) rfl ?_ | refine RX.soft (RX.neq_ft rfl rfl (by with_reducible rfl) (by with_reducible rfl)) rfl ?_ | refine RX.soft (RX.eql_bool rfl rfl) rfl ?_ | refine RX.soft (RX.neq_bool rfl rfl) rfl ?_) | (refine RX.isCall ?_; first | refine RX.soft (RX.len_slice rfl) rfl ?_ | refine RX.soft (RX.max2 rfl rfl) rfl ?_ | refine RX.soft (RX.min2 rfl rfl) rfl ?_) | refine RX.soft (RX.indexAddr1 rfl rfl (by omega)) rfl ?_ | refine RX.soft (RX.indexAddrO rfl rfl (by omega)) rfl ?_ | refine RX.soft (RX.indexAddrS rfl rfl (by omega)) rfl ?_ | refine RX.soft (RX.pick_true rfl (by with_reducible rfl) rfl) rfl ?_ | refine RX.soft (RX.pick_false rfl (by with_reducible rfl) rfl) rfl ?_ | refine RX.soft (RX.not_t rfl (by with_reducible rfl)) rfl ?_ | refine RX.soft (RX.not_f rfl (by with_reducible rfl)) rfl ?_ | refine RX.soft (RX.not rfl) rfl ?_ | refine RX.soft (RX.extract rfl rfl) rfl ?_ | refine RX.soft (RX.build rfl (by intro w; simp [Instr.build, Instr.fill] <;> rfl)) rfl ?_ | refine RX.slice_one rfl rfl rfl rfl ?_)
          | refine RX.guard_true rfl rfl (by with_reducible rfl) (by first | omega | (with_reducible assumption)) ?_
          | refine RX.guard_false rfl rfl (by with_reducible rfl) (by first | omega | (with_reducible assumption)) ?_
          | refine RX.nil ?_
          | refine RX.then_normal ?_
          | refine RX.seq ?_
          | refine RX.region ?_
          | refine RX.cond_true rfl (by with_reducible rfl) ?_
          | refine RX.cond_false rfl (by with_reducible rfl) ?_
          | refine RX.skip ?_
          | refine RX.block ?_
          | refine RX.inBlock_normal ?_
          | refine RX.exit ?_
          | refine RX.then_exit ?_
          | refine RX.inBlock_exit ?_
          | refine RX.inBlock_other rfl ?_
          | refine RX.ret ?_
          | refine RX.then_ret ?_
          | refine RX.inBlock_ret ?_
          | refine RX.unwanted (by first | exact RX.barred_t rfl rfl rfl (by with_reducible rfl) | exact RX.barred_f rfl rfl rfl (by with_reducible rfl)) rfl ?_
          | refine RX.unwanted_none (by first | exact RX.barred_t rfl rfl rfl (by with_reducible rfl) | exact RX.barred_f rfl rfl rfl (by with_reducible rfl)) ?_
          | refine RX.cond rfl (fun h => absurd h (by first | omega | (with_reducible assumption))) (fun _ => ?_)
          | refine RX.cond rfl (fun _ => ?_) (fun h => absurd (by first | omega | (with_reducible assumption)) h))
        refine ret1 rfl rfl ⟨ret_bool ?_, hu3⟩
        symm
        rw [decide_eq_false_iff_not]
        intro e; subst e; rw [hx] at hy; cases hy; exact hxy rfl
    · repeat (first
        | (refine RX.opw (by first | exact RX.plain rfl | exact RX.guarded rfl rfl rfl (by with_reducible rfl)) ?_; first | refine RX.soft (RX.move rfl) rfl ?_ | refine RX.soft (RX.assign rfl) rfl ?_ | refine RX.soft (RX.nilCheck_ptr rfl) rfl ?_ | refine RX.soft (RX.fieldAddr0 rfl) rfl ?_ | refine RX.soft (RX.fieldAddrH rfl) rfl ?_ | refine RX.soft (RX.fieldAddr rfl) rfl ?_ | refine RX.soft (RX.load_at rfl (by assumption)) rfl ?_ | refine RX.soft (RX.lookup_at rfl rfl (by assumption)) rfl ?_ | (refine RX.isBin ?_; first | refine RX.soft (RX.lss rfl rfl) rfl ?_ | refine RX.soft (RX.eql rfl rfl) rfl ?_ | refine RX.soft (RX.neq rfl rfl) rfl ?_ | refine RX.soft (RX.geq rfl rfl) rfl ?_ | refine RX.soft (RX.gtr rfl rfl) rfl ?_ | refine RX.soft (RX.leq rfl rfl) rfl ?_ | refine RX.soft (RX.add_one rfl rfl (by omega)) rfl ?_ | refine RX.soft (RX.add_in rfl rfl (by omega)) rfl ?_ | refine RX.soft (RX.sub_in rfl rfl (by omega)) rfl ?_ | refine RX.soft (RX.eql_ptr_nil rfl rfl) rfl ?_ | refine RX.soft (RX.eql_nil_nil rfl rfl) rfl ?_ | refine RX.soft (RX.neq_ptr_nil rfl rfl) rfl ?_ | refine RX.soft (RX.neq_nil_nil rfl rfl) rfl ?_ | refine RX.soft (RX.eql_same rfl rfl (by with_reducible rfl)) rfl ?_ | refine RX.soft (RX.eql_tf rfl rfl (by with_reducible rfl) (by with_reducible rfl)) rfl ?_ | refine RX.soft (RX.eql_ft rfl rfl (by with_reducible rfl) (by with_reducible rfl)) rfl ?_ | refine RX.soft (RX.neq_same rfl rfl (by with_reducible rfl)) rfl ?_ | refine RX.soft (RX.neq_tf rfl rfl (by with_reducible rfl) (by with_reducible rfl)) rfl ?_ | refine RX.soft (RX.neq_ft rfl rfl (by with_reducible rfl) (by with_reducible rfl)) rfl ?_ | refine RX.soft (RX.eql_bool rfl rfl) rfl ?_ | refine RX.soft (RX.neq_bool rfl rfl) rfl ?_) | (refine RX.isCall ?_; first | refine RX.soft (RX.len_slice rfl) rfl ?_ | refine RX.soft (RX.max2 rfl rfl) rfl ?_ | refine RX.soft (RX.min2 rfl rfl) rfl ?_) | refine RX.soft (RX.indexAddr1 rfl rfl (by omega)) rfl ?_ | refine RX.soft (RX.indexAddrO rfl rfl (by omega)) rfl ?_ | refine RX.soft (RX.indexAddrS rfl rfl (by omega)) rfl ?_ | refine RX.soft (RX.pick_true rfl (by with_reducible rfl) rfl) rfl ?_ | refine RX.soft (RX.pick_false rfl (by with_reducible rfl) rfl) rfl ?_ | refine RX.soft (RX.not_t rfl (by with_reducible rfl)) rfl ?_ | refine RX.soft (RX.not_f rfl (by with_reducible rfl)) rfl ?_ | refine RX.soft (RX.not rfl) rfl ?_ | refine RX.soft (RX.extract rfl rfl) rfl ?_ | refine RX.soft (RX.build rfl (by intro w; simp [Instr.build, Instr.fill] <;> rfl)) rfl ?_ | refine RX.slice_one rfl rfl rfl rfl ?_)
        | refine RX.guard_true rfl rfl (by with_reducible rfl) (by first | omega | (with_reducible assumption)) ?_
        | refine RX.guard_false rfl rfl (by with_reducible rfl) (by first | omega | (with_reducible assumption)) ?_
        | refine RX.nil ?_
        | refine RX.then_normal ?_
        | refine RX.seq ?_
        | refine RX.region ?_
        | refine RX.cond_true rfl (by with_reducible rfl) ?_
        | refine RX.cond_false rfl (by with_reducible rfl) ?_
        | refine RX.skip ?_
        | refine RX.block ?_
        | refine RX.inBlock_normal ?_
        | refine RX.exit ?_
        | refine RX.then_exit ?_
        | refine RX.inBlock_exit ?_
        | refine RX.inBlock_other rfl ?_
        | refine RX.ret ?_
        | refine RX.then_ret ?_
        | refine RX.inBlock_ret ?_
        | refine RX.unwanted (by first | exact RX.barred_t rfl rfl rfl (by with_reducible rfl) | exact RX.barred_f rfl rfl rfl (by with_reducible rfl)) rfl ?_
        | refine RX.unwanted_none (by first | exact RX.barred_t rfl rfl rfl (by with_reducible rfl) | exact RX.barred_f rfl rfl rfl (by with_reducible rfl)) ?_
        | refine RX.cond rfl (fun h => absurd h (by first | omega | (with_reducible assumption))) (fun _ => ?_)
        | refine RX.cond rfl (fun _ => ?_) (fun h => absurd (by first | omega | (with_reducible assumption)) h))
      refine ret1 rfl rfl ⟨ret_bool ?_, hu⟩
      symm
      rw [decide_eq_true_eq]
      apply List.ext_getElem?
      intro j
      rcases Nat.lt_or_ge j k with h1 | h1
      · exact hj j h1
      · rw [List.getElem?_eq_none (by omega), List.getElem?_eq_none (by omega)]
  · repeat (first
      | (refine RX.opw (by first | exact RX.plain rfl | exact RX.guarded rfl rfl rfl (by with_reducible rfl)) ?_; first | refine RX.soft (RX.move rfl) rfl ?_ | refine RX.soft (RX.assign rfl) rfl ?_ | refine RX.soft (RX.nilCheck_ptr rfl) rfl ?_ | refine RX.soft (RX.fieldAddr0 rfl) rfl ?_ | refine RX.soft (RX.fieldAddrH rfl) rfl ?_ | refine RX.soft (RX.fieldAddr rfl) rfl ?_ | refine RX.soft (RX.load_at rfl (by assumption)) rfl ?_ | refine RX.soft (RX.lookup_at rfl rfl (by assumption)) rfl ?_ | (refine RX.isBin ?_; first | refine RX.soft (RX.lss rfl rfl) rfl ?_ | refine RX.soft (RX.eql rfl rfl) rfl ?_ | refine RX.soft (RX.neq rfl rfl) rfl ?_ | refine RX.soft (RX.geq rfl rfl) rfl ?_ | refine RX.soft (RX.gtr rfl rfl) rfl ?_ | refine RX.soft (RX.leq rfl rfl) rfl ?_ | refine RX.soft (RX.add_one rfl rfl (by omega)) rfl ?_ | refine RX.soft (RX.add_in rfl rfl (by omega)) rfl ?_ | refine RX.soft (RX.sub_in rfl rfl (by omega)) rfl ?_ | refine RX.soft (RX.eql_ptr_nil rfl rfl) rfl ?_ | refine RX.soft (RX.eql_nil_nil rfl rfl) rfl ?_ | refine RX.soft (RX.neq_ptr_nil rfl rfl) rfl ?_ | refine RX.soft (RX.neq_nil_nil rfl rfl) rfl ?_ | refine RX.soft (RX.eql_same rfl rfl (by with_reducible rfl)) rfl ?_ | refine RX.soft (RX.eql_tf rfl rfl (by with_reducible rfl) (by with_reducible rfl)) rfl ?_ | refine RX.soft (RX.eql_ft rfl rfl (by with_reducible rfl) (by with_reducible rfl)) rfl ?_ | refine RX.soft (RX.neq_same rfl rfl (by with_reducible rfl)) rfl ?_ | refine RX.soft (RX.neq_tf rfl rfl (by with_reducible rfl) (by with_reducible rfl)) rfl ?_ | refine RX.soft (RX.neq_ft rfl rfl (by with_reducible rfl) (by with_reducible rfl)) rfl ?_ | refine RX.soft (RX.eql_bool rfl rfl) rfl ?_ | refine RX.soft (RX.neq_bool rfl rfl) rfl ?_) | (refine RX.isCall ?_; first | refine RX.soft (RX.len_slice rfl) rfl ?_ | refine RX.soft (RX.max2 rfl rfl) rfl ?_ | refine RX.soft (RX.min2 rfl rfl) rfl ?_) | refine RX.soft (RX.indexAddr1 rfl rfl (by omega)) rfl ?_ | refine RX.soft (RX.indexAddrO rfl rfl (by omega)) rfl ?_ | refine RX.soft (RX.indexAddrS rfl rfl (by omega)) rfl ?_ | refine RX.soft (RX.pick_true rfl (by with_reducible rfl) rfl) rfl ?_ | refine RX.soft (RX.pick_false rfl (by with_reducible rfl) rfl) rfl ?_ | refine RX.soft (RX.not_t rfl (by with_reducible rfl)) rfl ?_ | refine RX.soft (RX.not_f rfl (by with_reducible rfl)) rfl ?_ | refine RX.soft (RX.not rfl) rfl ?_ | refine RX.soft (RX.extract rfl rfl) rfl ?_ | refine RX.soft (RX.build rfl (by intro w; simp [Instr.build, Instr.fill] <;> rfl)) rfl ?_ | refine RX.slice_one rfl rfl rfl rfl ?_)
      | refine RX.guard_true rfl rfl (by with_reducible rfl) (by first | omega | (with_reducible assumption)) ?_
      | refine RX.guard_false rfl rfl (by with_reducible rfl) (by first | omega | (with_reducible assumption)) ?_
      | refine RX.nil ?_
      | refine RX.then_normal ?_
      | refine RX.seq ?_
      | refine RX.region ?_
      | refine RX.cond_true rfl (by with_reducible rfl) ?_
      | refine RX.cond_false rfl (by with_reducible rfl) ?_
      | refine RX.skip ?_
      | refine RX.block ?_
      | refine RX.inBlock_normal ?_
      | refine RX.exit ?_
      | refine RX.then_exit ?_
      | refine RX.inBlock_exit ?_
      | refine RX.inBlock_other rfl ?_
      | refine RX.ret ?_
      | refine RX.then_ret ?_
      | refine RX.inBlock_ret ?_
      | refine RX.unwanted (by first | exact RX.barred_t rfl rfl rfl (by with_reducible rfl) | exact RX.barred_f rfl rfl rfl (by with_reducible rfl)) rfl ?_
      | refine RX.unwanted_none (by first | exact RX.barred_t rfl rfl rfl (by with_reducible rfl) | exact RX.barred_f rfl rfl rfl (by with_reducible rfl)) ?_
      | refine RX.cond rfl (fun h => absurd h (by first | omega | (with_reducible assumption))) (fun _ => ?_)
      | refine RX.cond rfl (fun _ => ?_) (fun h => absurd (by first | omega | (with_reducible assumption)) h))
    refine ret1 rfl rfl ⟨ret_bool ?_, Upd.refl _ _⟩
    symm
    rw [decide_eq_false_iff_not]
    intro e; exact hl (by rw [e])

/-- The reference's Find: a pointer's block, and the numbers. -/
structure RefAt (w : World) (pb : Nat) (lv : Value) (lst : List Nat) : Prop where
  head : Row w pb 44 [lv]
  body : w.ownsRow 0 3 1 lv lst.length (nats lst)
  ne : lv.ownBlock ≠ some pb
  size : lst.length ≤ 10000

theorem RefAt.keep {O : Nat → Prop} {w w' : World} {pb : Nat} {lv : Value} {lst : List Nat} (h : RefAt w pb lv lst) (hu : Upd O w w') (h1 : ¬ O pb) (h2 : ∀ k, lv.ownBlock = some k → ¬ O k) : RefAt w' pb lv lst :=
  ⟨h.head.keep hu h1, owns_keep h.body hu h2, h.ne, h.size⟩

theorem rleast_any (a : Int) (w : World) (pb : Nat) (lv : Value) (lst : List Nat) (hf : RefAt w pb lv lst) :
    Calls Try.prog 13 #[.pointer (some ⟨pb, 0, none⟩), .int .i64 a] w fun e w' => e = .returned (.int .i64 (least lst a)) ∧ w = w' := by
  have hp := hf.head.cell_some (i := 0) rfl
  have hsz := hf.size
  have hb := hf.body
  obtain ⟨ao, cap, rfl⟩ := owns_slice hb
  refine enter2 Try.func13 rfl Try.ntmps13 rfl ?_
  by_cases h0 : a < 0
  · repeat (first
      | (refine RX.opw (by first | exact RX.plain rfl | exact RX.guarded rfl rfl rfl (by with_reducible rfl)) ?_; first | refine RX.soft (RX.move rfl) rfl ?_ | refine RX.soft (RX.assign rfl) rfl ?_ | refine RX.soft (RX.nilCheck_ptr rfl) rfl ?_ | refine RX.soft (RX.fieldAddr0 rfl) rfl ?_ | refine RX.soft (RX.fieldAddrH rfl) rfl ?_ | refine RX.soft (RX.fieldAddr rfl) rfl ?_ | refine RX.soft (RX.load_at rfl (by assumption)) rfl ?_ | refine RX.soft (RX.lookup_at rfl rfl (by assumption)) rfl ?_ | (refine RX.isBin ?_; first | refine RX.soft (RX.lss rfl rfl) rfl ?_ | refine RX.soft (RX.eql rfl rfl) rfl ?_ | refine RX.soft (RX.neq rfl rfl) rfl ?_ | refine RX.soft (RX.geq rfl rfl) rfl ?_ | refine RX.soft (RX.gtr rfl rfl) rfl ?_ | refine RX.soft (RX.leq rfl rfl) rfl ?_ | refine RX.soft (RX.add_one rfl rfl (by omega)) rfl ?_ | refine RX.soft (RX.add_in rfl rfl (by omega)) rfl ?_ | refine RX.soft (RX.sub_in rfl rfl (by omega)) rfl ?_ | refine RX.soft (RX.eql_ptr_nil rfl rfl) rfl ?_ | refine RX.soft (RX.eql_nil_nil rfl rfl) rfl ?_ | refine RX.soft (RX.neq_ptr_nil rfl rfl) rfl ?_ | refine RX.soft (RX.neq_nil_nil rfl rfl) rfl ?_ | refine RX.soft (RX.eql_same rfl rfl (by with_reducible rfl)) rfl ?_ | refine RX.soft (RX.eql_tf rfl rfl (by with_reducible rfl) (by with_reducible rfl)) rfl ?_ | refine RX.soft (RX.eql_ft rfl rfl (by with_reducible rfl) (by with_reducible rfl)) rfl ?_ | refine RX.soft (RX.neq_same rfl rfl (by with_reducible rfl)) rfl ?_ | refine RX.soft (RX.neq_tf rfl rfl (by with_reducible rfl) (by with_reducible rfl)) rfl ?_ | refine RX.soft (RX.neq_ft rfl rfl (by with_reducible rfl) (by with_reducible rfl)) rfl ?_ | refine RX.soft (RX.eql_bool rfl rfl) rfl ?_ | refine RX.soft (RX.neq_bool rfl rfl) rfl ?_) | (refine RX.isCall ?_; first | refine RX.soft (RX.len_slice rfl) rfl ?_ | refine RX.soft (RX.max2 rfl rfl) rfl ?_ | refine RX.soft (RX.min2 rfl rfl) rfl ?_) | refine RX.soft (RX.indexAddr1 rfl rfl (by omega)) rfl ?_ | refine RX.soft (RX.indexAddrO rfl rfl (by omega)) rfl ?_ | refine RX.soft (RX.indexAddrS rfl rfl (by omega)) rfl ?_ | refine RX.soft (RX.pick_true rfl (by with_reducible rfl) rfl) rfl ?_ | refine RX.soft (RX.pick_false rfl (by with_reducible rfl) rfl) rfl ?_ | refine RX.soft (RX.not_t rfl (by with_reducible rfl)) rfl ?_ | refine RX.soft (RX.not_f rfl (by with_reducible rfl)) rfl ?_ | refine RX.soft (RX.not rfl) rfl ?_ | refine RX.soft (RX.extract rfl rfl) rfl ?_ | refine RX.soft (RX.build rfl (by intro w; simp [Instr.build, Instr.fill] <;> rfl)) rfl ?_ | refine RX.slice_one rfl rfl rfl rfl ?_)
      | refine RX.guard_true rfl rfl (by with_reducible rfl) (by first | omega | (with_reducible assumption)) ?_
      | refine RX.guard_false rfl rfl (by with_reducible rfl) (by first | omega | (with_reducible assumption)) ?_
      | refine RX.nil ?_
      | refine RX.then_normal ?_
      | refine RX.seq ?_
      | refine RX.region ?_
      | refine RX.cond_true rfl (by with_reducible rfl) ?_
      | refine RX.cond_false rfl (by with_reducible rfl) ?_
      | refine RX.skip ?_
      | refine RX.block ?_
      | refine RX.inBlock_normal ?_
      | refine RX.exit ?_
      | refine RX.then_exit ?_
      | refine RX.inBlock_exit ?_
      | refine RX.inBlock_other rfl ?_
      | refine RX.ret ?_
      | refine RX.then_ret ?_
      | refine RX.inBlock_ret ?_
      | refine RX.unwanted (by first | exact RX.barred_t rfl rfl rfl (by with_reducible rfl) | exact RX.barred_f rfl rfl rfl (by with_reducible rfl)) rfl ?_
      | refine RX.unwanted_none (by first | exact RX.barred_t rfl rfl rfl (by with_reducible rfl) | exact RX.barred_f rfl rfl rfl (by with_reducible rfl)) ?_
      | refine RX.cond rfl (fun h => absurd h (by first | omega | (with_reducible assumption))) (fun _ => ?_)
      | refine RX.cond rfl (fun _ => ?_) (fun h => absurd (by first | omega | (with_reducible assumption)) h))
    exact ret1 rfl rfl ⟨ret_int (by unfold least; rw [if_neg (by omega)]), rfl⟩
  · by_cases h1 : (lst.length : Int) ≤ a
    · repeat (first
        | (refine RX.opw (by first | exact RX.plain rfl | exact RX.guarded rfl rfl rfl (by with_reducible rfl)) ?_; first | refine RX.soft (RX.move rfl) rfl ?_ | refine RX.soft (RX.assign rfl) rfl ?_ | refine RX.soft (RX.nilCheck_ptr rfl) rfl ?_ | refine RX.soft (RX.fieldAddr0 rfl) rfl ?_ | refine RX.soft (RX.fieldAddrH rfl) rfl ?_ | refine RX.soft (RX.fieldAddr rfl) rfl ?_ | refine RX.soft (RX.load_at rfl (by assumption)) rfl ?_ | refine RX.soft (RX.lookup_at rfl rfl (by assumption)) rfl ?_ | (refine RX.isBin ?_; first | refine RX.soft (RX.lss rfl rfl) rfl ?_ | refine RX.soft (RX.eql rfl rfl) rfl ?_ | refine RX.soft (RX.neq rfl rfl) rfl ?_ | refine RX.soft (RX.geq rfl rfl) rfl ?_ | refine RX.soft (RX.gtr rfl rfl) rfl ?_ | refine RX.soft (RX.leq rfl rfl) rfl ?_ | refine RX.soft (RX.add_one rfl rfl (by omega)) rfl ?_ | refine RX.soft (RX.add_in rfl rfl (by omega)) rfl ?_ | refine RX.soft (RX.sub_in rfl rfl (by omega)) rfl ?_ | refine RX.soft (RX.eql_ptr_nil rfl rfl) rfl ?_ | refine RX.soft (RX.eql_nil_nil rfl rfl) rfl ?_ | refine RX.soft (RX.neq_ptr_nil rfl rfl) rfl ?_ | refine RX.soft (RX.neq_nil_nil rfl rfl) rfl ?_ | refine RX.soft (RX.eql_same rfl rfl (by with_reducible rfl)) rfl ?_ | refine RX.soft (RX.eql_tf rfl rfl (by with_reducible rfl) (by with_reducible rfl)) rfl ?_ | refine RX.soft (RX.eql_ft rfl rfl (by with_reducible rfl) (by with_reducible rfl)) rfl ?_ | refine RX.soft (RX.neq_same rfl rfl (by with_reducible rfl)) rfl ?_ | refine RX.soft (RX.neq_tf rfl rfl (by with_reducible rfl) (by with_reducible rfl)) rfl ?_ | refine RX.soft (RX.neq_ft rfl rfl (by with_reducible rfl) (by with_reducible rfl)) rfl ?_ | refine RX.soft (RX.eql_bool rfl rfl) rfl ?_ | refine RX.soft (RX.neq_bool rfl rfl) rfl ?_) | (refine RX.isCall ?_; first | refine RX.soft (RX.len_slice rfl) rfl ?_ | refine RX.soft (RX.max2 rfl rfl) rfl ?_ | refine RX.soft (RX.min2 rfl rfl) rfl ?_) | refine RX.soft (RX.indexAddr1 rfl rfl (by omega)) rfl ?_ | refine RX.soft (RX.indexAddrO rfl rfl (by omega)) rfl ?_ | refine RX.soft (RX.indexAddrS rfl rfl (by omega)) rfl ?_ | refine RX.soft (RX.pick_true rfl (by with_reducible rfl) rfl) rfl ?_ | refine RX.soft (RX.pick_false rfl (by with_reducible rfl) rfl) rfl ?_ | refine RX.soft (RX.not_t rfl (by with_reducible rfl)) rfl ?_ | refine RX.soft (RX.not_f rfl (by with_reducible rfl)) rfl ?_ | refine RX.soft (RX.not rfl) rfl ?_ | refine RX.soft (RX.extract rfl rfl) rfl ?_ | refine RX.soft (RX.build rfl (by intro w; simp [Instr.build, Instr.fill] <;> rfl)) rfl ?_ | refine RX.slice_one rfl rfl rfl rfl ?_)
        | refine RX.guard_true rfl rfl (by with_reducible rfl) (by first | omega | (with_reducible assumption)) ?_
        | refine RX.guard_false rfl rfl (by with_reducible rfl) (by first | omega | (with_reducible assumption)) ?_
        | refine RX.nil ?_
        | refine RX.then_normal ?_
        | refine RX.seq ?_
        | refine RX.region ?_
        | refine RX.cond_true rfl (by with_reducible rfl) ?_
        | refine RX.cond_false rfl (by with_reducible rfl) ?_
        | refine RX.skip ?_
        | refine RX.block ?_
        | refine RX.inBlock_normal ?_
        | refine RX.exit ?_
        | refine RX.then_exit ?_
        | refine RX.inBlock_exit ?_
        | refine RX.inBlock_other rfl ?_
        | refine RX.ret ?_
        | refine RX.then_ret ?_
        | refine RX.inBlock_ret ?_
        | refine RX.unwanted (by first | exact RX.barred_t rfl rfl rfl (by with_reducible rfl) | exact RX.barred_f rfl rfl rfl (by with_reducible rfl)) rfl ?_
        | refine RX.unwanted_none (by first | exact RX.barred_t rfl rfl rfl (by with_reducible rfl) | exact RX.barred_f rfl rfl rfl (by with_reducible rfl)) ?_
        | refine RX.cond rfl (fun h => absurd h (by first | omega | (with_reducible assumption))) (fun _ => ?_)
        | refine RX.cond rfl (fun _ => ?_) (fun h => absurd (by first | omega | (with_reducible assumption)) h))
      exact ret1 rfl rfl ⟨ret_int (by unfold least; rw [if_neg (by omega)]), rfl⟩
    · obtain ⟨k, rfl⟩ := Int.eq_ofNat_of_zero_le (show 0 ≤ a by omega)
      obtain ⟨g, cap', vs, hv, _, hrow, _, _, _, htake, _⟩ := owns_row hb (by omega)
      cases hv
      have hck := owns_cell hb rfl (nats_get (i := k) (by omega) rfl)
      repeat (first
        | (refine RX.opw (by first | exact RX.plain rfl | exact RX.guarded rfl rfl rfl (by with_reducible rfl)) ?_; first | refine RX.soft (RX.move rfl) rfl ?_ | refine RX.soft (RX.assign rfl) rfl ?_ | refine RX.soft (RX.nilCheck_ptr rfl) rfl ?_ | refine RX.soft (RX.fieldAddr0 rfl) rfl ?_ | refine RX.soft (RX.fieldAddrH rfl) rfl ?_ | refine RX.soft (RX.fieldAddr rfl) rfl ?_ | refine RX.soft (RX.load_at rfl (by assumption)) rfl ?_ | refine RX.soft (RX.lookup_at rfl rfl (by assumption)) rfl ?_ | (refine RX.isBin ?_; first | refine RX.soft (RX.lss rfl rfl) rfl ?_ | refine RX.soft (RX.eql rfl rfl) rfl ?_ | refine RX.soft (RX.neq rfl rfl) rfl ?_ | refine RX.soft (RX.geq rfl rfl) rfl ?_ | refine RX.soft (RX.gtr rfl rfl) rfl ?_ | refine RX.soft (RX.leq rfl rfl) rfl ?_ | refine RX.soft (RX.add_one rfl rfl (by omega)) rfl ?_ | refine RX.soft (RX.add_in rfl rfl (by omega)) rfl ?_ | refine RX.soft (RX.sub_in rfl rfl (by omega)) rfl ?_ | refine RX.soft (RX.eql_ptr_nil rfl rfl) rfl ?_ | refine RX.soft (RX.eql_nil_nil rfl rfl) rfl ?_ | refine RX.soft (RX.neq_ptr_nil rfl rfl) rfl ?_ | refine RX.soft (RX.neq_nil_nil rfl rfl) rfl ?_ | refine RX.soft (RX.eql_same rfl rfl (by with_reducible rfl)) rfl ?_ | refine RX.soft (RX.eql_tf rfl rfl (by with_reducible rfl) (by with_reducible rfl)) rfl ?_ | refine RX.soft (RX.eql_ft rfl rfl (by with_reducible rfl) (by with_reducible rfl)) rfl ?_ | refine RX.soft (RX.neq_same rfl rfl (by with_reducible rfl)) rfl ?_ | refine RX.soft (RX.neq_tf rfl rfl (by with_reducible rfl) (by with_reducible rfl)) rfl ?_ | refine RX.soft (RX.neq_ft rfl rfl (by with_reducible rfl) (by with_reducible rfl)) rfl ?_ | refine RX.soft (RX.eql_bool rfl rfl) rfl ?_ | refine RX.soft (RX.neq_bool rfl rfl) rfl ?_) | (refine RX.isCall ?_; first | refine RX.soft (RX.len_slice rfl) rfl ?_ | refine RX.soft (RX.max2 rfl rfl) rfl ?_ | refine RX.soft (RX.min2 rfl rfl) rfl ?_) | refine RX.soft (RX.indexAddr1 rfl rfl (by omega)) rfl ?_ | refine RX.soft (RX.indexAddrO rfl rfl (by omega)) rfl ?_ | refine RX.soft (RX.indexAddrS rfl rfl (by omega)) rfl ?_ | refine RX.soft (RX.pick_true rfl (by with_reducible rfl) rfl) rfl ?_ | refine RX.soft (RX.pick_false rfl (by with_reducible rfl) rfl) rfl ?_ | refine RX.soft (RX.not_t rfl (by with_reducible rfl)) rfl ?_ | refine RX.soft (RX.not_f rfl (by with_reducible rfl)) rfl ?_ | refine RX.soft (RX.not rfl) rfl ?_ | refine RX.soft (RX.extract rfl rfl) rfl ?_ | refine RX.soft (RX.build rfl (by intro w; simp [Instr.build, Instr.fill] <;> rfl)) rfl ?_ | refine RX.slice_one rfl rfl rfl rfl ?_)
        | refine RX.guard_true rfl rfl (by with_reducible rfl) (by first | omega | (with_reducible assumption)) ?_
        | refine RX.guard_false rfl rfl (by with_reducible rfl) (by first | omega | (with_reducible assumption)) ?_
        | refine RX.nil ?_
        | refine RX.then_normal ?_
        | refine RX.seq ?_
        | refine RX.region ?_
        | refine RX.cond_true rfl (by with_reducible rfl) ?_
        | refine RX.cond_false rfl (by with_reducible rfl) ?_
        | refine RX.skip ?_
        | refine RX.block ?_
        | refine RX.inBlock_normal ?_
        | refine RX.exit ?_
        | refine RX.then_exit ?_
        | refine RX.inBlock_exit ?_
        | refine RX.inBlock_other rfl ?_
        | refine RX.ret ?_
        | refine RX.then_ret ?_
        | refine RX.inBlock_ret ?_
        | refine RX.unwanted (by first | exact RX.barred_t rfl rfl rfl (by with_reducible rfl) | exact RX.barred_f rfl rfl rfl (by with_reducible rfl)) rfl ?_
        | refine RX.unwanted_none (by first | exact RX.barred_t rfl rfl rfl (by with_reducible rfl) | exact RX.barred_f rfl rfl rfl (by with_reducible rfl)) ?_
        | refine RX.cond rfl (fun h => absurd h (by first | omega | (with_reducible assumption))) (fun _ => ?_)
        | refine RX.cond rfl (fun _ => ?_) (fun h => absurd (by first | omega | (with_reducible assumption)) h))
      exact ret1 rfl rfl ⟨ret_int (by unfold least; rw [if_pos (by omega)]; simp), rfl⟩
end Go.Proofs.Ytfcmohfddjcfkaa
