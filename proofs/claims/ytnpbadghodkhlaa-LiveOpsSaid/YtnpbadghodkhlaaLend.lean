/- A slice of one's own, lent to a function that only reads it. No program in sight. -/
import Derived.Test.YtnpbadghodkhlaaGFun
namespace Go.GX
open Go Go.RowKit Go.RR Go.RX
theorem Does.lend {P : Program} {f : FuncId} {args : List Value} {ps1 : List Pf} {t : TypeId} {α : Type} {e : Ty α} {ao : Option Addr} {cap : Nat} {xs : List α} {σ : Type} {val : σ → Value} (hc : Does P f args (Sl e ao cap xs :: ps1) [] val (fun _ => []) (fun _ => [])) :
    Does P f args ps1 [Own t e ao cap xs] val (fun _ => []) (fun _ => [Own t e ao cap xs]) := by
  constructor
  intro w F b s
  have hown : (Own t e ao cap xs).says F w := s.rs _ (by simp)
  have hlt : ∀ k, (F k ∨ (Own t e ao cap xs).on k) → k < w.heap.size := by
    rintro k (hk | hk)
    · exact s.lt k hk
    · exact (Own t e ao cap xs).inn hown hk
  have s' : St ⟨w, fun _ => False, fun k => F k ∨ (Own t e ao cap xs).on k⟩ (fun k => F k ∨ (Own t e ao cap xs).on k) (Sl e ao cap xs :: ps1) [] w := by
    refine ⟨Upd.refl _ _, hlt, fun k hk _ => .inl hk, ?_, no_r, by simp, by simp, by simp⟩
    intro p hp
    rcases List.mem_cons.1 hp with rfl | hp
    · exact frzAt hown
    · exact p.move (s.fs p hp) (fun _ _ h => .inl h) (Agree.refl _ _)
  refine (hc.run w _ _ s').mono ?_
  rintro e' w' ⟨i, rfl, F2, s2⟩
  refine ⟨i, rfl, ?_⟩
  have hu : Upd (feet []) w w' := s2.upd
  have hno : ∀ k, ¬ feet [] k := fun k => feet_nil
  exact mkOk1 s (hu.mono fun k _ hk => absurd hk (hno k)) ((Own t e ao cap xs).move hown (fun _ _ h => h) (Agree.of_upd hu fun k _ _ => hno k) (Agree.of_upd hu fun k _ _ => hno k)) (fun k hk _ => hk)
section
variable {P : Program} {n : Nat} {env : Env} {b : Base} {ps : List Pf} {hp : List Res} {K : Act → World → Prop}
/-- Something stays from now on; what is known tells what it says. -/
theorem frz_stA {r : Res} {p : Pf} {rest : List Res} (hl : hp.Perm (r :: rest)) (hp' : ∀ F w, AllP F w ps → r.says F w → p.says (fun k => F k ∨ r.on k) w) (h : G n env b (p :: ps) rest K) : G n env b ps hp K := by
  constructor
  rintro w ⟨F, s⟩
  have s := s.perm hl
  have ha := List.pairwise_cons.1 s.apart
  refine h.run w ⟨fun k => F k ∨ r.on k, s.upd, ?_, ?_, ?_, ?_, ?_, ha.2, fun q hq => s.on q (List.mem_cons_of_mem _ hq)⟩
  · rintro k (hk | hk)
    · exact s.lt k hk
    · exact r.inn (s.rs r List.mem_cons_self) hk
  · rintro k (hk | hk) hlt
    · exact s.old k hk hlt
    · exact .inr (s.on r List.mem_cons_self k hk hlt)
  · intro q hq
    rcases List.mem_cons.1 hq with rfl | hq
    · exact hp' F w s.fs (s.rs r List.mem_cons_self)
    · exact q.move (s.fs q hq) (fun _ _ h => .inl h) (Agree.refl _ _)
  · intro q hq
    exact q.move (s.rs q (List.mem_cons_of_mem _ hq)) (fun _ _ h => .inl h) (Agree.refl _ _) (Agree.refl _ _)
  · rintro q hq k hk (hf | hr)
    · exact s.apF q (List.mem_cons_of_mem _ hq) k hk hf
    · exact ha.1 q hq k hr hk
/-- A row of cells that reads as something stays from now on. -/
theorem frzR (bl : Nat) {α : Type} {e : Ty α} {t : TypeId} {vs : List Value} {y : α} {rest : List Res} [hf : FRow bl hp t vs rest] (h : G n env b (Pt e bl 0 y :: ps) rest K) (hr : Reads ps (.agg vs.toArray) e y := by first | exact Go.GX.Rds.r) : G n env b ps hp K :=
  frz_stA hf.p (fun F w h1 h2 => by
    have hrow : Row w bl t vs := h2
    have hd : e.rd F w (Value.agg vs.toArray).cells.toList y := hr.as F w h1
    have hc : (Value.agg vs.toArray).cells.toList = vs := by simp [Value.cells]
    rw [hc] at hd
    exact ⟨.inr rfl, hrow.lt, vs, fun j c hj => by rw [Nat.zero_add]; exact hrow.cell_some hj, e.move hd (fun _ _ h => .inl h) (Agree.refl _ _)⟩) h
/-- A slice's header in a variable that is not turned from now on. -/
theorem frzH (bl : Nat) {t : TypeId} {vs : List Value} {a : Option Addr} {m c : Nat} {rest : List Res} [hf : FRow bl hp t vs rest] (h : G n env b (Pt Ty.hdr bl 0 (a, m, c) :: ps) rest K) (hv : vs = [.slice a m c] := by exact rfl) : G n env b ps hp K := frz_st hf.p (fun F w h => by
  have h1 : Row w bl t vs := h
  subst hv
  exact ⟨.inr rfl, h1.lt, _, fun j c hj => by rw [Nat.zero_add]; exact h1.cell_some hj, hdr_rd⟩) h
end
end Go.GX
