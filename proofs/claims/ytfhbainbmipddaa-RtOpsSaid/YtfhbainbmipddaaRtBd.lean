/- How a view of package rt is built. -/
import Derived.Test.YtfhbainbmipddaaRt1
namespace Go.Proofs.Ytfhbainbmipddaa
open Go Go.RowKit Go.RR Go.RX Go.GX Go.Api

theorem build_view (w : World) (a0 a1 a2 a3 b0 b1 b2 b3 b4 b5 c0 c1 c2 c3 c4 c5 : Value) :
    (Instr.build 70 #[(0, .agg #[a0, a1, a2, a3]), (1, .agg #[b0, b1, b2, b3, b4, b5]), (2, .agg #[c0, c1, c2, c3, c4, c5])]).run Try.prog w = .ok (.agg #[a0, a1, a2, a3, b0, b1, b2, b3, b4, b5, c0, c1, c2, c3, c4, c5]) w := by
  simp [Instr.build, Instr.fill, Value.cells] <;> rfl
theorem list4 {cs : List Value} (h : cs.length = 4) : ∃ a b c d, cs = [a, b, c, d] := by
  match cs, h with
  | [a, b, c, d], _ => exact ⟨a, b, c, d, rfl⟩
theorem list6 {cs : List Value} (h : cs.length = 6) : ∃ a b c d e f, cs = [a, b, c, d, e, f] := by
  match cs, h with
  | [a, b, c, d, e, f], _ => exact ⟨a, b, c, d, e, f, rfl⟩
theorem bdv {n : Nat} {env : Env} {b : Base} {ps : List Pf} {hp : List Res} {Q : Exit → Act → World → Prop} {K : Act → World → Prop} {d : Nat} {ty : TypeId} {pos : String} {aft : Array Edge} {gd : Option (Nat × Bool)} {x y z : Operand} {c1 c2 c3 : List Value} {t : RTg} {u : Unt} {i : Ins}
    (h : ∀ cs : List Value, G n ((d, .agg cs.toArray) :: env) b (Ag tyRtView cs ⟨t, u, i⟩ :: ps) hp K) (hx : ev env x = some (.agg c1.toArray) := by exact rfl) (hy : ev env y = some (.agg c2.toArray) := by exact rfl) (hz : ev env z = some (.agg c3.toArray) := by exact rfl)
    (f1 : FAg c1 ps tyRTg t := by exact inferInstance) (f2 : FAg c2 ps tyUnt u := by exact inferInstance) (f3 : FAg c3 ps tyIns i := by exact inferInstance) (hd : Nat.blt d n = true := by exact rfl) :
    GO Try.prog n env b ps hp ⟨some d, .build 70 [(0, x), (1, y), (2, z)].toArray, ty, pos, aft, gd⟩ K Q := by
  refine rd (ι := Unit) (val := fun _ => .agg (c1 ++ (c2 ++ c3)).toArray) (pf := fun _ => [Ag tyRtView (c1 ++ (c2 ++ c3)) ⟨t, u, i⟩]) ?_ hd (fun _ => h _)
  intro F w h1 _
  have r1 : tyRTg.rd F w c1 t := h1 _ f1.mem
  have r2 : tyUnt.rd F w c2 u := h1 _ f2.mem
  have r3 : tyIns.rd F w c3 i := h1 _ f3.mem
  refine ⟨(), one_p (co_rd (pair_rd rfl r1 (pair_rd rfl r2 (pair_rd (c2 := []) (by simp) r3 unit_rd)))), ?_⟩
  obtain ⟨a0, a1, a2, a3, rfl⟩ := list4 (tyRTg.len r1)
  obtain ⟨b0, b1, b2, b3, b4, b5, rfl⟩ := list6 (tyUnt.len r2)
  obtain ⟨e0, e1, e2, e3, e4, e5, rfl⟩ := list6 (tyIns.len r3)
  refine RX.build (pv := [(0, .agg #[a0, a1, a2, a3]), (1, .agg #[b0, b1, b2, b3, b4, b5]), (2, .agg #[e0, e1, e2, e3, e4, e5])]) ?_ (fun w' => build_view w' a0 a1 a2 a3 b0 b1 b2 b3 b4 b5 e0 e1 e2 e3 e4 e5)
  simp [RX.evp, hx, hy, hz]
end Go.Proofs.Ytfhbainbmipddaa
