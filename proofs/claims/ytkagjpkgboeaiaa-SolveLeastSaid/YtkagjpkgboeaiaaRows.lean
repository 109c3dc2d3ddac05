/-
  No cell of these rows narrows 'for every input' (looked for: loops, veiled, ifaces, maps, wideKeys, modest, calm, conditions, laid).
  DERIVED. THE GIVEN ROWS OF THIS SEAT. 5 by the template 'for every input the law returns true; each argument reads behind the call as it read before'; 0 by the template 'total and deterministic' (their statements: YtkagjpkgboeaiaaTotals.lean).
  GIVEN WITH THE SEED: the statements are not yours to turn. If you find one false, say at which input.
  Laid BY PROGRAM, IN A SANDBOX (cutbox-rows.mjs): the forced cells as the released guide's own fill.sh prints them over the translation 4fe384c5e7159fe6… (all of the seat's roots in one cut). By AI agents, Wed Nov 11 2026. No macro, syntax, notation, axiom, sorry.
-/
import Derived.Test.YtkagjpkgboeaiaaChecked
import GoSem.Claim
import GoSem.ClaimJoined
import GoSem.ClaimMapViews
import Derived.JoinedTies
import Derived.KernelRfl
namespace Go.Proofs.Ytkagjpkgboeaiaa
/- THE CELL 'sum', in the pinned program and in every row, IS THE sha256 OF THE DUMP (.gsa) THAT YtkagjpkgboeaiaaProg.lean LOADS. Nothing in Lean hashes anything: it is a label: what it is worth is what the hold of that sum in a sandbox is worth. -/
noncomputable def Try.pinned : Pinned := { name := "ytkagjpkgboeaiaa", sum := "4fe384c5e7159fe6f2d2cd096ba92c1392f0fbf5480c4fec0ce69fe32ba00747", checked := Try.checked }
namespace Rows
def none {H : Type} : Left H := { results := [], args := [] }

/-- 'runriglaw20.SolvePoints': WHATEVER THE INPUT: true; the input reads as it did. -/
def solvePointsSpec : ChangeSpec := { name := "solvePoints", fn := fun _ => fun
  | [d1, d2, d3, d4] => { results := [.lit (.bool true)], args := [d1, d2, d3, d4] }
  | _ => none }
def solvePointsRow : OpenClaim := { program := "ytkagjpkgboeaiaa", sum := "4fe384c5e7159fe6f2d2cd096ba92c1392f0fbf5480c4fec0ce69fe32ba00747", func := "runrig/runriglaw20.SolvePoints", spec := "solvePoints", unfollowed := true, recurses := true, plainKeys := false, apart := false }
def SolvePointsSaid : Prop := solvePointsRow.holds Try.pinned (OpenSpec.ofChange solvePointsSpec)

/-- ITS FALSE NEIGHBOUR: 'it returns false'. Refute it at one input. -/
def solvePointsWrong : ChangeSpec := { name := "solvePoints", fn := fun _ => fun
  | [d1, d2, d3, d4] => { results := [.lit (.bool false)], args := [d1, d2, d3, d4] }
  | _ => none }
def SolvePointsWrongFalsely : Prop := solvePointsRow.holds Try.pinned (OpenSpec.ofChange solvePointsWrong)

/-- 'runriglaw20.SolveFits': WHATEVER THE INPUT: true; the input reads as it did. -/
def solveFitsSpec : ChangeSpec := { name := "solveFits", fn := fun _ => fun
  | [d1, d2] => { results := [.lit (.bool true)], args := [d1, d2] }
  | _ => none }
def solveFitsRow : OpenClaim := { program := "ytkagjpkgboeaiaa", sum := "4fe384c5e7159fe6f2d2cd096ba92c1392f0fbf5480c4fec0ce69fe32ba00747", func := "runrig/runriglaw20.SolveFits", spec := "solveFits", unfollowed := true, recurses := true, plainKeys := false, apart := false }
def SolveFitsSaid : Prop := solveFitsRow.holds Try.pinned (OpenSpec.ofChange solveFitsSpec)

/-- ITS FALSE NEIGHBOUR: 'it returns false'. Refute it at one input. -/
def solveFitsWrong : ChangeSpec := { name := "solveFits", fn := fun _ => fun
  | [d1, d2] => { results := [.lit (.bool false)], args := [d1, d2] }
  | _ => none }
def SolveFitsWrongFalsely : Prop := solveFitsRow.holds Try.pinned (OpenSpec.ofChange solveFitsWrong)

/-- 'runriglaw20.SolveLeast': WHATEVER THE INPUT: true; the input reads as it did. -/
def solveLeastSpec : ChangeSpec := { name := "solveLeast", fn := fun _ => fun
  | [d1, d2, d3, d4, d5] => { results := [.lit (.bool true)], args := [d1, d2, d3, d4, d5] }
  | _ => none }
def solveLeastRow : OpenClaim := { program := "ytkagjpkgboeaiaa", sum := "4fe384c5e7159fe6f2d2cd096ba92c1392f0fbf5480c4fec0ce69fe32ba00747", func := "runrig/runriglaw20.SolveLeast", spec := "solveLeast", unfollowed := true, recurses := true, plainKeys := false, apart := false }
def SolveLeastSaid : Prop := solveLeastRow.holds Try.pinned (OpenSpec.ofChange solveLeastSpec)

/-- ITS FALSE NEIGHBOUR: 'it returns false'. Refute it at one input. -/
def solveLeastWrong : ChangeSpec := { name := "solveLeast", fn := fun _ => fun
  | [d1, d2, d3, d4, d5] => { results := [.lit (.bool false)], args := [d1, d2, d3, d4, d5] }
  | _ => none }
def SolveLeastWrongFalsely : Prop := solveLeastRow.holds Try.pinned (OpenSpec.ofChange solveLeastWrong)

/-- 'runriglaw20.SolveTurned': WHATEVER THE INPUT: true; the input reads as it did. -/
def solveTurnedSpec : ChangeSpec := { name := "solveTurned", fn := fun _ => fun
  | [d1, d2, d3, d4, d5] => { results := [.lit (.bool true)], args := [d1, d2, d3, d4, d5] }
  | _ => none }
def solveTurnedRow : OpenClaim := { program := "ytkagjpkgboeaiaa", sum := "4fe384c5e7159fe6f2d2cd096ba92c1392f0fbf5480c4fec0ce69fe32ba00747", func := "runrig/runriglaw20.SolveTurned", spec := "solveTurned", unfollowed := true, recurses := true, plainKeys := false, apart := false }
def SolveTurnedSaid : Prop := solveTurnedRow.holds Try.pinned (OpenSpec.ofChange solveTurnedSpec)

/-- ITS FALSE NEIGHBOUR: 'it returns false'. Refute it at one input. -/
def solveTurnedWrong : ChangeSpec := { name := "solveTurned", fn := fun _ => fun
  | [d1, d2, d3, d4, d5] => { results := [.lit (.bool false)], args := [d1, d2, d3, d4, d5] }
  | _ => none }
def SolveTurnedWrongFalsely : Prop := solveTurnedRow.holds Try.pinned (OpenSpec.ofChange solveTurnedWrong)

/-- 'runriglaw20.SolveMore': WHATEVER THE INPUT: true; the input reads as it did. -/
def solveMoreSpec : ChangeSpec := { name := "solveMore", fn := fun _ => fun
  | [d1, d2, d3, d4, d5] => { results := [.lit (.bool true)], args := [d1, d2, d3, d4, d5] }
  | _ => none }
def solveMoreRow : OpenClaim := { program := "ytkagjpkgboeaiaa", sum := "4fe384c5e7159fe6f2d2cd096ba92c1392f0fbf5480c4fec0ce69fe32ba00747", func := "runrig/runriglaw20.SolveMore", spec := "solveMore", unfollowed := true, recurses := true, plainKeys := false, apart := false }
def SolveMoreSaid : Prop := solveMoreRow.holds Try.pinned (OpenSpec.ofChange solveMoreSpec)

/-- ITS FALSE NEIGHBOUR: 'it returns false'. Refute it at one input. -/
def solveMoreWrong : ChangeSpec := { name := "solveMore", fn := fun _ => fun
  | [d1, d2, d3, d4, d5] => { results := [.lit (.bool false)], args := [d1, d2, d3, d4, d5] }
  | _ => none }
def SolveMoreWrongFalsely : Prop := solveMoreRow.holds Try.pinned (OpenSpec.ofChange solveMoreWrong)

/- THE SECOND FORM. 'bulk': how many values and letters a reading holds, each counted each time it is reached (what is shared counts as often as it is met; a slice's spare places count too). A statement '..UptoSaid' is the law's where the arguments, and the package variables that the reading takes, are together of bulk at most 1048576: NARROWER than '..Said'. Prove '..Said' where nothing that the law and all that it calls make is longer than what came in: it says more and counts as full. Else prove '..UptoSaid'. A law counts once. -/
mutual
def uptoBulk {H : Type} : DataW H → Nat
  | .lit (.string bytes) => bytes.length + 1
  | .lit _ => 1
  | .nil => 1
  | .ptr d => uptoBulk d + 1
  | .slice elems spare => uptoBulkAll elems + uptoBulkAll spare + 1
  | .agg parts => uptoBulkAll parts + 1
  | .iface _ d => uptoBulk d + 1
  | .map entries => uptoBulkEntries entries + 1
  | .held _ => 1
def uptoBulkAll {H : Type} : List (DataW H) → Nat
  | [] => 0
  | d :: r => uptoBulk d + uptoBulkAll r
def uptoBulkEntries {H : Type} : List (Lit × DataW H) → Nat
  | [] => 0
  | x :: r => uptoBulkEntry x + uptoBulkEntries r
def uptoBulkEntry {H : Type} : Lit × DataW H → Nat
  | (.string bytes, d) => bytes.length + uptoBulk d + 1
  | (_, d) => uptoBulk d + 1
 end
def uptoSmall : (H : Type) → List (DataW H) → Bool := fun _ ds => decide (uptoBulkAll ds ≤ 1048576)
def OpenSpec.upto (s : _root_.Go.ChangeSpec) : _root_.Go.OpenSpec := { _root_.Go.OpenSpec.ofChange s with cond := some uptoSmall }

/-- 'runriglaw20.SolvePoints', WHERE WHAT IT READS IS OF BULK AT MOST 1048576: true; the input reads as it did. -/
def solvePointsUptoRow : OpenClaim := { program := "ytkagjpkgboeaiaa", sum := "4fe384c5e7159fe6f2d2cd096ba92c1392f0fbf5480c4fec0ce69fe32ba00747", func := "runrig/runriglaw20.SolvePoints", spec := "solvePoints", unfollowed := true, recurses := true, plainKeys := false, apart := false, narrowed := true }
def SolvePointsUptoSaid : Prop := solvePointsUptoRow.holds Try.pinned (OpenSpec.upto solvePointsSpec)

/-- 'runriglaw20.SolveFits', WHERE WHAT IT READS IS OF BULK AT MOST 1048576: true; the input reads as it did. -/
def solveFitsUptoRow : OpenClaim := { program := "ytkagjpkgboeaiaa", sum := "4fe384c5e7159fe6f2d2cd096ba92c1392f0fbf5480c4fec0ce69fe32ba00747", func := "runrig/runriglaw20.SolveFits", spec := "solveFits", unfollowed := true, recurses := true, plainKeys := false, apart := false, narrowed := true }
def SolveFitsUptoSaid : Prop := solveFitsUptoRow.holds Try.pinned (OpenSpec.upto solveFitsSpec)

/-- 'runriglaw20.SolveLeast', WHERE WHAT IT READS IS OF BULK AT MOST 1048576: true; the input reads as it did. -/
def solveLeastUptoRow : OpenClaim := { program := "ytkagjpkgboeaiaa", sum := "4fe384c5e7159fe6f2d2cd096ba92c1392f0fbf5480c4fec0ce69fe32ba00747", func := "runrig/runriglaw20.SolveLeast", spec := "solveLeast", unfollowed := true, recurses := true, plainKeys := false, apart := false, narrowed := true }
def SolveLeastUptoSaid : Prop := solveLeastUptoRow.holds Try.pinned (OpenSpec.upto solveLeastSpec)

/-- 'runriglaw20.SolveTurned', WHERE WHAT IT READS IS OF BULK AT MOST 1048576: true; the input reads as it did. -/
def solveTurnedUptoRow : OpenClaim := { program := "ytkagjpkgboeaiaa", sum := "4fe384c5e7159fe6f2d2cd096ba92c1392f0fbf5480c4fec0ce69fe32ba00747", func := "runrig/runriglaw20.SolveTurned", spec := "solveTurned", unfollowed := true, recurses := true, plainKeys := false, apart := false, narrowed := true }
def SolveTurnedUptoSaid : Prop := solveTurnedUptoRow.holds Try.pinned (OpenSpec.upto solveTurnedSpec)

/-- 'runriglaw20.SolveMore', WHERE WHAT IT READS IS OF BULK AT MOST 1048576: true; the input reads as it did. -/
def solveMoreUptoRow : OpenClaim := { program := "ytkagjpkgboeaiaa", sum := "4fe384c5e7159fe6f2d2cd096ba92c1392f0fbf5480c4fec0ce69fe32ba00747", func := "runrig/runriglaw20.SolveMore", spec := "solveMore", unfollowed := true, recurses := true, plainKeys := false, apart := false, narrowed := true }
def SolveMoreUptoSaid : Prop := solveMoreUptoRow.holds Try.pinned (OpenSpec.upto solveMoreSpec)

end Rows
end Go.Proofs.Ytkagjpkgboeaiaa
