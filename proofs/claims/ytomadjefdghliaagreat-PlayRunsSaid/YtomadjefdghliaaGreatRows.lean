/-
  No cell of these rows narrows 'for every input' (looked for: loops, veiled, ifaces, maps, wideKeys, modest, calm, conditions, laid).
  DERIVED. THE GIVEN ROWS OF THIS SEAT. 4 by the template 'for every input the law returns true; each argument reads behind the call as it read before'; 0 by the template 'total and deterministic' (their statements: YtomadjefdghliaaGreatTotals.lean).
  GIVEN WITH THE SEED: the statements are not yours to turn. If you find one false, say at which input.
  Laid BY PROGRAM, IN A SANDBOX (cutbox-rows.mjs): the forced cells as the released guide's own fill.sh prints them over the translation 309a438a8eab0c93… (all of the seat's roots in one cut). By AI agents, Wed Nov 11 2026. No macro, syntax, notation, axiom, sorry.
-/
import Derived.Test.YtomadjefdghliaaGreatChecked
import GoSem.Claim
import GoSem.ClaimJoined
import GoSem.ClaimMapViews
import Derived.JoinedTies
import Derived.KernelRfl
namespace Go.Proofs.YtomadjefdghliaaGreat
/- THE CELL 'sum', in the pinned program and in every row, IS THE sha256 OF THE DUMP (.gsa) THAT YtomadjefdghliaaGreatProg.lean LOADS. Nothing in Lean hashes anything: it is a label: what it is worth is what the hold of that sum in a sandbox is worth. -/
noncomputable def Tryz.pinned : Pinned := { name := "ytomadjefdghliaagreat", sum := "309a438a8eab0c935095527683c9e0673c8a2fde3b0d9b3fdff3f1d1b4d7539b", checked := Tryz.checked }
namespace Rows
def none {H : Type} : Left H := { results := [], args := [] }

/-- 'runriglaw30.PlayRuns': WHATEVER THE INPUT: true; the input reads as it did. -/
def playRunsSpec : ChangeSpec := { name := "playRuns", fn := fun _ => fun
  | [d1, d2, d3] => { results := [.lit (.bool true)], args := [d1, d2, d3] }
  | _ => none }
def playRunsRow : OpenClaim := { program := "ytomadjefdghliaagreat", sum := "309a438a8eab0c935095527683c9e0673c8a2fde3b0d9b3fdff3f1d1b4d7539b", func := "runrig/runriglaw30.PlayRuns", spec := "playRuns", unfollowed := true, recurses := true, apart := false }
def PlayRunsSaid : Prop := playRunsRow.holds Tryz.pinned (OpenSpec.ofChange playRunsSpec)

/-- ITS FALSE NEIGHBOUR: 'it returns false'. Refute it at one input. -/
def playRunsWrong : ChangeSpec := { name := "playRuns", fn := fun _ => fun
  | [d1, d2, d3] => { results := [.lit (.bool false)], args := [d1, d2, d3] }
  | _ => none }
def PlayRunsWrongFalsely : Prop := playRunsRow.holds Tryz.pinned (OpenSpec.ofChange playRunsWrong)

/-- 'runriglaw30.PlayMore': WHATEVER THE INPUT: true; the input reads as it did. -/
def playMoreSpec : ChangeSpec := { name := "playMore", fn := fun _ => fun
  | [d1, d2, d3, d4] => { results := [.lit (.bool true)], args := [d1, d2, d3, d4] }
  | _ => none }
def playMoreRow : OpenClaim := { program := "ytomadjefdghliaagreat", sum := "309a438a8eab0c935095527683c9e0673c8a2fde3b0d9b3fdff3f1d1b4d7539b", func := "runrig/runriglaw30.PlayMore", spec := "playMore", unfollowed := true, recurses := true, apart := false }
def PlayMoreSaid : Prop := playMoreRow.holds Tryz.pinned (OpenSpec.ofChange playMoreSpec)

/-- ITS FALSE NEIGHBOUR: 'it returns false'. Refute it at one input. -/
def playMoreWrong : ChangeSpec := { name := "playMore", fn := fun _ => fun
  | [d1, d2, d3, d4] => { results := [.lit (.bool false)], args := [d1, d2, d3, d4] }
  | _ => none }
def PlayMoreWrongFalsely : Prop := playMoreRow.holds Tryz.pinned (OpenSpec.ofChange playMoreWrong)

/-- 'runriglaw30.PlayCounts': WHATEVER THE INPUT: true; the input reads as it did. -/
def playCountsSpec : ChangeSpec := { name := "playCounts", fn := fun _ => fun
  | [d1, d2, d3] => { results := [.lit (.bool true)], args := [d1, d2, d3] }
  | _ => none }
def playCountsRow : OpenClaim := { program := "ytomadjefdghliaagreat", sum := "309a438a8eab0c935095527683c9e0673c8a2fde3b0d9b3fdff3f1d1b4d7539b", func := "runrig/runriglaw30.PlayCounts", spec := "playCounts", unfollowed := true, recurses := true, apart := false }
def PlayCountsSaid : Prop := playCountsRow.holds Tryz.pinned (OpenSpec.ofChange playCountsSpec)

/-- ITS FALSE NEIGHBOUR: 'it returns false'. Refute it at one input. -/
def playCountsWrong : ChangeSpec := { name := "playCounts", fn := fun _ => fun
  | [d1, d2, d3] => { results := [.lit (.bool false)], args := [d1, d2, d3] }
  | _ => none }
def PlayCountsWrongFalsely : Prop := playCountsRow.holds Tryz.pinned (OpenSpec.ofChange playCountsWrong)

/-- 'runriglaw30.PlayKnown': WHATEVER THE INPUT: true; the input reads as it did. -/
def playKnownSpec : ChangeSpec := { name := "playKnown", fn := fun _ => fun
  | [d] => { results := [.lit (.bool true)], args := [d] }
  | _ => none }
def playKnownRow : OpenClaim := { program := "ytomadjefdghliaagreat", sum := "309a438a8eab0c935095527683c9e0673c8a2fde3b0d9b3fdff3f1d1b4d7539b", func := "runrig/runriglaw30.PlayKnown", spec := "playKnown", unfollowed := true, recurses := true, apart := false }
def PlayKnownSaid : Prop := playKnownRow.holds Tryz.pinned (OpenSpec.ofChange playKnownSpec)

/-- ITS FALSE NEIGHBOUR: 'it returns false'. Refute it at one input. -/
def playKnownWrong : ChangeSpec := { name := "playKnown", fn := fun _ => fun
  | [d] => { results := [.lit (.bool false)], args := [d] }
  | _ => none }
def PlayKnownWrongFalsely : Prop := playKnownRow.holds Tryz.pinned (OpenSpec.ofChange playKnownWrong)

/- THE SECOND FORM. 'bulk': how many values and letters a reading holds, each counted each time it is reached (what is shared counts as often as it is met; a slice's spare places count too). A statement '..UptoSaid' is the law's where the arguments, and the package variables that the reading takes, are together of bulk at most 1048576: NARROWER than '..Said'. Prove '..Said' where nothing that the law and all that it calls make is longer than what came in: it says more and counts as full. Else prove '..UptoSaid'. A law counts once. -/
mutual
def uptoBulk {H : Type} : DataW H → Nat
  | .lit (.string bytes) => bytes.length + 1
  | .lit _ => 1
  | .nil => 1
  | .ptr d => uptoBulk d + 1
  | .slice elems spare => uptoBulkAll elems + uptoBulkAll spare + 1
  | .agg parts => uptoBulkAll parts + 1
  | .iface _ d => uptoBulk d + 1
  | .map entries => uptoBulkEntries entries + 1
  | .held _ => 1
def uptoBulkAll {H : Type} : List (DataW H) → Nat
  | [] => 0
  | d :: r => uptoBulk d + uptoBulkAll r
def uptoBulkEntries {H : Type} : List (Lit × DataW H) → Nat
  | [] => 0
  | x :: r => uptoBulkEntry x + uptoBulkEntries r
def uptoBulkEntry {H : Type} : Lit × DataW H → Nat
  | (.string bytes, d) => bytes.length + uptoBulk d + 1
  | (_, d) => uptoBulk d + 1
 end
def uptoSmall : (H : Type) → List (DataW H) → Bool := fun _ ds => decide (uptoBulkAll ds ≤ 1048576)
def OpenSpec.upto (s : _root_.Go.ChangeSpec) : _root_.Go.OpenSpec := { _root_.Go.OpenSpec.ofChange s with cond := some uptoSmall }

/-- 'runriglaw30.PlayRuns', WHERE WHAT IT READS IS OF BULK AT MOST 1048576: true; the input reads as it did. -/
def playRunsUptoRow : OpenClaim := { program := "ytomadjefdghliaagreat", sum := "309a438a8eab0c935095527683c9e0673c8a2fde3b0d9b3fdff3f1d1b4d7539b", func := "runrig/runriglaw30.PlayRuns", spec := "playRuns", unfollowed := true, recurses := true, apart := false, narrowed := true }
def PlayRunsUptoSaid : Prop := playRunsUptoRow.holds Tryz.pinned (OpenSpec.upto playRunsSpec)

/-- 'runriglaw30.PlayMore', WHERE WHAT IT READS IS OF BULK AT MOST 1048576: true; the input reads as it did. -/
def playMoreUptoRow : OpenClaim := { program := "ytomadjefdghliaagreat", sum := "309a438a8eab0c935095527683c9e0673c8a2fde3b0d9b3fdff3f1d1b4d7539b", func := "runrig/runriglaw30.PlayMore", spec := "playMore", unfollowed := true, recurses := true, apart := false, narrowed := true }
def PlayMoreUptoSaid : Prop := playMoreUptoRow.holds Tryz.pinned (OpenSpec.upto playMoreSpec)

/-- 'runriglaw30.PlayCounts', WHERE WHAT IT READS IS OF BULK AT MOST 1048576: true; the input reads as it did. -/
def playCountsUptoRow : OpenClaim := { program := "ytomadjefdghliaagreat", sum := "309a438a8eab0c935095527683c9e0673c8a2fde3b0d9b3fdff3f1d1b4d7539b", func := "runrig/runriglaw30.PlayCounts", spec := "playCounts", unfollowed := true, recurses := true, apart := false, narrowed := true }
def PlayCountsUptoSaid : Prop := playCountsUptoRow.holds Tryz.pinned (OpenSpec.upto playCountsSpec)

/-- 'runriglaw30.PlayKnown', WHERE WHAT IT READS IS OF BULK AT MOST 1048576: true; the input reads as it did. -/
def playKnownUptoRow : OpenClaim := { program := "ytomadjefdghliaagreat", sum := "309a438a8eab0c935095527683c9e0673c8a2fde3b0d9b3fdff3f1d1b4d7539b", func := "runrig/runriglaw30.PlayKnown", spec := "playKnown", unfollowed := true, recurses := true, apart := false, narrowed := true }
def PlayKnownUptoSaid : Prop := playKnownUptoRow.holds Tryz.pinned (OpenSpec.upto playKnownSpec)

end Rows
end Go.Proofs.YtomadjefdghliaaGreat
