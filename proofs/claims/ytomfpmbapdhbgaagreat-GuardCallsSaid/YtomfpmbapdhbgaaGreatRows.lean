/-
  No cell of these rows narrows 'for every input' (looked for: loops, veiled, ifaces, maps, wideKeys, modest, calm, conditions, laid).
  DERIVED. THE GIVEN ROWS OF THIS SEAT. 3 by the template 'for every input the law returns true; each argument reads behind the call as it read before'; 0 by the template 'total and deterministic' (their statements: YtomfpmbapdhbgaaGreatTotals.lean).
  GIVEN WITH THE SEED: the statements are not yours to turn. If you find one false, say at which input.
  Laid BY PROGRAM, IN A SANDBOX (cutbox-rows.mjs): the forced cells as the released guide's own fill.sh prints them over the translation 91682455dcea94fb… (all of the seat's roots in one cut). By AI agents, Wed Nov 11 2026. No macro, syntax, notation, axiom, sorry.
-/
import Derived.Test.YtomfpmbapdhbgaaGreatChecked
import GoSem.Claim
import GoSem.ClaimJoined
import GoSem.ClaimMapViews
import Derived.JoinedTies
import Derived.KernelRfl
namespace Go.Proofs.YtomfpmbapdhbgaaGreat
/- THE CELL 'sum', in the pinned program and in every row, IS THE sha256 OF THE DUMP (.gsa) THAT YtomfpmbapdhbgaaGreatProg.lean LOADS. Nothing in Lean hashes anything: it is a label: what it is worth is what the hold of that sum in a sandbox is worth. -/
noncomputable def Tryz.pinned : Pinned := { name := "ytomfpmbapdhbgaagreat", sum := "91682455dcea94fb10f01e615ba6b42a680fc3b91d3336fb403b7fe6985d4365", checked := Tryz.checked }
namespace Rows
def none {H : Type} : Left H := { results := [], args := [] }

/-- 'runriglaw28.GuardAccepts': WHATEVER THE INPUT: true; the input reads as it did. -/
def guardAcceptsSpec : ChangeSpec := { name := "guardAccepts", fn := fun _ => fun
  | [d] => { results := [.lit (.bool true)], args := [d] }
  | _ => none }
def guardAcceptsRow : OpenClaim := { program := "ytomfpmbapdhbgaagreat", sum := "91682455dcea94fb10f01e615ba6b42a680fc3b91d3336fb403b7fe6985d4365", func := "runrig/runriglaw28.GuardAccepts", spec := "guardAccepts", unfollowed := true, recurses := true, apart := false }
def GuardAcceptsSaid : Prop := guardAcceptsRow.holds Tryz.pinned (OpenSpec.ofChange guardAcceptsSpec)

/-- ITS FALSE NEIGHBOUR: 'it returns false'. Refute it at one input. -/
def guardAcceptsWrong : ChangeSpec := { name := "guardAccepts", fn := fun _ => fun
  | [d] => { results := [.lit (.bool false)], args := [d] }
  | _ => none }
def GuardAcceptsWrongFalsely : Prop := guardAcceptsRow.holds Tryz.pinned (OpenSpec.ofChange guardAcceptsWrong)

/-- 'runriglaw28.GuardOdd': WHATEVER THE INPUT: true; the input reads as it did. -/
def guardOddSpec : ChangeSpec := { name := "guardOdd", fn := fun _ => fun
  | [d] => { results := [.lit (.bool true)], args := [d] }
  | _ => none }
def guardOddRow : OpenClaim := { program := "ytomfpmbapdhbgaagreat", sum := "91682455dcea94fb10f01e615ba6b42a680fc3b91d3336fb403b7fe6985d4365", func := "runrig/runriglaw28.GuardOdd", spec := "guardOdd", unfollowed := true, recurses := true, apart := false }
def GuardOddSaid : Prop := guardOddRow.holds Tryz.pinned (OpenSpec.ofChange guardOddSpec)

/-- ITS FALSE NEIGHBOUR: 'it returns false'. Refute it at one input. -/
def guardOddWrong : ChangeSpec := { name := "guardOdd", fn := fun _ => fun
  | [d] => { results := [.lit (.bool false)], args := [d] }
  | _ => none }
def GuardOddWrongFalsely : Prop := guardOddRow.holds Tryz.pinned (OpenSpec.ofChange guardOddWrong)

/-- 'runriglaw28.GuardCalls': WHATEVER THE INPUT: true; the input reads as it did. -/
def guardCallsSpec : ChangeSpec := { name := "guardCalls", fn := fun _ => fun
  | [d1, d2, d3] => { results := [.lit (.bool true)], args := [d1, d2, d3] }
  | _ => none }
def guardCallsRow : OpenClaim := { program := "ytomfpmbapdhbgaagreat", sum := "91682455dcea94fb10f01e615ba6b42a680fc3b91d3336fb403b7fe6985d4365", func := "runrig/runriglaw28.GuardCalls", spec := "guardCalls", unfollowed := true, recurses := true, apart := false }
def GuardCallsSaid : Prop := guardCallsRow.holds Tryz.pinned (OpenSpec.ofChange guardCallsSpec)

/-- ITS FALSE NEIGHBOUR: 'it returns false'. Refute it at one input. -/
def guardCallsWrong : ChangeSpec := { name := "guardCalls", fn := fun _ => fun
  | [d1, d2, d3] => { results := [.lit (.bool false)], args := [d1, d2, d3] }
  | _ => none }
def GuardCallsWrongFalsely : Prop := guardCallsRow.holds Tryz.pinned (OpenSpec.ofChange guardCallsWrong)

/- THE SECOND FORM. 'bulk': how many values and letters a reading holds, each counted each time it is reached (what is shared counts as often as it is met; a slice's spare places count too). A statement '..UptoSaid' is the law's where the arguments, and the package variables that the reading takes, are together of bulk at most 1048576: NARROWER than '..Said'. Prove '..Said' where nothing that the law and all that it calls make is longer than what came in: it says more and counts as full. Else prove '..UptoSaid'. A law counts once. -/
mutual
def uptoBulk {H : Type} : DataW H → Nat
  | .lit (.string bytes) => bytes.length + 1
  | .lit _ => 1
  | .nil => 1
  | .ptr d => uptoBulk d + 1
  | .slice elems spare => uptoBulkAll elems + uptoBulkAll spare + 1
  | .agg parts => uptoBulkAll parts + 1
  | .iface _ d => uptoBulk d + 1
  | .map entries => uptoBulkEntries entries + 1
  | .held _ => 1
def uptoBulkAll {H : Type} : List (DataW H) → Nat
  | [] => 0
  | d :: r => uptoBulk d + uptoBulkAll r
def uptoBulkEntries {H : Type} : List (Lit × DataW H) → Nat
  | [] => 0
  | x :: r => uptoBulkEntry x + uptoBulkEntries r
def uptoBulkEntry {H : Type} : Lit × DataW H → Nat
  | (.string bytes, d) => bytes.length + uptoBulk d + 1
  | (_, d) => uptoBulk d + 1
 end
def uptoSmall : (H : Type) → List (DataW H) → Bool := fun _ ds => decide (uptoBulkAll ds ≤ 1048576)
def OpenSpec.upto (s : _root_.Go.ChangeSpec) : _root_.Go.OpenSpec := { _root_.Go.OpenSpec.ofChange s with cond := some uptoSmall }

/-- 'runriglaw28.GuardAccepts', WHERE WHAT IT READS IS OF BULK AT MOST 1048576: true; the input reads as it did. -/
def guardAcceptsUptoRow : OpenClaim := { program := "ytomfpmbapdhbgaagreat", sum := "91682455dcea94fb10f01e615ba6b42a680fc3b91d3336fb403b7fe6985d4365", func := "runrig/runriglaw28.GuardAccepts", spec := "guardAccepts", unfollowed := true, recurses := true, apart := false, narrowed := true }
def GuardAcceptsUptoSaid : Prop := guardAcceptsUptoRow.holds Tryz.pinned (OpenSpec.upto guardAcceptsSpec)

/-- 'runriglaw28.GuardOdd', WHERE WHAT IT READS IS OF BULK AT MOST 1048576: true; the input reads as it did. -/
def guardOddUptoRow : OpenClaim := { program := "ytomfpmbapdhbgaagreat", sum := "91682455dcea94fb10f01e615ba6b42a680fc3b91d3336fb403b7fe6985d4365", func := "runrig/runriglaw28.GuardOdd", spec := "guardOdd", unfollowed := true, recurses := true, apart := false, narrowed := true }
def GuardOddUptoSaid : Prop := guardOddUptoRow.holds Tryz.pinned (OpenSpec.upto guardOddSpec)

/-- 'runriglaw28.GuardCalls', WHERE WHAT IT READS IS OF BULK AT MOST 1048576: true; the input reads as it did. -/
def guardCallsUptoRow : OpenClaim := { program := "ytomfpmbapdhbgaagreat", sum := "91682455dcea94fb10f01e615ba6b42a680fc3b91d3336fb403b7fe6985d4365", func := "runrig/runriglaw28.GuardCalls", spec := "guardCalls", unfollowed := true, recurses := true, apart := false, narrowed := true }
def GuardCallsUptoSaid : Prop := guardCallsUptoRow.holds Tryz.pinned (OpenSpec.upto guardCallsSpec)

end Rows
end Go.Proofs.YtomfpmbapdhbgaaGreat
