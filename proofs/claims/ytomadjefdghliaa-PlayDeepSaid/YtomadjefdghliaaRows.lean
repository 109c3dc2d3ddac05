/-
  No cell of these rows narrows 'for every input' (looked for: loops, veiled, ifaces, maps, wideKeys, modest, calm, conditions, laid).
  DERIVED. THE GIVEN ROWS OF THIS SEAT. 2 by the template 'for every input the law returns true; each argument reads behind the call as it read before'; 0 by the template 'total and deterministic' (their statements: YtomadjefdghliaaTotals.lean).
  GIVEN WITH THE SEED: the statements are not yours to turn. If you find one false, say at which input.
  Laid BY PROGRAM, IN A SANDBOX (cutbox-rows.mjs): the forced cells as the released guide's own fill.sh prints them over the translation f0588fc9842590e6… (all of the seat's roots in one cut). By AI agents, Wed Nov 11 2026. No macro, syntax, notation, axiom, sorry.
-/
import Derived.Test.YtomadjefdghliaaChecked
import GoSem.Claim
import GoSem.ClaimJoined
import GoSem.ClaimMapViews
import Derived.JoinedTies
import Derived.KernelRfl
namespace Go.Proofs.Ytomadjefdghliaa
/- THE CELL 'sum', in the pinned program and in every row, IS THE sha256 OF THE DUMP (.gsa) THAT YtomadjefdghliaaProg.lean LOADS. Nothing in Lean hashes anything: it is a label: what it is worth is what the hold of that sum in a sandbox is worth. -/
noncomputable def Try.pinned : Pinned := { name := "ytomadjefdghliaa", sum := "f0588fc9842590e61cd90c3f8af746e1eaa2b66d3646b1bb147f9a9204b4eaf2", checked := Try.checked }
namespace Rows
def none {H : Type} : Left H := { results := [], args := [] }

/-- 'runriglaw30.PlayLoops': WHATEVER THE INPUT: true; the input reads as it did. -/
def playLoopsSpec : ChangeSpec := { name := "playLoops", fn := fun _ => fun
  | [d1, d2] => { results := [.lit (.bool true)], args := [d1, d2] }
  | _ => none }
def playLoopsRow : OpenClaim := { program := "ytomadjefdghliaa", sum := "f0588fc9842590e61cd90c3f8af746e1eaa2b66d3646b1bb147f9a9204b4eaf2", func := "runrig/runriglaw30.PlayLoops", spec := "playLoops", unfollowed := true, recurses := true, apart := false }
def PlayLoopsSaid : Prop := playLoopsRow.holds Try.pinned (OpenSpec.ofChange playLoopsSpec)

/-- ITS FALSE NEIGHBOUR: 'it returns false'. Refute it at one input. -/
def playLoopsWrong : ChangeSpec := { name := "playLoops", fn := fun _ => fun
  | [d1, d2] => { results := [.lit (.bool false)], args := [d1, d2] }
  | _ => none }
def PlayLoopsWrongFalsely : Prop := playLoopsRow.holds Try.pinned (OpenSpec.ofChange playLoopsWrong)

/-- 'runriglaw30.PlayDeep': WHATEVER THE INPUT: true; the input reads as it did. -/
def playDeepSpec : ChangeSpec := { name := "playDeep", fn := fun _ => fun
  | [d] => { results := [.lit (.bool true)], args := [d] }
  | _ => none }
def playDeepRow : OpenClaim := { program := "ytomadjefdghliaa", sum := "f0588fc9842590e61cd90c3f8af746e1eaa2b66d3646b1bb147f9a9204b4eaf2", func := "runrig/runriglaw30.PlayDeep", spec := "playDeep", unfollowed := true, recurses := true, apart := false }
def PlayDeepSaid : Prop := playDeepRow.holds Try.pinned (OpenSpec.ofChange playDeepSpec)

/-- ITS FALSE NEIGHBOUR: 'it returns false'. Refute it at one input. -/
def playDeepWrong : ChangeSpec := { name := "playDeep", fn := fun _ => fun
  | [d] => { results := [.lit (.bool false)], args := [d] }
  | _ => none }
def PlayDeepWrongFalsely : Prop := playDeepRow.holds Try.pinned (OpenSpec.ofChange playDeepWrong)

/- THE SECOND FORM. 'bulk': how many values and letters a reading holds, each counted each time it is reached (what is shared counts as often as it is met; a slice's spare places count too). A statement '..UptoSaid' is the law's where the arguments, and the package variables that the reading takes, are together of bulk at most 1048576: NARROWER than '..Said'. Prove '..Said' where nothing that the law and all that it calls make is longer than what came in: it says more and counts as full. Else prove '..UptoSaid'. A law counts once. -/
mutual
def uptoBulk {H : Type} : DataW H → Nat
  | .lit (.string bytes) => bytes.length + 1
  | .lit _ => 1
  | .nil => 1
  | .ptr d => uptoBulk d + 1
  | .slice elems spare => uptoBulkAll elems + uptoBulkAll spare + 1
  | .agg parts => uptoBulkAll parts + 1
  | .iface _ d => uptoBulk d + 1
  | .map entries => uptoBulkEntries entries + 1
  | .held _ => 1
def uptoBulkAll {H : Type} : List (DataW H) → Nat
  | [] => 0
  | d :: r => uptoBulk d + uptoBulkAll r
def uptoBulkEntries {H : Type} : List (Lit × DataW H) → Nat
  | [] => 0
  | x :: r => uptoBulkEntry x + uptoBulkEntries r
def uptoBulkEntry {H : Type} : Lit × DataW H → Nat
  | (.string bytes, d) => bytes.length + uptoBulk d + 1
  | (_, d) => uptoBulk d + 1
 end
def uptoSmall : (H : Type) → List (DataW H) → Bool := fun _ ds => decide (uptoBulkAll ds ≤ 1048576)
def OpenSpec.upto (s : _root_.Go.ChangeSpec) : _root_.Go.OpenSpec := { _root_.Go.OpenSpec.ofChange s with cond := some uptoSmall }

/-- 'runriglaw30.PlayLoops', WHERE WHAT IT READS IS OF BULK AT MOST 1048576: true; the input reads as it did. -/
def playLoopsUptoRow : OpenClaim := { program := "ytomadjefdghliaa", sum := "f0588fc9842590e61cd90c3f8af746e1eaa2b66d3646b1bb147f9a9204b4eaf2", func := "runrig/runriglaw30.PlayLoops", spec := "playLoops", unfollowed := true, recurses := true, apart := false, narrowed := true }
def PlayLoopsUptoSaid : Prop := playLoopsUptoRow.holds Try.pinned (OpenSpec.upto playLoopsSpec)

/-- 'runriglaw30.PlayDeep', WHERE WHAT IT READS IS OF BULK AT MOST 1048576: true; the input reads as it did. -/
def playDeepUptoRow : OpenClaim := { program := "ytomadjefdghliaa", sum := "f0588fc9842590e61cd90c3f8af746e1eaa2b66d3646b1bb147f9a9204b4eaf2", func := "runrig/runriglaw30.PlayDeep", spec := "playDeep", unfollowed := true, recurses := true, apart := false, narrowed := true }
def PlayDeepUptoSaid : Prop := playDeepUptoRow.holds Try.pinned (OpenSpec.upto playDeepSpec)

end Rows
end Go.Proofs.Ytomadjefdghliaa
