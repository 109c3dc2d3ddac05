/-
  No cell of these rows narrows 'for every input' (looked for: loops, veiled, ifaces, maps, wideKeys, modest, calm, conditions, laid).
  DERIVED. THE GIVEN ROWS OF THIS SEAT. 5 by the template 'for every input the law returns true; each argument reads behind the call as it read before'; 0 by the template 'total and deterministic' (their statements: YtacokkcbbmpdcaaTotals.lean).
  GIVEN WITH THE SEED: the statements are not yours to turn. If you find one false, say at which input.
  Laid BY PROGRAM, IN A SANDBOX (cutbox-rows.mjs): the forced cells as the released guide's own fill.sh prints them over the translation ccfd27b4f79b330b… (all of the seat's roots in one cut). By AI agents, Wed Nov 11 2026. No macro, syntax, notation, axiom, sorry.
-/
import Derived.Test.YtacokkcbbmpdcaaChecked
import GoSem.Claim
import GoSem.ClaimJoined
import GoSem.ClaimMapViews
import Derived.JoinedTies
import Derived.KernelRfl
namespace Go.Proofs.Ytacokkcbbmpdcaa
/- THE CELL 'sum', in the pinned program and in every row, IS THE sha256 OF THE DUMP (.gsa) THAT YtacokkcbbmpdcaaProg.lean LOADS. Nothing in Lean hashes anything: it is a label: what it is worth is what the hold of that sum in a sandbox is worth. -/
noncomputable def Try.pinned : Pinned := { name := "ytacokkcbbmpdcaa", sum := "ccfd27b4f79b330b1e6e553f438ff9c11b2a812ca5014a999800d6cfa8c96be0", checked := Try.checked }
namespace Rows
def none {H : Type} : Left H := { results := [], args := [] }

/-- 'runriglaw15.FlowNext': WHATEVER THE INPUT: true; the input reads as it did. -/
def flowNextSpec : ChangeSpec := { name := "flowNext", fn := fun _ => fun
  | [d1, d2] => { results := [.lit (.bool true)], args := [d1, d2] }
  | _ => none }
def flowNextRow : OpenClaim := { program := "ytacokkcbbmpdcaa", sum := "ccfd27b4f79b330b1e6e553f438ff9c11b2a812ca5014a999800d6cfa8c96be0", func := "runrig/runriglaw15.FlowNext", spec := "flowNext", unfollowed := true, recurses := true, apart := false }
def FlowNextSaid : Prop := flowNextRow.holds Try.pinned (OpenSpec.ofChange flowNextSpec)

/-- ITS FALSE NEIGHBOUR: 'it returns false'. Refute it at one input. -/
def flowNextWrong : ChangeSpec := { name := "flowNext", fn := fun _ => fun
  | [d1, d2] => { results := [.lit (.bool false)], args := [d1, d2] }
  | _ => none }
def FlowNextWrongFalsely : Prop := flowNextRow.holds Try.pinned (OpenSpec.ofChange flowNextWrong)

/-- 'runriglaw15.FlowBack': WHATEVER THE INPUT: true; the input reads as it did. -/
def flowBackSpec : ChangeSpec := { name := "flowBack", fn := fun _ => fun
  | [d] => { results := [.lit (.bool true)], args := [d] }
  | _ => none }
def flowBackRow : OpenClaim := { program := "ytacokkcbbmpdcaa", sum := "ccfd27b4f79b330b1e6e553f438ff9c11b2a812ca5014a999800d6cfa8c96be0", func := "runrig/runriglaw15.FlowBack", spec := "flowBack", unfollowed := true, recurses := true, apart := false }
def FlowBackSaid : Prop := flowBackRow.holds Try.pinned (OpenSpec.ofChange flowBackSpec)

/-- ITS FALSE NEIGHBOUR: 'it returns false'. Refute it at one input. -/
def flowBackWrong : ChangeSpec := { name := "flowBack", fn := fun _ => fun
  | [d] => { results := [.lit (.bool false)], args := [d] }
  | _ => none }
def FlowBackWrongFalsely : Prop := flowBackRow.holds Try.pinned (OpenSpec.ofChange flowBackWrong)

/-- 'runriglaw15.FlowMet': WHATEVER THE INPUT: true; the input reads as it did. -/
def flowMetSpec : ChangeSpec := { name := "flowMet", fn := fun _ => fun
  | [d] => { results := [.lit (.bool true)], args := [d] }
  | _ => none }
def flowMetRow : OpenClaim := { program := "ytacokkcbbmpdcaa", sum := "ccfd27b4f79b330b1e6e553f438ff9c11b2a812ca5014a999800d6cfa8c96be0", func := "runrig/runriglaw15.FlowMet", spec := "flowMet", unfollowed := true, recurses := true, apart := false }
def FlowMetSaid : Prop := flowMetRow.holds Try.pinned (OpenSpec.ofChange flowMetSpec)

/-- ITS FALSE NEIGHBOUR: 'it returns false'. Refute it at one input. -/
def flowMetWrong : ChangeSpec := { name := "flowMet", fn := fun _ => fun
  | [d] => { results := [.lit (.bool false)], args := [d] }
  | _ => none }
def FlowMetWrongFalsely : Prop := flowMetRow.holds Try.pinned (OpenSpec.ofChange flowMetWrong)

/-- 'runriglaw15.FlowLine': WHATEVER THE INPUT: true; the input reads as it did. -/
def flowLineSpec : ChangeSpec := { name := "flowLine", fn := fun _ => fun
  | [d1, d2] => { results := [.lit (.bool true)], args := [d1, d2] }
  | _ => none }
def flowLineRow : OpenClaim := { program := "ytacokkcbbmpdcaa", sum := "ccfd27b4f79b330b1e6e553f438ff9c11b2a812ca5014a999800d6cfa8c96be0", func := "runrig/runriglaw15.FlowLine", spec := "flowLine", unfollowed := true, recurses := true, apart := false }
def FlowLineSaid : Prop := flowLineRow.holds Try.pinned (OpenSpec.ofChange flowLineSpec)

/-- ITS FALSE NEIGHBOUR: 'it returns false'. Refute it at one input. -/
def flowLineWrong : ChangeSpec := { name := "flowLine", fn := fun _ => fun
  | [d1, d2] => { results := [.lit (.bool false)], args := [d1, d2] }
  | _ => none }
def FlowLineWrongFalsely : Prop := flowLineRow.holds Try.pinned (OpenSpec.ofChange flowLineWrong)

/-- 'runriglaw15.FlowWild': WHATEVER THE INPUT: true; the input reads as it did. -/
def flowWildSpec : ChangeSpec := { name := "flowWild", fn := fun _ => fun
  | [d1, d2, d3] => { results := [.lit (.bool true)], args := [d1, d2, d3] }
  | _ => none }
def flowWildRow : OpenClaim := { program := "ytacokkcbbmpdcaa", sum := "ccfd27b4f79b330b1e6e553f438ff9c11b2a812ca5014a999800d6cfa8c96be0", func := "runrig/runriglaw15.FlowWild", spec := "flowWild", unfollowed := true, recurses := true, apart := false }
def FlowWildSaid : Prop := flowWildRow.holds Try.pinned (OpenSpec.ofChange flowWildSpec)

/-- ITS FALSE NEIGHBOUR: 'it returns false'. Refute it at one input. -/
def flowWildWrong : ChangeSpec := { name := "flowWild", fn := fun _ => fun
  | [d1, d2, d3] => { results := [.lit (.bool false)], args := [d1, d2, d3] }
  | _ => none }
def FlowWildWrongFalsely : Prop := flowWildRow.holds Try.pinned (OpenSpec.ofChange flowWildWrong)

/- THE SECOND FORM. 'bulk': how many values and letters a reading holds, each counted each time it is reached (what is shared counts as often as it is met; a slice's spare places count too). A statement '..UptoSaid' is the law's where the arguments, and the package variables that the reading takes, are together of bulk at most 1048576: NARROWER than '..Said'. Prove '..Said' where nothing that the law and all that it calls make is longer than what came in: it says more and counts as full. Else prove '..UptoSaid'. A law counts once. -/
mutual
def uptoBulk {H : Type} : DataW H → Nat
  | .lit (.string bytes) => bytes.length + 1
  | .lit _ => 1
  | .nil => 1
  | .ptr d => uptoBulk d + 1
  | .slice elems spare => uptoBulkAll elems + uptoBulkAll spare + 1
  | .agg parts => uptoBulkAll parts + 1
  | .iface _ d => uptoBulk d + 1
  | .map entries => uptoBulkEntries entries + 1
  | .held _ => 1
def uptoBulkAll {H : Type} : List (DataW H) → Nat
  | [] => 0
  | d :: r => uptoBulk d + uptoBulkAll r
def uptoBulkEntries {H : Type} : List (Lit × DataW H) → Nat
  | [] => 0
  | x :: r => uptoBulkEntry x + uptoBulkEntries r
def uptoBulkEntry {H : Type} : Lit × DataW H → Nat
  | (.string bytes, d) => bytes.length + uptoBulk d + 1
  | (_, d) => uptoBulk d + 1
 end
def uptoSmall : (H : Type) → List (DataW H) → Bool := fun _ ds => decide (uptoBulkAll ds ≤ 1048576)
def OpenSpec.upto (s : _root_.Go.ChangeSpec) : _root_.Go.OpenSpec := { _root_.Go.OpenSpec.ofChange s with cond := some uptoSmall }

/-- 'runriglaw15.FlowNext', WHERE WHAT IT READS IS OF BULK AT MOST 1048576: true; the input reads as it did. -/
def flowNextUptoRow : OpenClaim := { program := "ytacokkcbbmpdcaa", sum := "ccfd27b4f79b330b1e6e553f438ff9c11b2a812ca5014a999800d6cfa8c96be0", func := "runrig/runriglaw15.FlowNext", spec := "flowNext", unfollowed := true, recurses := true, apart := false, narrowed := true }
def FlowNextUptoSaid : Prop := flowNextUptoRow.holds Try.pinned (OpenSpec.upto flowNextSpec)

/-- 'runriglaw15.FlowBack', WHERE WHAT IT READS IS OF BULK AT MOST 1048576: true; the input reads as it did. -/
def flowBackUptoRow : OpenClaim := { program := "ytacokkcbbmpdcaa", sum := "ccfd27b4f79b330b1e6e553f438ff9c11b2a812ca5014a999800d6cfa8c96be0", func := "runrig/runriglaw15.FlowBack", spec := "flowBack", unfollowed := true, recurses := true, apart := false, narrowed := true }
def FlowBackUptoSaid : Prop := flowBackUptoRow.holds Try.pinned (OpenSpec.upto flowBackSpec)

/-- 'runriglaw15.FlowMet', WHERE WHAT IT READS IS OF BULK AT MOST 1048576: true; the input reads as it did. -/
def flowMetUptoRow : OpenClaim := { program := "ytacokkcbbmpdcaa", sum := "ccfd27b4f79b330b1e6e553f438ff9c11b2a812ca5014a999800d6cfa8c96be0", func := "runrig/runriglaw15.FlowMet", spec := "flowMet", unfollowed := true, recurses := true, apart := false, narrowed := true }
def FlowMetUptoSaid : Prop := flowMetUptoRow.holds Try.pinned (OpenSpec.upto flowMetSpec)

/-- 'runriglaw15.FlowLine', WHERE WHAT IT READS IS OF BULK AT MOST 1048576: true; the input reads as it did. -/
def flowLineUptoRow : OpenClaim := { program := "ytacokkcbbmpdcaa", sum := "ccfd27b4f79b330b1e6e553f438ff9c11b2a812ca5014a999800d6cfa8c96be0", func := "runrig/runriglaw15.FlowLine", spec := "flowLine", unfollowed := true, recurses := true, apart := false, narrowed := true }
def FlowLineUptoSaid : Prop := flowLineUptoRow.holds Try.pinned (OpenSpec.upto flowLineSpec)

/-- 'runriglaw15.FlowWild', WHERE WHAT IT READS IS OF BULK AT MOST 1048576: true; the input reads as it did. -/
def flowWildUptoRow : OpenClaim := { program := "ytacokkcbbmpdcaa", sum := "ccfd27b4f79b330b1e6e553f438ff9c11b2a812ca5014a999800d6cfa8c96be0", func := "runrig/runriglaw15.FlowWild", spec := "flowWild", unfollowed := true, recurses := true, apart := false, narrowed := true }
def FlowWildUptoSaid : Prop := flowWildUptoRow.holds Try.pinned (OpenSpec.upto flowWildSpec)

end Rows
end Go.Proofs.Ytacokkcbbmpdcaa
