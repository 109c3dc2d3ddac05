/-
  No cell of these rows narrows 'for every input' (looked for: loops, veiled, ifaces, maps, wideKeys, modest, calm, conditions, laid).
  DERIVED. THE GIVEN ROWS OF THIS SEAT. 5 by the template 'for every input the law returns true; each argument reads behind the call as it read before'; 0 by the template 'total and deterministic' (their statements: YtcmeaaaphceklaaTotals.lean).
  GIVEN WITH THE SEED: the statements are not yours to turn. If you find one false, say at which input.
  Laid BY PROGRAM, IN A SANDBOX (cutbox-rows.mjs): the forced cells as the released guide's own fill.sh prints them over the translation c7ad867107dafa8a… (all of the seat's roots in one cut). By AI agents, Wed Nov 11 2026. No macro, syntax, notation, axiom, sorry.
-/
import Derived.Test.YtcmeaaaphceklaaChecked
import GoSem.Claim
import GoSem.ClaimJoined
import GoSem.ClaimMapViews
import Derived.JoinedTies
import Derived.KernelRfl
namespace Go.Proofs.Ytcmeaaaphceklaa
/- THE CELL 'sum', in the pinned program and in every row, IS THE sha256 OF THE DUMP (.gsa) THAT YtcmeaaaphceklaaProg.lean LOADS. Nothing in Lean hashes anything: it is a label: what it is worth is what the hold of that sum in a sandbox is worth. -/
noncomputable def Try.pinned : Pinned := { name := "ytcmeaaaphceklaa", sum := "c7ad867107dafa8a77fccbb8ba9a8f92bec2c84e7497b3858ee79274405d2d8c", checked := Try.checked }
namespace Rows
def none {H : Type} : Left H := { results := [], args := [] }

/-- 'runriglaw29.TableGone': WHATEVER THE INPUT: true; the input reads as it did. -/
def tableGoneSpec : ChangeSpec := { name := "tableGone", fn := fun _ => fun
  | [d1, d2, d3, d4] => { results := [.lit (.bool true)], args := [d1, d2, d3, d4] }
  | _ => none }
def tableGoneRow : OpenClaim := { program := "ytcmeaaaphceklaa", sum := "c7ad867107dafa8a77fccbb8ba9a8f92bec2c84e7497b3858ee79274405d2d8c", func := "runrig/runriglaw29.TableGone", spec := "tableGone", apart := false }
def TableGoneSaid : Prop := tableGoneRow.holds Try.pinned (OpenSpec.ofChange tableGoneSpec)

/-- ITS FALSE NEIGHBOUR: 'it returns false'. Refute it at one input. -/
def tableGoneWrong : ChangeSpec := { name := "tableGone", fn := fun _ => fun
  | [d1, d2, d3, d4] => { results := [.lit (.bool false)], args := [d1, d2, d3, d4] }
  | _ => none }
def TableGoneWrongFalsely : Prop := tableGoneRow.holds Try.pinned (OpenSpec.ofChange tableGoneWrong)

/-- 'runriglaw29.TablePlays': WHATEVER THE INPUT: true; the input reads as it did. -/
def tablePlaysSpec : ChangeSpec := { name := "tablePlays", fn := fun _ => fun
  | [d] => { results := [.lit (.bool true)], args := [d] }
  | _ => none }
def tablePlaysRow : OpenClaim := { program := "ytcmeaaaphceklaa", sum := "c7ad867107dafa8a77fccbb8ba9a8f92bec2c84e7497b3858ee79274405d2d8c", func := "runrig/runriglaw29.TablePlays", spec := "tablePlays", apart := false }
def TablePlaysSaid : Prop := tablePlaysRow.holds Try.pinned (OpenSpec.ofChange tablePlaysSpec)

/-- ITS FALSE NEIGHBOUR: 'it returns false'. Refute it at one input. -/
def tablePlaysWrong : ChangeSpec := { name := "tablePlays", fn := fun _ => fun
  | [d] => { results := [.lit (.bool false)], args := [d] }
  | _ => none }
def TablePlaysWrongFalsely : Prop := tablePlaysRow.holds Try.pinned (OpenSpec.ofChange tablePlaysWrong)

/-- 'runriglaw29.TableOnce': WHATEVER THE INPUT: true; the input reads as it did. -/
def tableOnceSpec : ChangeSpec := { name := "tableOnce", fn := fun _ => fun
  | [d1, d2] => { results := [.lit (.bool true)], args := [d1, d2] }
  | _ => none }
def tableOnceRow : OpenClaim := { program := "ytcmeaaaphceklaa", sum := "c7ad867107dafa8a77fccbb8ba9a8f92bec2c84e7497b3858ee79274405d2d8c", func := "runrig/runriglaw29.TableOnce", spec := "tableOnce", apart := false }
def TableOnceSaid : Prop := tableOnceRow.holds Try.pinned (OpenSpec.ofChange tableOnceSpec)

/-- ITS FALSE NEIGHBOUR: 'it returns false'. Refute it at one input. -/
def tableOnceWrong : ChangeSpec := { name := "tableOnce", fn := fun _ => fun
  | [d1, d2] => { results := [.lit (.bool false)], args := [d1, d2] }
  | _ => none }
def TableOnceWrongFalsely : Prop := tableOnceRow.holds Try.pinned (OpenSpec.ofChange tableOnceWrong)

/-- 'runriglaw29.TableSizes': WHATEVER THE INPUT: true; the input reads as it did. -/
def tableSizesSpec : ChangeSpec := { name := "tableSizes", fn := fun _ => fun
  | [d1, d2, d3] => { results := [.lit (.bool true)], args := [d1, d2, d3] }
  | _ => none }
def tableSizesRow : OpenClaim := { program := "ytcmeaaaphceklaa", sum := "c7ad867107dafa8a77fccbb8ba9a8f92bec2c84e7497b3858ee79274405d2d8c", func := "runrig/runriglaw29.TableSizes", spec := "tableSizes", apart := false }
def TableSizesSaid : Prop := tableSizesRow.holds Try.pinned (OpenSpec.ofChange tableSizesSpec)

/-- ITS FALSE NEIGHBOUR: 'it returns false'. Refute it at one input. -/
def tableSizesWrong : ChangeSpec := { name := "tableSizes", fn := fun _ => fun
  | [d1, d2, d3] => { results := [.lit (.bool false)], args := [d1, d2, d3] }
  | _ => none }
def TableSizesWrongFalsely : Prop := tableSizesRow.holds Try.pinned (OpenSpec.ofChange tableSizesWrong)

/-- 'runriglaw29.TableNil': WHATEVER THE INPUT: true; the input reads as it did. -/
def tableNilSpec : ChangeSpec := { name := "tableNil", fn := fun _ => fun
  | [d1, d2, d3] => { results := [.lit (.bool true)], args := [d1, d2, d3] }
  | _ => none }
def tableNilRow : OpenClaim := { program := "ytcmeaaaphceklaa", sum := "c7ad867107dafa8a77fccbb8ba9a8f92bec2c84e7497b3858ee79274405d2d8c", func := "runrig/runriglaw29.TableNil", spec := "tableNil", apart := false }
def TableNilSaid : Prop := tableNilRow.holds Try.pinned (OpenSpec.ofChange tableNilSpec)

/-- ITS FALSE NEIGHBOUR: 'it returns false'. Refute it at one input. -/
def tableNilWrong : ChangeSpec := { name := "tableNil", fn := fun _ => fun
  | [d1, d2, d3] => { results := [.lit (.bool false)], args := [d1, d2, d3] }
  | _ => none }
def TableNilWrongFalsely : Prop := tableNilRow.holds Try.pinned (OpenSpec.ofChange tableNilWrong)

/- THE SECOND FORM. 'bulk': how many values and letters a reading holds, each counted each time it is reached (what is shared counts as often as it is met; a slice's spare places count too). A statement '..UptoSaid' is the law's where the arguments, and the package variables that the reading takes, are together of bulk at most 1048576: NARROWER than '..Said'. Prove '..Said' where nothing that the law and all that it calls make is longer than what came in: it says more and counts as full. Else prove '..UptoSaid'. A law counts once. -/
mutual
def uptoBulk {H : Type} : DataW H → Nat
  | .lit (.string bytes) => bytes.length + 1
  | .lit _ => 1
  | .nil => 1
  | .ptr d => uptoBulk d + 1
  | .slice elems spare => uptoBulkAll elems + uptoBulkAll spare + 1
  | .agg parts => uptoBulkAll parts + 1
  | .iface _ d => uptoBulk d + 1
  | .map entries => uptoBulkEntries entries + 1
  | .held _ => 1
def uptoBulkAll {H : Type} : List (DataW H) → Nat
  | [] => 0
  | d :: r => uptoBulk d + uptoBulkAll r
def uptoBulkEntries {H : Type} : List (Lit × DataW H) → Nat
  | [] => 0
  | x :: r => uptoBulkEntry x + uptoBulkEntries r
def uptoBulkEntry {H : Type} : Lit × DataW H → Nat
  | (.string bytes, d) => bytes.length + uptoBulk d + 1
  | (_, d) => uptoBulk d + 1
 end
def uptoSmall : (H : Type) → List (DataW H) → Bool := fun _ ds => decide (uptoBulkAll ds ≤ 1048576)
def OpenSpec.upto (s : _root_.Go.ChangeSpec) : _root_.Go.OpenSpec := { _root_.Go.OpenSpec.ofChange s with cond := some uptoSmall }

/-- 'runriglaw29.TableGone', WHERE WHAT IT READS IS OF BULK AT MOST 1048576: true; the input reads as it did. -/
def tableGoneUptoRow : OpenClaim := { program := "ytcmeaaaphceklaa", sum := "c7ad867107dafa8a77fccbb8ba9a8f92bec2c84e7497b3858ee79274405d2d8c", func := "runrig/runriglaw29.TableGone", spec := "tableGone", apart := false, narrowed := true }
def TableGoneUptoSaid : Prop := tableGoneUptoRow.holds Try.pinned (OpenSpec.upto tableGoneSpec)

/-- 'runriglaw29.TablePlays', WHERE WHAT IT READS IS OF BULK AT MOST 1048576: true; the input reads as it did. -/
def tablePlaysUptoRow : OpenClaim := { program := "ytcmeaaaphceklaa", sum := "c7ad867107dafa8a77fccbb8ba9a8f92bec2c84e7497b3858ee79274405d2d8c", func := "runrig/runriglaw29.TablePlays", spec := "tablePlays", apart := false, narrowed := true }
def TablePlaysUptoSaid : Prop := tablePlaysUptoRow.holds Try.pinned (OpenSpec.upto tablePlaysSpec)

/-- 'runriglaw29.TableOnce', WHERE WHAT IT READS IS OF BULK AT MOST 1048576: true; the input reads as it did. -/
def tableOnceUptoRow : OpenClaim := { program := "ytcmeaaaphceklaa", sum := "c7ad867107dafa8a77fccbb8ba9a8f92bec2c84e7497b3858ee79274405d2d8c", func := "runrig/runriglaw29.TableOnce", spec := "tableOnce", apart := false, narrowed := true }
def TableOnceUptoSaid : Prop := tableOnceUptoRow.holds Try.pinned (OpenSpec.upto tableOnceSpec)

/-- 'runriglaw29.TableSizes', WHERE WHAT IT READS IS OF BULK AT MOST 1048576: true; the input reads as it did. -/
def tableSizesUptoRow : OpenClaim := { program := "ytcmeaaaphceklaa", sum := "c7ad867107dafa8a77fccbb8ba9a8f92bec2c84e7497b3858ee79274405d2d8c", func := "runrig/runriglaw29.TableSizes", spec := "tableSizes", apart := false, narrowed := true }
def TableSizesUptoSaid : Prop := tableSizesUptoRow.holds Try.pinned (OpenSpec.upto tableSizesSpec)

/-- 'runriglaw29.TableNil', WHERE WHAT IT READS IS OF BULK AT MOST 1048576: true; the input reads as it did. -/
def tableNilUptoRow : OpenClaim := { program := "ytcmeaaaphceklaa", sum := "c7ad867107dafa8a77fccbb8ba9a8f92bec2c84e7497b3858ee79274405d2d8c", func := "runrig/runriglaw29.TableNil", spec := "tableNil", apart := false, narrowed := true }
def TableNilUptoSaid : Prop := tableNilUptoRow.holds Try.pinned (OpenSpec.upto tableNilSpec)

end Rows
end Go.Proofs.Ytcmeaaaphceklaa
