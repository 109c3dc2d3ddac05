/-
  No cell of these rows narrows 'for every input' (looked for: loops, veiled, ifaces, maps, wideKeys, modest, calm, conditions, laid).
  DERIVED. THE GIVEN ROWS OF THIS SEAT. 7 by the template 'for every input the law returns true; each argument reads behind the call as it read before'; 0 by the template 'total and deterministic' (their statements: YtfhbainbmipddaaTotals.lean).
  GIVEN WITH THE SEED: the statements are not yours to turn. If you find one false, say at which input.
  Laid BY PROGRAM, IN A SANDBOX (cutbox-rows.mjs): the forced cells as the released guide's own fill.sh prints them over the translation ebd5f2c794c488d8… (all of the seat's roots in one cut). By AI agents, Wed Nov 11 2026. No macro, syntax, notation, axiom, sorry.
-/
import Derived.Test.YtfhbainbmipddaaChecked
import GoSem.Claim
import GoSem.ClaimJoined
import GoSem.ClaimMapViews
import Derived.JoinedTies
import Derived.KernelRfl
namespace Go.Proofs.Ytfhbainbmipddaa
/- THE CELL 'sum', in the pinned program and in every row, IS THE sha256 OF THE DUMP (.gsa) THAT YtfhbainbmipddaaProg.lean LOADS. Nothing in Lean hashes anything: it is a label: what it is worth is what the hold of that sum in a sandbox is worth. -/
noncomputable def Try.pinned : Pinned := { name := "ytfhbainbmipddaa", sum := "ebd5f2c794c488d8b10d1b04c67c6042003cd6e197b8171735735fba6b3927e9", checked := Try.checked }
namespace Rows
def none {H : Type} : Left H := { results := [], args := [] }

/-- 'runriglaw26.RtRight': WHATEVER THE INPUT: true; the input reads as it did. -/
def rtRightSpec : ChangeSpec := { name := "rtRight", fn := fun _ => fun
  | [d] => { results := [.lit (.bool true)], args := [d] }
  | _ => none }
def rtRightRow : OpenClaim := { program := "ytfhbainbmipddaa", sum := "ebd5f2c794c488d8b10d1b04c67c6042003cd6e197b8171735735fba6b3927e9", func := "runrig/runriglaw26.RtRight", spec := "rtRight", unfollowed := true, recurses := true, apart := false }
def RtRightSaid : Prop := rtRightRow.holds Try.pinned (OpenSpec.ofChange rtRightSpec)

/-- ITS FALSE NEIGHBOUR: 'it returns false'. Refute it at one input. -/
def rtRightWrong : ChangeSpec := { name := "rtRight", fn := fun _ => fun
  | [d] => { results := [.lit (.bool false)], args := [d] }
  | _ => none }
def RtRightWrongFalsely : Prop := rtRightRow.holds Try.pinned (OpenSpec.ofChange rtRightWrong)

/-- 'runriglaw26.RtOuts': WHATEVER THE INPUT: true; the input reads as it did. -/
def rtOutsSpec : ChangeSpec := { name := "rtOuts", fn := fun _ => fun
  | [d1, d2] => { results := [.lit (.bool true)], args := [d1, d2] }
  | _ => none }
def rtOutsRow : OpenClaim := { program := "ytfhbainbmipddaa", sum := "ebd5f2c794c488d8b10d1b04c67c6042003cd6e197b8171735735fba6b3927e9", func := "runrig/runriglaw26.RtOuts", spec := "rtOuts", unfollowed := true, recurses := true, apart := false }
def RtOutsSaid : Prop := rtOutsRow.holds Try.pinned (OpenSpec.ofChange rtOutsSpec)

/-- ITS FALSE NEIGHBOUR: 'it returns false'. Refute it at one input. -/
def rtOutsWrong : ChangeSpec := { name := "rtOuts", fn := fun _ => fun
  | [d1, d2] => { results := [.lit (.bool false)], args := [d1, d2] }
  | _ => none }
def RtOutsWrongFalsely : Prop := rtOutsRow.holds Try.pinned (OpenSpec.ofChange rtOutsWrong)

/-- 'runriglaw26.RtOwns': WHATEVER THE INPUT: true; the input reads as it did. -/
def rtOwnsSpec : ChangeSpec := { name := "rtOwns", fn := fun _ => fun
  | [d1, d2, d3] => { results := [.lit (.bool true)], args := [d1, d2, d3] }
  | _ => none }
def rtOwnsRow : OpenClaim := { program := "ytfhbainbmipddaa", sum := "ebd5f2c794c488d8b10d1b04c67c6042003cd6e197b8171735735fba6b3927e9", func := "runrig/runriglaw26.RtOwns", spec := "rtOwns", unfollowed := true, recurses := true, apart := false }
def RtOwnsSaid : Prop := rtOwnsRow.holds Try.pinned (OpenSpec.ofChange rtOwnsSpec)

/-- ITS FALSE NEIGHBOUR: 'it returns false'. Refute it at one input. -/
def rtOwnsWrong : ChangeSpec := { name := "rtOwns", fn := fun _ => fun
  | [d1, d2, d3] => { results := [.lit (.bool false)], args := [d1, d2, d3] }
  | _ => none }
def RtOwnsWrongFalsely : Prop := rtOwnsRow.holds Try.pinned (OpenSpec.ofChange rtOwnsWrong)

/-- 'runriglaw26.RtTakes': WHATEVER THE INPUT: true; the input reads as it did. -/
def rtTakesSpec : ChangeSpec := { name := "rtTakes", fn := fun _ => fun
  | [d1, d2, d3] => { results := [.lit (.bool true)], args := [d1, d2, d3] }
  | _ => none }
def rtTakesRow : OpenClaim := { program := "ytfhbainbmipddaa", sum := "ebd5f2c794c488d8b10d1b04c67c6042003cd6e197b8171735735fba6b3927e9", func := "runrig/runriglaw26.RtTakes", spec := "rtTakes", unfollowed := true, recurses := true, apart := false }
def RtTakesSaid : Prop := rtTakesRow.holds Try.pinned (OpenSpec.ofChange rtTakesSpec)

/-- ITS FALSE NEIGHBOUR: 'it returns false'. Refute it at one input. -/
def rtTakesWrong : ChangeSpec := { name := "rtTakes", fn := fun _ => fun
  | [d1, d2, d3] => { results := [.lit (.bool false)], args := [d1, d2, d3] }
  | _ => none }
def RtTakesWrongFalsely : Prop := rtTakesRow.holds Try.pinned (OpenSpec.ofChange rtTakesWrong)

/-- 'runriglaw26.RtOps': WHATEVER THE INPUT: true; the input reads as it did. -/
def rtOpsSpec : ChangeSpec := { name := "rtOps", fn := fun _ => fun
  | [d1, d2, d3, d4, d5] => { results := [.lit (.bool true)], args := [d1, d2, d3, d4, d5] }
  | _ => none }
def rtOpsRow : OpenClaim := { program := "ytfhbainbmipddaa", sum := "ebd5f2c794c488d8b10d1b04c67c6042003cd6e197b8171735735fba6b3927e9", func := "runrig/runriglaw26.RtOps", spec := "rtOps", unfollowed := true, recurses := true, apart := false }
def RtOpsSaid : Prop := rtOpsRow.holds Try.pinned (OpenSpec.ofChange rtOpsSpec)

/-- ITS FALSE NEIGHBOUR: 'it returns false'. Refute it at one input. -/
def rtOpsWrong : ChangeSpec := { name := "rtOps", fn := fun _ => fun
  | [d1, d2, d3, d4, d5] => { results := [.lit (.bool false)], args := [d1, d2, d3, d4, d5] }
  | _ => none }
def RtOpsWrongFalsely : Prop := rtOpsRow.holds Try.pinned (OpenSpec.ofChange rtOpsWrong)

/-- 'runriglaw26.RtMany': WHATEVER THE INPUT: true; the input reads as it did. -/
def rtManySpec : ChangeSpec := { name := "rtMany", fn := fun _ => fun
  | [d1, d2] => { results := [.lit (.bool true)], args := [d1, d2] }
  | _ => none }
def rtManyRow : OpenClaim := { program := "ytfhbainbmipddaa", sum := "ebd5f2c794c488d8b10d1b04c67c6042003cd6e197b8171735735fba6b3927e9", func := "runrig/runriglaw26.RtMany", spec := "rtMany", unfollowed := true, recurses := true, apart := false }
def RtManySaid : Prop := rtManyRow.holds Try.pinned (OpenSpec.ofChange rtManySpec)

/-- ITS FALSE NEIGHBOUR: 'it returns false'. Refute it at one input. -/
def rtManyWrong : ChangeSpec := { name := "rtMany", fn := fun _ => fun
  | [d1, d2] => { results := [.lit (.bool false)], args := [d1, d2] }
  | _ => none }
def RtManyWrongFalsely : Prop := rtManyRow.holds Try.pinned (OpenSpec.ofChange rtManyWrong)

/-- 'runriglaw26.RtClosed': WHATEVER THE INPUT: true; the input reads as it did. -/
def rtClosedSpec : ChangeSpec := { name := "rtClosed", fn := fun _ => fun
  | [d1, d2] => { results := [.lit (.bool true)], args := [d1, d2] }
  | _ => none }
def rtClosedRow : OpenClaim := { program := "ytfhbainbmipddaa", sum := "ebd5f2c794c488d8b10d1b04c67c6042003cd6e197b8171735735fba6b3927e9", func := "runrig/runriglaw26.RtClosed", spec := "rtClosed", unfollowed := true, recurses := true, apart := false }
def RtClosedSaid : Prop := rtClosedRow.holds Try.pinned (OpenSpec.ofChange rtClosedSpec)

/-- ITS FALSE NEIGHBOUR: 'it returns false'. Refute it at one input. -/
def rtClosedWrong : ChangeSpec := { name := "rtClosed", fn := fun _ => fun
  | [d1, d2] => { results := [.lit (.bool false)], args := [d1, d2] }
  | _ => none }
def RtClosedWrongFalsely : Prop := rtClosedRow.holds Try.pinned (OpenSpec.ofChange rtClosedWrong)

/- THE SECOND FORM. 'bulk': how many values and letters a reading holds, each counted each time it is reached (what is shared counts as often as it is met; a slice's spare places count too). A statement '..UptoSaid' is the law's where the arguments, and the package variables that the reading takes, are together of bulk at most 1048576: NARROWER than '..Said'. Prove '..Said' where nothing that the law and all that it calls make is longer than what came in: it says more and counts as full. Else prove '..UptoSaid'. A law counts once. -/
mutual
def uptoBulk {H : Type} : DataW H → Nat
  | .lit (.string bytes) => bytes.length + 1
  | .lit _ => 1
  | .nil => 1
  | .ptr d => uptoBulk d + 1
  | .slice elems spare => uptoBulkAll elems + uptoBulkAll spare + 1
  | .agg parts => uptoBulkAll parts + 1
  | .iface _ d => uptoBulk d + 1
  | .map entries => uptoBulkEntries entries + 1
  | .held _ => 1
def uptoBulkAll {H : Type} : List (DataW H) → Nat
  | [] => 0
  | d :: r => uptoBulk d + uptoBulkAll r
def uptoBulkEntries {H : Type} : List (Lit × DataW H) → Nat
  | [] => 0
  | x :: r => uptoBulkEntry x + uptoBulkEntries r
def uptoBulkEntry {H : Type} : Lit × DataW H → Nat
  | (.string bytes, d) => bytes.length + uptoBulk d + 1
  | (_, d) => uptoBulk d + 1
 end
def uptoSmall : (H : Type) → List (DataW H) → Bool := fun _ ds => decide (uptoBulkAll ds ≤ 1048576)
def OpenSpec.upto (s : _root_.Go.ChangeSpec) : _root_.Go.OpenSpec := { _root_.Go.OpenSpec.ofChange s with cond := some uptoSmall }

/-- 'runriglaw26.RtRight', WHERE WHAT IT READS IS OF BULK AT MOST 1048576: true; the input reads as it did. -/
def rtRightUptoRow : OpenClaim := { program := "ytfhbainbmipddaa", sum := "ebd5f2c794c488d8b10d1b04c67c6042003cd6e197b8171735735fba6b3927e9", func := "runrig/runriglaw26.RtRight", spec := "rtRight", unfollowed := true, recurses := true, apart := false, narrowed := true }
def RtRightUptoSaid : Prop := rtRightUptoRow.holds Try.pinned (OpenSpec.upto rtRightSpec)

/-- 'runriglaw26.RtOuts', WHERE WHAT IT READS IS OF BULK AT MOST 1048576: true; the input reads as it did. -/
def rtOutsUptoRow : OpenClaim := { program := "ytfhbainbmipddaa", sum := "ebd5f2c794c488d8b10d1b04c67c6042003cd6e197b8171735735fba6b3927e9", func := "runrig/runriglaw26.RtOuts", spec := "rtOuts", unfollowed := true, recurses := true, apart := false, narrowed := true }
def RtOutsUptoSaid : Prop := rtOutsUptoRow.holds Try.pinned (OpenSpec.upto rtOutsSpec)

/-- 'runriglaw26.RtOwns', WHERE WHAT IT READS IS OF BULK AT MOST 1048576: true; the input reads as it did. -/
def rtOwnsUptoRow : OpenClaim := { program := "ytfhbainbmipddaa", sum := "ebd5f2c794c488d8b10d1b04c67c6042003cd6e197b8171735735fba6b3927e9", func := "runrig/runriglaw26.RtOwns", spec := "rtOwns", unfollowed := true, recurses := true, apart := false, narrowed := true }
def RtOwnsUptoSaid : Prop := rtOwnsUptoRow.holds Try.pinned (OpenSpec.upto rtOwnsSpec)

/-- 'runriglaw26.RtTakes', WHERE WHAT IT READS IS OF BULK AT MOST 1048576: true; the input reads as it did. -/
def rtTakesUptoRow : OpenClaim := { program := "ytfhbainbmipddaa", sum := "ebd5f2c794c488d8b10d1b04c67c6042003cd6e197b8171735735fba6b3927e9", func := "runrig/runriglaw26.RtTakes", spec := "rtTakes", unfollowed := true, recurses := true, apart := false, narrowed := true }
def RtTakesUptoSaid : Prop := rtTakesUptoRow.holds Try.pinned (OpenSpec.upto rtTakesSpec)

/-- 'runriglaw26.RtOps', WHERE WHAT IT READS IS OF BULK AT MOST 1048576: true; the input reads as it did. -/
def rtOpsUptoRow : OpenClaim := { program := "ytfhbainbmipddaa", sum := "ebd5f2c794c488d8b10d1b04c67c6042003cd6e197b8171735735fba6b3927e9", func := "runrig/runriglaw26.RtOps", spec := "rtOps", unfollowed := true, recurses := true, apart := false, narrowed := true }
def RtOpsUptoSaid : Prop := rtOpsUptoRow.holds Try.pinned (OpenSpec.upto rtOpsSpec)

/-- 'runriglaw26.RtMany', WHERE WHAT IT READS IS OF BULK AT MOST 1048576: true; the input reads as it did. -/
def rtManyUptoRow : OpenClaim := { program := "ytfhbainbmipddaa", sum := "ebd5f2c794c488d8b10d1b04c67c6042003cd6e197b8171735735fba6b3927e9", func := "runrig/runriglaw26.RtMany", spec := "rtMany", unfollowed := true, recurses := true, apart := false, narrowed := true }
def RtManyUptoSaid : Prop := rtManyUptoRow.holds Try.pinned (OpenSpec.upto rtManySpec)

/-- 'runriglaw26.RtClosed', WHERE WHAT IT READS IS OF BULK AT MOST 1048576: true; the input reads as it did. -/
def rtClosedUptoRow : OpenClaim := { program := "ytfhbainbmipddaa", sum := "ebd5f2c794c488d8b10d1b04c67c6042003cd6e197b8171735735fba6b3927e9", func := "runrig/runriglaw26.RtClosed", spec := "rtClosed", unfollowed := true, recurses := true, apart := false, narrowed := true }
def RtClosedUptoSaid : Prop := rtClosedUptoRow.holds Try.pinned (OpenSpec.upto rtClosedSpec)

end Rows
end Go.Proofs.Ytfhbainbmipddaa
