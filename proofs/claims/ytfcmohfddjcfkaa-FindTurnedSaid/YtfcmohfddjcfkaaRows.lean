/-
  No cell of these rows narrows 'for every input' (looked for: loops, veiled, ifaces, maps, wideKeys, modest, calm, conditions, laid).
  DERIVED. THE GIVEN ROWS OF THIS SEAT. 5 by the template 'for every input the law returns true; each argument reads behind the call as it read before'; 0 by the template 'total and deterministic' (their statements: YtfcmohfddjcfkaaTotals.lean).
  GIVEN WITH THE SEED: the statements are not yours to turn. If you find one false, say at which input.
  Laid BY PROGRAM, IN A SANDBOX (cutbox-rows.mjs): the forced cells as the released guide's own fill.sh prints them over the translation 803fff736984cf0a… (all of the seat's roots in one cut). By AI agents, Wed Nov 11 2026. No macro, syntax, notation, axiom, sorry.
-/
import Derived.Test.YtfcmohfddjcfkaaChecked
import GoSem.Claim
import GoSem.ClaimJoined
import GoSem.ClaimMapViews
import Derived.JoinedTies
import Derived.KernelRfl
namespace Go.Proofs.Ytfcmohfddjcfkaa
/- THE CELL 'sum', in the pinned program and in every row, IS THE sha256 OF THE DUMP (.gsa) THAT YtfcmohfddjcfkaaProg.lean LOADS. Nothing in Lean hashes anything: it is a label: what it is worth is what the hold of that sum in a sandbox is worth. -/
noncomputable def Try.pinned : Pinned := { name := "ytfcmohfddjcfkaa", sum := "803fff736984cf0a37705c6fe1d673a40a8770fe4c544ddf969723c73952cb69", checked := Try.checked }
namespace Rows
def none {H : Type} : Left H := { results := [], args := [] }

/-- 'runriglaw18.FindPlays': WHATEVER THE INPUT: true; the input reads as it did. -/
def findPlaysSpec : ChangeSpec := { name := "findPlays", fn := fun _ => fun
  | [d1, d2, d3] => { results := [.lit (.bool true)], args := [d1, d2, d3] }
  | _ => none }
def findPlaysRow : OpenClaim := { program := "ytfcmohfddjcfkaa", sum := "803fff736984cf0a37705c6fe1d673a40a8770fe4c544ddf969723c73952cb69", func := "runrig/runriglaw18.FindPlays", spec := "findPlays", apart := false }
def FindPlaysSaid : Prop := findPlaysRow.holds Try.pinned (OpenSpec.ofChange findPlaysSpec)

/-- ITS FALSE NEIGHBOUR: 'it returns false'. Refute it at one input. -/
def findPlaysWrong : ChangeSpec := { name := "findPlays", fn := fun _ => fun
  | [d1, d2, d3] => { results := [.lit (.bool false)], args := [d1, d2, d3] }
  | _ => none }
def FindPlaysWrongFalsely : Prop := findPlaysRow.holds Try.pinned (OpenSpec.ofChange findPlaysWrong)

/-- 'runriglaw18.FindTurned': WHATEVER THE INPUT: true; the input reads as it did. -/
def findTurnedSpec : ChangeSpec := { name := "findTurned", fn := fun _ => fun
  | [d1, d2, d3] => { results := [.lit (.bool true)], args := [d1, d2, d3] }
  | _ => none }
def findTurnedRow : OpenClaim := { program := "ytfcmohfddjcfkaa", sum := "803fff736984cf0a37705c6fe1d673a40a8770fe4c544ddf969723c73952cb69", func := "runrig/runriglaw18.FindTurned", spec := "findTurned", apart := false }
def FindTurnedSaid : Prop := findTurnedRow.holds Try.pinned (OpenSpec.ofChange findTurnedSpec)

/-- ITS FALSE NEIGHBOUR: 'it returns false'. Refute it at one input. -/
def findTurnedWrong : ChangeSpec := { name := "findTurned", fn := fun _ => fun
  | [d1, d2, d3] => { results := [.lit (.bool false)], args := [d1, d2, d3] }
  | _ => none }
def FindTurnedWrongFalsely : Prop := findTurnedRow.holds Try.pinned (OpenSpec.ofChange findTurnedWrong)

/-- 'runriglaw18.FindNil': WHATEVER THE INPUT: true; the input reads as it did. -/
def findNilSpec : ChangeSpec := { name := "findNil", fn := fun _ => fun
  | [d1, d2, d3] => { results := [.lit (.bool true)], args := [d1, d2, d3] }
  | _ => none }
def findNilRow : OpenClaim := { program := "ytfcmohfddjcfkaa", sum := "803fff736984cf0a37705c6fe1d673a40a8770fe4c544ddf969723c73952cb69", func := "runrig/runriglaw18.FindNil", spec := "findNil", apart := false }
def FindNilSaid : Prop := findNilRow.holds Try.pinned (OpenSpec.ofChange findNilSpec)

/-- ITS FALSE NEIGHBOUR: 'it returns false'. Refute it at one input. -/
def findNilWrong : ChangeSpec := { name := "findNil", fn := fun _ => fun
  | [d1, d2, d3] => { results := [.lit (.bool false)], args := [d1, d2, d3] }
  | _ => none }
def FindNilWrongFalsely : Prop := findNilRow.holds Try.pinned (OpenSpec.ofChange findNilWrong)

/-- 'runriglaw18.FindChain': WHATEVER THE INPUT: true; the input reads as it did. -/
def findChainSpec : ChangeSpec := { name := "findChain", fn := fun _ => fun
  | [d1, d2, d3] => { results := [.lit (.bool true)], args := [d1, d2, d3] }
  | _ => none }
def findChainRow : OpenClaim := { program := "ytfcmohfddjcfkaa", sum := "803fff736984cf0a37705c6fe1d673a40a8770fe4c544ddf969723c73952cb69", func := "runrig/runriglaw18.FindChain", spec := "findChain", apart := false }
def FindChainSaid : Prop := findChainRow.holds Try.pinned (OpenSpec.ofChange findChainSpec)

/-- ITS FALSE NEIGHBOUR: 'it returns false'. Refute it at one input. -/
def findChainWrong : ChangeSpec := { name := "findChain", fn := fun _ => fun
  | [d1, d2, d3] => { results := [.lit (.bool false)], args := [d1, d2, d3] }
  | _ => none }
def FindChainWrongFalsely : Prop := findChainRow.holds Try.pinned (OpenSpec.ofChange findChainWrong)

/-- 'runriglaw18.FindMany': WHATEVER THE INPUT: true; the input reads as it did. -/
def findManySpec : ChangeSpec := { name := "findMany", fn := fun _ => fun
  | [d] => { results := [.lit (.bool true)], args := [d] }
  | _ => none }
def findManyRow : OpenClaim := { program := "ytfcmohfddjcfkaa", sum := "803fff736984cf0a37705c6fe1d673a40a8770fe4c544ddf969723c73952cb69", func := "runrig/runriglaw18.FindMany", spec := "findMany", apart := false }
def FindManySaid : Prop := findManyRow.holds Try.pinned (OpenSpec.ofChange findManySpec)

/-- ITS FALSE NEIGHBOUR: 'it returns false'. Refute it at one input. -/
def findManyWrong : ChangeSpec := { name := "findMany", fn := fun _ => fun
  | [d] => { results := [.lit (.bool false)], args := [d] }
  | _ => none }
def FindManyWrongFalsely : Prop := findManyRow.holds Try.pinned (OpenSpec.ofChange findManyWrong)

/- THE SECOND FORM. 'bulk': how many values and letters a reading holds, each counted each time it is reached (what is shared counts as often as it is met; a slice's spare places count too). A statement '..UptoSaid' is the law's where the arguments, and the package variables that the reading takes, are together of bulk at most 1048576: NARROWER than '..Said'. Prove '..Said' where nothing that the law and all that it calls make is longer than what came in: it says more and counts as full. Else prove '..UptoSaid'. A law counts once. -/
mutual
def uptoBulk {H : Type} : DataW H → Nat
  | .lit (.string bytes) => bytes.length + 1
  | .lit _ => 1
  | .nil => 1
  | .ptr d => uptoBulk d + 1
  | .slice elems spare => uptoBulkAll elems + uptoBulkAll spare + 1
  | .agg parts => uptoBulkAll parts + 1
  | .iface _ d => uptoBulk d + 1
  | .map entries => uptoBulkEntries entries + 1
  | .held _ => 1
def uptoBulkAll {H : Type} : List (DataW H) → Nat
  | [] => 0
  | d :: r => uptoBulk d + uptoBulkAll r
def uptoBulkEntries {H : Type} : List (Lit × DataW H) → Nat
  | [] => 0
  | x :: r => uptoBulkEntry x + uptoBulkEntries r
def uptoBulkEntry {H : Type} : Lit × DataW H → Nat
  | (.string bytes, d) => bytes.length + uptoBulk d + 1
  | (_, d) => uptoBulk d + 1
 end
def uptoSmall : (H : Type) → List (DataW H) → Bool := fun _ ds => decide (uptoBulkAll ds ≤ 1048576)
def OpenSpec.upto (s : _root_.Go.ChangeSpec) : _root_.Go.OpenSpec := { _root_.Go.OpenSpec.ofChange s with cond := some uptoSmall }

/-- 'runriglaw18.FindPlays', WHERE WHAT IT READS IS OF BULK AT MOST 1048576: true; the input reads as it did. -/
def findPlaysUptoRow : OpenClaim := { program := "ytfcmohfddjcfkaa", sum := "803fff736984cf0a37705c6fe1d673a40a8770fe4c544ddf969723c73952cb69", func := "runrig/runriglaw18.FindPlays", spec := "findPlays", apart := false, narrowed := true }
def FindPlaysUptoSaid : Prop := findPlaysUptoRow.holds Try.pinned (OpenSpec.upto findPlaysSpec)

/-- 'runriglaw18.FindTurned', WHERE WHAT IT READS IS OF BULK AT MOST 1048576: true; the input reads as it did. -/
def findTurnedUptoRow : OpenClaim := { program := "ytfcmohfddjcfkaa", sum := "803fff736984cf0a37705c6fe1d673a40a8770fe4c544ddf969723c73952cb69", func := "runrig/runriglaw18.FindTurned", spec := "findTurned", apart := false, narrowed := true }
def FindTurnedUptoSaid : Prop := findTurnedUptoRow.holds Try.pinned (OpenSpec.upto findTurnedSpec)

/-- 'runriglaw18.FindNil', WHERE WHAT IT READS IS OF BULK AT MOST 1048576: true; the input reads as it did. -/
def findNilUptoRow : OpenClaim := { program := "ytfcmohfddjcfkaa", sum := "803fff736984cf0a37705c6fe1d673a40a8770fe4c544ddf969723c73952cb69", func := "runrig/runriglaw18.FindNil", spec := "findNil", apart := false, narrowed := true }
def FindNilUptoSaid : Prop := findNilUptoRow.holds Try.pinned (OpenSpec.upto findNilSpec)

/-- 'runriglaw18.FindChain', WHERE WHAT IT READS IS OF BULK AT MOST 1048576: true; the input reads as it did. -/
def findChainUptoRow : OpenClaim := { program := "ytfcmohfddjcfkaa", sum := "803fff736984cf0a37705c6fe1d673a40a8770fe4c544ddf969723c73952cb69", func := "runrig/runriglaw18.FindChain", spec := "findChain", apart := false, narrowed := true }
def FindChainUptoSaid : Prop := findChainUptoRow.holds Try.pinned (OpenSpec.upto findChainSpec)

/-- 'runriglaw18.FindMany', WHERE WHAT IT READS IS OF BULK AT MOST 1048576: true; the input reads as it did. -/
def findManyUptoRow : OpenClaim := { program := "ytfcmohfddjcfkaa", sum := "803fff736984cf0a37705c6fe1d673a40a8770fe4c544ddf969723c73952cb69", func := "runrig/runriglaw18.FindMany", spec := "findMany", apart := false, narrowed := true }
def FindManyUptoSaid : Prop := findManyUptoRow.holds Try.pinned (OpenSpec.upto findManySpec)

end Rows
end Go.Proofs.Ytfcmohfddjcfkaa
