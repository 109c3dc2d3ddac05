/-
  No cell of these rows narrows 'for every input' (looked for: loops, veiled, ifaces, maps, wideKeys, modest, calm, conditions, laid).
  DERIVED. THE GIVEN ROWS OF THIS SEAT. 5 by the template 'for every input the law returns true; each argument reads behind the call as it read before'; 0 by the template 'total and deterministic' (their statements: YtkfbchefealfoaaTotals.lean).
  GIVEN WITH THE SEED: the statements are not yours to turn. If you find one false, say at which input.
  Laid BY PROGRAM, IN A SANDBOX (cutbox-rows.mjs): the forced cells as the released guide's own fill.sh prints them over the translation b7c8f61ead64f437… (all of the seat's roots in one cut). By AI agents, Wed Nov 11 2026. No macro, syntax, notation, axiom, sorry.
-/
import Derived.Test.YtkfbchefealfoaaChecked
import GoSem.Claim
import GoSem.ClaimJoined
import GoSem.ClaimMapViews
import Derived.JoinedTies
import Derived.KernelRfl
namespace Go.Proofs.Ytkfbchefealfoaa
/- THE CELL 'sum', in the pinned program and in every row, IS THE sha256 OF THE DUMP (.gsa) THAT YtkfbchefealfoaaProg.lean LOADS. Nothing in Lean hashes anything: it is a label: what it is worth is what the hold of that sum in a sandbox is worth. -/
noncomputable def Try.pinned : Pinned := { name := "ytkfbchefealfoaa", sum := "b7c8f61ead64f4375c4a07079c5f9b4510de7fcacd04d730c291fc5371a5ca92", checked := Try.checked }
namespace Rows
def none {H : Type} : Left H := { results := [], args := [] }

/-- 'runriglaw17.CallsEdges': WHATEVER THE INPUT: true; the input reads as it did. -/
def callsEdgesSpec : ChangeSpec := { name := "callsEdges", fn := fun _ => fun
  | [d] => { results := [.lit (.bool true)], args := [d] }
  | _ => none }
def callsEdgesRow : OpenClaim := { program := "ytkfbchefealfoaa", sum := "b7c8f61ead64f4375c4a07079c5f9b4510de7fcacd04d730c291fc5371a5ca92", func := "runrig/runriglaw17.CallsEdges", spec := "callsEdges", unfollowed := true, recurses := true, apart := false }
def CallsEdgesSaid : Prop := callsEdgesRow.holds Try.pinned (OpenSpec.ofChange callsEdgesSpec)

/-- ITS FALSE NEIGHBOUR: 'it returns false'. Refute it at one input. -/
def callsEdgesWrong : ChangeSpec := { name := "callsEdges", fn := fun _ => fun
  | [d] => { results := [.lit (.bool false)], args := [d] }
  | _ => none }
def CallsEdgesWrongFalsely : Prop := callsEdgesRow.holds Try.pinned (OpenSpec.ofChange callsEdgesWrong)

/-- 'runriglaw17.CallsComps': WHATEVER THE INPUT: true; the input reads as it did. -/
def callsCompsSpec : ChangeSpec := { name := "callsComps", fn := fun _ => fun
  | [d] => { results := [.lit (.bool true)], args := [d] }
  | _ => none }
def callsCompsRow : OpenClaim := { program := "ytkfbchefealfoaa", sum := "b7c8f61ead64f4375c4a07079c5f9b4510de7fcacd04d730c291fc5371a5ca92", func := "runrig/runriglaw17.CallsComps", spec := "callsComps", unfollowed := true, recurses := true, apart := false }
def CallsCompsSaid : Prop := callsCompsRow.holds Try.pinned (OpenSpec.ofChange callsCompsSpec)

/-- ITS FALSE NEIGHBOUR: 'it returns false'. Refute it at one input. -/
def callsCompsWrong : ChangeSpec := { name := "callsComps", fn := fun _ => fun
  | [d] => { results := [.lit (.bool false)], args := [d] }
  | _ => none }
def CallsCompsWrongFalsely : Prop := callsCompsRow.holds Try.pinned (OpenSpec.ofChange callsCompsWrong)

/-- 'runriglaw17.CallsOrder': WHATEVER THE INPUT: true; the input reads as it did. -/
def callsOrderSpec : ChangeSpec := { name := "callsOrder", fn := fun _ => fun
  | [d] => { results := [.lit (.bool true)], args := [d] }
  | _ => none }
def callsOrderRow : OpenClaim := { program := "ytkfbchefealfoaa", sum := "b7c8f61ead64f4375c4a07079c5f9b4510de7fcacd04d730c291fc5371a5ca92", func := "runrig/runriglaw17.CallsOrder", spec := "callsOrder", unfollowed := true, recurses := true, apart := false }
def CallsOrderSaid : Prop := callsOrderRow.holds Try.pinned (OpenSpec.ofChange callsOrderSpec)

/-- ITS FALSE NEIGHBOUR: 'it returns false'. Refute it at one input. -/
def callsOrderWrong : ChangeSpec := { name := "callsOrder", fn := fun _ => fun
  | [d] => { results := [.lit (.bool false)], args := [d] }
  | _ => none }
def CallsOrderWrongFalsely : Prop := callsOrderRow.holds Try.pinned (OpenSpec.ofChange callsOrderWrong)

/-- 'runriglaw17.CallsRing': WHATEVER THE INPUT: true; the input reads as it did. -/
def callsRingSpec : ChangeSpec := { name := "callsRing", fn := fun _ => fun
  | [d1, d2] => { results := [.lit (.bool true)], args := [d1, d2] }
  | _ => none }
def callsRingRow : OpenClaim := { program := "ytkfbchefealfoaa", sum := "b7c8f61ead64f4375c4a07079c5f9b4510de7fcacd04d730c291fc5371a5ca92", func := "runrig/runriglaw17.CallsRing", spec := "callsRing", unfollowed := true, recurses := true, apart := false }
def CallsRingSaid : Prop := callsRingRow.holds Try.pinned (OpenSpec.ofChange callsRingSpec)

/-- ITS FALSE NEIGHBOUR: 'it returns false'. Refute it at one input. -/
def callsRingWrong : ChangeSpec := { name := "callsRing", fn := fun _ => fun
  | [d1, d2] => { results := [.lit (.bool false)], args := [d1, d2] }
  | _ => none }
def CallsRingWrongFalsely : Prop := callsRingRow.holds Try.pinned (OpenSpec.ofChange callsRingWrong)

/-- 'runriglaw17.CallsMore': WHATEVER THE INPUT: true; the input reads as it did. -/
def callsMoreSpec : ChangeSpec := { name := "callsMore", fn := fun _ => fun
  | [d1, d2, d3] => { results := [.lit (.bool true)], args := [d1, d2, d3] }
  | _ => none }
def callsMoreRow : OpenClaim := { program := "ytkfbchefealfoaa", sum := "b7c8f61ead64f4375c4a07079c5f9b4510de7fcacd04d730c291fc5371a5ca92", func := "runrig/runriglaw17.CallsMore", spec := "callsMore", unfollowed := true, recurses := true, apart := false }
def CallsMoreSaid : Prop := callsMoreRow.holds Try.pinned (OpenSpec.ofChange callsMoreSpec)

/-- ITS FALSE NEIGHBOUR: 'it returns false'. Refute it at one input. -/
def callsMoreWrong : ChangeSpec := { name := "callsMore", fn := fun _ => fun
  | [d1, d2, d3] => { results := [.lit (.bool false)], args := [d1, d2, d3] }
  | _ => none }
def CallsMoreWrongFalsely : Prop := callsMoreRow.holds Try.pinned (OpenSpec.ofChange callsMoreWrong)

/- THE SECOND FORM. 'bulk': how many values and letters a reading holds, each counted each time it is reached (what is shared counts as often as it is met; a slice's spare places count too). A statement '..UptoSaid' is the law's where the arguments, and the package variables that the reading takes, are together of bulk at most 1048576: NARROWER than '..Said'. Prove '..Said' where nothing that the law and all that it calls make is longer than what came in: it says more and counts as full. Else prove '..UptoSaid'. A law counts once. -/
mutual
def uptoBulk {H : Type} : DataW H → Nat
  | .lit (.string bytes) => bytes.length + 1
  | .lit _ => 1
  | .nil => 1
  | .ptr d => uptoBulk d + 1
  | .slice elems spare => uptoBulkAll elems + uptoBulkAll spare + 1
  | .agg parts => uptoBulkAll parts + 1
  | .iface _ d => uptoBulk d + 1
  | .map entries => uptoBulkEntries entries + 1
  | .held _ => 1
def uptoBulkAll {H : Type} : List (DataW H) → Nat
  | [] => 0
  | d :: r => uptoBulk d + uptoBulkAll r
def uptoBulkEntries {H : Type} : List (Lit × DataW H) → Nat
  | [] => 0
  | x :: r => uptoBulkEntry x + uptoBulkEntries r
def uptoBulkEntry {H : Type} : Lit × DataW H → Nat
  | (.string bytes, d) => bytes.length + uptoBulk d + 1
  | (_, d) => uptoBulk d + 1
 end
def uptoSmall : (H : Type) → List (DataW H) → Bool := fun _ ds => decide (uptoBulkAll ds ≤ 1048576)
def OpenSpec.upto (s : _root_.Go.ChangeSpec) : _root_.Go.OpenSpec := { _root_.Go.OpenSpec.ofChange s with cond := some uptoSmall }

/-- 'runriglaw17.CallsEdges', WHERE WHAT IT READS IS OF BULK AT MOST 1048576: true; the input reads as it did. -/
def callsEdgesUptoRow : OpenClaim := { program := "ytkfbchefealfoaa", sum := "b7c8f61ead64f4375c4a07079c5f9b4510de7fcacd04d730c291fc5371a5ca92", func := "runrig/runriglaw17.CallsEdges", spec := "callsEdges", unfollowed := true, recurses := true, apart := false, narrowed := true }
def CallsEdgesUptoSaid : Prop := callsEdgesUptoRow.holds Try.pinned (OpenSpec.upto callsEdgesSpec)

/-- 'runriglaw17.CallsComps', WHERE WHAT IT READS IS OF BULK AT MOST 1048576: true; the input reads as it did. -/
def callsCompsUptoRow : OpenClaim := { program := "ytkfbchefealfoaa", sum := "b7c8f61ead64f4375c4a07079c5f9b4510de7fcacd04d730c291fc5371a5ca92", func := "runrig/runriglaw17.CallsComps", spec := "callsComps", unfollowed := true, recurses := true, apart := false, narrowed := true }
def CallsCompsUptoSaid : Prop := callsCompsUptoRow.holds Try.pinned (OpenSpec.upto callsCompsSpec)

/-- 'runriglaw17.CallsOrder', WHERE WHAT IT READS IS OF BULK AT MOST 1048576: true; the input reads as it did. -/
def callsOrderUptoRow : OpenClaim := { program := "ytkfbchefealfoaa", sum := "b7c8f61ead64f4375c4a07079c5f9b4510de7fcacd04d730c291fc5371a5ca92", func := "runrig/runriglaw17.CallsOrder", spec := "callsOrder", unfollowed := true, recurses := true, apart := false, narrowed := true }
def CallsOrderUptoSaid : Prop := callsOrderUptoRow.holds Try.pinned (OpenSpec.upto callsOrderSpec)

/-- 'runriglaw17.CallsRing', WHERE WHAT IT READS IS OF BULK AT MOST 1048576: true; the input reads as it did. -/
def callsRingUptoRow : OpenClaim := { program := "ytkfbchefealfoaa", sum := "b7c8f61ead64f4375c4a07079c5f9b4510de7fcacd04d730c291fc5371a5ca92", func := "runrig/runriglaw17.CallsRing", spec := "callsRing", unfollowed := true, recurses := true, apart := false, narrowed := true }
def CallsRingUptoSaid : Prop := callsRingUptoRow.holds Try.pinned (OpenSpec.upto callsRingSpec)

/-- 'runriglaw17.CallsMore', WHERE WHAT IT READS IS OF BULK AT MOST 1048576: true; the input reads as it did. -/
def callsMoreUptoRow : OpenClaim := { program := "ytkfbchefealfoaa", sum := "b7c8f61ead64f4375c4a07079c5f9b4510de7fcacd04d730c291fc5371a5ca92", func := "runrig/runriglaw17.CallsMore", spec := "callsMore", unfollowed := true, recurses := true, apart := false, narrowed := true }
def CallsMoreUptoSaid : Prop := callsMoreUptoRow.holds Try.pinned (OpenSpec.upto callsMoreSpec)

end Rows
end Go.Proofs.Ytkfbchefealfoaa
