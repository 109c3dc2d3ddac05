/-
  No cell of these rows narrows 'for every input' (looked for: loops, veiled, ifaces, maps, wideKeys, modest, calm, conditions, laid).
  DERIVED. THE GIVEN ROWS OF THIS SEAT. 5 by the template 'for every input the law returns true; each argument reads behind the call as it read before'; 0 by the template 'total and deterministic' (their statements: YtnpbadghodkhlaaTotals.lean).
  GIVEN WITH THE SEED: the statements are not yours to turn. If you find one false, say at which input.
  Laid BY PROGRAM, IN A SANDBOX (cutbox-rows.mjs): the forced cells as the released guide's own fill.sh prints them over the translation e7006617c9af093d… (all of the seat's roots in one cut). By AI agents, Wed Nov 11 2026. No macro, syntax, notation, axiom, sorry.
-/
import Derived.Test.YtnpbadghodkhlaaChecked
import GoSem.Claim
import GoSem.ClaimJoined
import GoSem.ClaimMapViews
import Derived.JoinedTies
import Derived.KernelRfl
namespace Go.Proofs.Ytnpbadghodkhlaa
/- THE CELL 'sum', in the pinned program and in every row, IS THE sha256 OF THE DUMP (.gsa) THAT YtnpbadghodkhlaaProg.lean LOADS. Nothing in Lean hashes anything: it is a label: what it is worth is what the hold of that sum in a sandbox is worth. -/
noncomputable def Try.pinned : Pinned := { name := "ytnpbadghodkhlaa", sum := "e7006617c9af093d372f853f42091df7834af9f40276ae3e8296c3b2700f6159", checked := Try.checked }
namespace Rows
def none {H : Type} : Left H := { results := [], args := [] }

/-- 'runriglaw16.LiveBefore': WHATEVER THE INPUT: true; the input reads as it did. -/
def liveBeforeSpec : ChangeSpec := { name := "liveBefore", fn := fun _ => fun
  | [d] => { results := [.lit (.bool true)], args := [d] }
  | _ => none }
def liveBeforeRow : OpenClaim := { program := "ytnpbadghodkhlaa", sum := "e7006617c9af093d372f853f42091df7834af9f40276ae3e8296c3b2700f6159", func := "runrig/runriglaw16.LiveBefore", spec := "liveBefore", unfollowed := true, recurses := true, apart := false }
def LiveBeforeSaid : Prop := liveBeforeRow.holds Try.pinned (OpenSpec.ofChange liveBeforeSpec)

/-- ITS FALSE NEIGHBOUR: 'it returns false'. Refute it at one input. -/
def liveBeforeWrong : ChangeSpec := { name := "liveBefore", fn := fun _ => fun
  | [d] => { results := [.lit (.bool false)], args := [d] }
  | _ => none }
def LiveBeforeWrongFalsely : Prop := liveBeforeRow.holds Try.pinned (OpenSpec.ofChange liveBeforeWrong)

/-- 'runriglaw16.LiveUses': WHATEVER THE INPUT: true; the input reads as it did. -/
def liveUsesSpec : ChangeSpec := { name := "liveUses", fn := fun _ => fun
  | [d] => { results := [.lit (.bool true)], args := [d] }
  | _ => none }
def liveUsesRow : OpenClaim := { program := "ytnpbadghodkhlaa", sum := "e7006617c9af093d372f853f42091df7834af9f40276ae3e8296c3b2700f6159", func := "runrig/runriglaw16.LiveUses", spec := "liveUses", unfollowed := true, recurses := true, apart := false }
def LiveUsesSaid : Prop := liveUsesRow.holds Try.pinned (OpenSpec.ofChange liveUsesSpec)

/-- ITS FALSE NEIGHBOUR: 'it returns false'. Refute it at one input. -/
def liveUsesWrong : ChangeSpec := { name := "liveUses", fn := fun _ => fun
  | [d] => { results := [.lit (.bool false)], args := [d] }
  | _ => none }
def LiveUsesWrongFalsely : Prop := liveUsesRow.holds Try.pinned (OpenSpec.ofChange liveUsesWrong)

/-- 'runriglaw16.LiveWays': WHATEVER THE INPUT: true; the input reads as it did. -/
def liveWaysSpec : ChangeSpec := { name := "liveWays", fn := fun _ => fun
  | [d1, d2] => { results := [.lit (.bool true)], args := [d1, d2] }
  | _ => none }
def liveWaysRow : OpenClaim := { program := "ytnpbadghodkhlaa", sum := "e7006617c9af093d372f853f42091df7834af9f40276ae3e8296c3b2700f6159", func := "runrig/runriglaw16.LiveWays", spec := "liveWays", unfollowed := true, recurses := true, apart := false }
def LiveWaysSaid : Prop := liveWaysRow.holds Try.pinned (OpenSpec.ofChange liveWaysSpec)

/-- ITS FALSE NEIGHBOUR: 'it returns false'. Refute it at one input. -/
def liveWaysWrong : ChangeSpec := { name := "liveWays", fn := fun _ => fun
  | [d1, d2] => { results := [.lit (.bool false)], args := [d1, d2] }
  | _ => none }
def LiveWaysWrongFalsely : Prop := liveWaysRow.holds Try.pinned (OpenSpec.ofChange liveWaysWrong)

/-- 'runriglaw16.LiveOps': WHATEVER THE INPUT: true; the input reads as it did. -/
def liveOpsSpec : ChangeSpec := { name := "liveOps", fn := fun _ => fun
  | [d1, d2, d3, d4] => { results := [.lit (.bool true)], args := [d1, d2, d3, d4] }
  | _ => none }
def liveOpsRow : OpenClaim := { program := "ytnpbadghodkhlaa", sum := "e7006617c9af093d372f853f42091df7834af9f40276ae3e8296c3b2700f6159", func := "runrig/runriglaw16.LiveOps", spec := "liveOps", unfollowed := true, recurses := true, apart := false }
def LiveOpsSaid : Prop := liveOpsRow.holds Try.pinned (OpenSpec.ofChange liveOpsSpec)

/-- ITS FALSE NEIGHBOUR: 'it returns false'. Refute it at one input. -/
def liveOpsWrong : ChangeSpec := { name := "liveOps", fn := fun _ => fun
  | [d1, d2, d3, d4] => { results := [.lit (.bool false)], args := [d1, d2, d3, d4] }
  | _ => none }
def LiveOpsWrongFalsely : Prop := liveOpsRow.holds Try.pinned (OpenSpec.ofChange liveOpsWrong)

/-- 'runriglaw16.LiveChain': WHATEVER THE INPUT: true; the input reads as it did. -/
def liveChainSpec : ChangeSpec := { name := "liveChain", fn := fun _ => fun
  | [d] => { results := [.lit (.bool true)], args := [d] }
  | _ => none }
def liveChainRow : OpenClaim := { program := "ytnpbadghodkhlaa", sum := "e7006617c9af093d372f853f42091df7834af9f40276ae3e8296c3b2700f6159", func := "runrig/runriglaw16.LiveChain", spec := "liveChain", unfollowed := true, recurses := true, apart := false }
def LiveChainSaid : Prop := liveChainRow.holds Try.pinned (OpenSpec.ofChange liveChainSpec)

/-- ITS FALSE NEIGHBOUR: 'it returns false'. Refute it at one input. -/
def liveChainWrong : ChangeSpec := { name := "liveChain", fn := fun _ => fun
  | [d] => { results := [.lit (.bool false)], args := [d] }
  | _ => none }
def LiveChainWrongFalsely : Prop := liveChainRow.holds Try.pinned (OpenSpec.ofChange liveChainWrong)

/- THE SECOND FORM. 'bulk': how many values and letters a reading holds, each counted each time it is reached (what is shared counts as often as it is met; a slice's spare places count too). A statement '..UptoSaid' is the law's where the arguments, and the package variables that the reading takes, are together of bulk at most 1048576: NARROWER than '..Said'. Prove '..Said' where nothing that the law and all that it calls make is longer than what came in: it says more and counts as full. Else prove '..UptoSaid'. A law counts once. -/
mutual
def uptoBulk {H : Type} : DataW H → Nat
  | .lit (.string bytes) => bytes.length + 1
  | .lit _ => 1
  | .nil => 1
  | .ptr d => uptoBulk d + 1
  | .slice elems spare => uptoBulkAll elems + uptoBulkAll spare + 1
  | .agg parts => uptoBulkAll parts + 1
  | .iface _ d => uptoBulk d + 1
  | .map entries => uptoBulkEntries entries + 1
  | .held _ => 1
def uptoBulkAll {H : Type} : List (DataW H) → Nat
  | [] => 0
  | d :: r => uptoBulk d + uptoBulkAll r
def uptoBulkEntries {H : Type} : List (Lit × DataW H) → Nat
  | [] => 0
  | x :: r => uptoBulkEntry x + uptoBulkEntries r
def uptoBulkEntry {H : Type} : Lit × DataW H → Nat
  | (.string bytes, d) => bytes.length + uptoBulk d + 1
  | (_, d) => uptoBulk d + 1
 end
def uptoSmall : (H : Type) → List (DataW H) → Bool := fun _ ds => decide (uptoBulkAll ds ≤ 1048576)
def OpenSpec.upto (s : _root_.Go.ChangeSpec) : _root_.Go.OpenSpec := { _root_.Go.OpenSpec.ofChange s with cond := some uptoSmall }

/-- 'runriglaw16.LiveBefore', WHERE WHAT IT READS IS OF BULK AT MOST 1048576: true; the input reads as it did. -/
def liveBeforeUptoRow : OpenClaim := { program := "ytnpbadghodkhlaa", sum := "e7006617c9af093d372f853f42091df7834af9f40276ae3e8296c3b2700f6159", func := "runrig/runriglaw16.LiveBefore", spec := "liveBefore", unfollowed := true, recurses := true, apart := false, narrowed := true }
def LiveBeforeUptoSaid : Prop := liveBeforeUptoRow.holds Try.pinned (OpenSpec.upto liveBeforeSpec)

/-- 'runriglaw16.LiveUses', WHERE WHAT IT READS IS OF BULK AT MOST 1048576: true; the input reads as it did. -/
def liveUsesUptoRow : OpenClaim := { program := "ytnpbadghodkhlaa", sum := "e7006617c9af093d372f853f42091df7834af9f40276ae3e8296c3b2700f6159", func := "runrig/runriglaw16.LiveUses", spec := "liveUses", unfollowed := true, recurses := true, apart := false, narrowed := true }
def LiveUsesUptoSaid : Prop := liveUsesUptoRow.holds Try.pinned (OpenSpec.upto liveUsesSpec)

/-- 'runriglaw16.LiveWays', WHERE WHAT IT READS IS OF BULK AT MOST 1048576: true; the input reads as it did. -/
def liveWaysUptoRow : OpenClaim := { program := "ytnpbadghodkhlaa", sum := "e7006617c9af093d372f853f42091df7834af9f40276ae3e8296c3b2700f6159", func := "runrig/runriglaw16.LiveWays", spec := "liveWays", unfollowed := true, recurses := true, apart := false, narrowed := true }
def LiveWaysUptoSaid : Prop := liveWaysUptoRow.holds Try.pinned (OpenSpec.upto liveWaysSpec)

/-- 'runriglaw16.LiveOps', WHERE WHAT IT READS IS OF BULK AT MOST 1048576: true; the input reads as it did. -/
def liveOpsUptoRow : OpenClaim := { program := "ytnpbadghodkhlaa", sum := "e7006617c9af093d372f853f42091df7834af9f40276ae3e8296c3b2700f6159", func := "runrig/runriglaw16.LiveOps", spec := "liveOps", unfollowed := true, recurses := true, apart := false, narrowed := true }
def LiveOpsUptoSaid : Prop := liveOpsUptoRow.holds Try.pinned (OpenSpec.upto liveOpsSpec)

/-- 'runriglaw16.LiveChain', WHERE WHAT IT READS IS OF BULK AT MOST 1048576: true; the input reads as it did. -/
def liveChainUptoRow : OpenClaim := { program := "ytnpbadghodkhlaa", sum := "e7006617c9af093d372f853f42091df7834af9f40276ae3e8296c3b2700f6159", func := "runrig/runriglaw16.LiveChain", spec := "liveChain", unfollowed := true, recurses := true, apart := false, narrowed := true }
def LiveChainUptoSaid : Prop := liveChainUptoRow.holds Try.pinned (OpenSpec.upto liveChainSpec)

end Rows
end Go.Proofs.Ytnpbadghodkhlaa
