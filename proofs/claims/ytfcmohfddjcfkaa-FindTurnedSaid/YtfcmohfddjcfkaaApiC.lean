/- How what comes in reads, for this seat's structs. Written by wip/api.py. -/
import Derived.Test.YtfcmohfddjcfkaaGConv
import Derived.Test.YtfcmohfddjcfkaaApiT
namespace Go.Proofs.Ytfcmohfddjcfkaa
open Go Go.RowKit Go.RR Go.RX Go.GX Go.Api
theorem cv_int : Conv Try.prog 3 Ty.int I64 := conv_int Try.underlying3
theorem cv_byte : Conv Try.prog 5 Ty.byte (fun x => 0 ≤ x ∧ x ≤ 255) := conv_byte Try.underlying5
theorem cv_bool : Conv Try.prog 4 Ty.bool (fun _ => True) := conv_bool Try.underlying4
theorem cv_ints : Conv Try.prog 36 (Ty.slice Ty.int) (fun l => ∀ x ∈ l, I64 x) := conv_slice (et := 3) Try.underlying36 (by kernel_rfl) (by decide) cv_int
theorem cv_intss : Conv Try.prog 32 (Ty.slice (Ty.slice Ty.int)) (fun l => ∀ x ∈ l, (fun l => ∀ x ∈ l, I64 x) x) := conv_slice (et := 36) Try.underlying32 (by kernel_rfl) (by decide) cv_ints
theorem conv_pair : Conv Try.prog 29 tyPair Go.Api.Pair.ok := by
  refine conv_co (ok := fun x => I64 x.1 ∧ I64 x.2.1 ∧ True) (fun x => ⟨x.1, x.2.1⟩) (fun x => rfl) (fun x h => ⟨h.1, h.2.1⟩) ?_
  apply conv_struct (l := [_, _]) Try.underlying29 rfl (by kernel_rfl)
  apply convF_cons (ok1 := I64) (ok2 := fun x : Int × Unit => I64 x.1 ∧ True) rfl (by kernel_rfl) cv_int
  apply convF_cons (ok1 := I64) (ok2 := fun x : Unit => True) rfl (by kernel_rfl) cv_int
  apply convF_nil
theorem conv_pairs : Conv Try.prog 22 (Ty.slice tyPair) (fun l => ∀ x ∈ l, Go.Api.Pair.ok x) := conv_slice (et := 29) Try.underlying22 (by kernel_rfl) (by decide) conv_pair
end Go.Proofs.Ytfcmohfddjcfkaa
