/- How what comes in reads, for this seat's structs. Written by wip/api.py. -/
import Derived.Test.YtpdehhmnmddjaaaGConv
import Derived.Test.YtpdehhmnmddjaaaApiT
namespace Go.Proofs.Ytpdehhmnmddjaaa
open Go Go.RowKit Go.RR Go.RX Go.GX Go.Api
theorem cv_int : Conv Try.prog 3 Ty.int I64 := conv_int Try.underlying3
theorem cv_byte : Conv Try.prog 5 Ty.byte (fun x => 0 ≤ x ∧ x ≤ 255) := conv_byte Try.underlying5
theorem cv_bool : Conv Try.prog 4 Ty.bool (fun _ => True) := conv_bool Try.underlying4
theorem cv_ints : Conv Try.prog 27 (Ty.slice Ty.int) (fun l => ∀ x ∈ l, I64 x) := conv_slice (et := 3) Try.underlying27 (by kernel_rfl) (by decide) cv_int
theorem cv_intss : Conv Try.prog 22 (Ty.slice (Ty.slice Ty.int)) (fun l => ∀ x ∈ l, (fun l => ∀ x ∈ l, I64 x) x) := conv_slice (et := 27) Try.underlying22 (by kernel_rfl) (by decide) cv_ints
theorem cv_intsss : Conv Try.prog 23 (Ty.slice (Ty.slice (Ty.slice Ty.int))) (fun l => ∀ x ∈ l, (fun l => ∀ x ∈ l, (fun l => ∀ x ∈ l, I64 x) x) x) := conv_slice (et := 22) Try.underlying23 (by kernel_rfl) (by decide) cv_intss
theorem conv_points : Conv Try.prog 25 tyPoints Go.Api.Points.ok := by
  refine conv_co (ok := fun x => (fun l => ∀ x ∈ l, (fun l => ∀ x ∈ l, I64 x) x) x.1 ∧ (fun l => ∀ x ∈ l, (fun l => ∀ x ∈ l, (fun l => ∀ x ∈ l, I64 x) x) x) x.2.1 ∧ True) (fun x => ⟨x.1, x.2.1⟩) (fun x => rfl) (fun x h => ⟨h.1, h.2.1⟩) ?_
  apply conv_struct (l := [_, _]) Try.underlying25 rfl (by kernel_rfl)
  apply convF_cons (ok1 := (fun l => ∀ x ∈ l, (fun l => ∀ x ∈ l, I64 x) x)) (ok2 := fun x : (List (List (List Int))) × Unit => (fun l => ∀ x ∈ l, (fun l => ∀ x ∈ l, (fun l => ∀ x ∈ l, I64 x) x) x) x.1 ∧ True) rfl (by kernel_rfl) cv_intss
  apply convF_cons (ok1 := (fun l => ∀ x ∈ l, (fun l => ∀ x ∈ l, (fun l => ∀ x ∈ l, I64 x) x) x)) (ok2 := fun x : Unit => True) rfl (by kernel_rfl) cv_intsss
  apply convF_nil
end Go.Proofs.Ytpdehhmnmddjaaa
