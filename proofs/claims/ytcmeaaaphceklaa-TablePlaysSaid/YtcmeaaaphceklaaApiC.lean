/- How what comes in reads, for this seat's structs. Written by wip/api.py. -/
import Derived.Test.YtcmeaaaphceklaaGConv
import Derived.Test.YtcmeaaaphceklaaApiT
namespace Go.Proofs.Ytcmeaaaphceklaa
open Go Go.RowKit Go.RR Go.RX Go.GX Go.Api
theorem cv_int : Conv Try.prog 3 Ty.int I64 := conv_int Try.underlying3
theorem cv_byte : Conv Try.prog 5 Ty.byte (fun x => 0 ≤ x ∧ x ≤ 255) := conv_byte Try.underlying5
theorem cv_bool : Conv Try.prog 4 Ty.bool (fun _ => True) := conv_bool Try.underlying4
theorem cv_ints : Conv Try.prog 55 (Ty.slice Ty.int) (fun l => ∀ x ∈ l, I64 x) := conv_slice (et := 3) Try.underlying55 (by kernel_rfl) (by decide) cv_int
theorem conv_act29 : Conv Try.prog 43 tyAct29 Go.Api.Act29.ok := by
  refine conv_co (ok := fun x => I64 x.1 ∧ I64 x.2.1 ∧ I64 x.2.2.1 ∧ I64 x.2.2.2.1 ∧ True) (fun x => ⟨x.1, x.2.1, x.2.2.1, x.2.2.2.1⟩) (fun x => rfl) (fun x h => ⟨h.1, h.2.1, h.2.2.1, h.2.2.2.1⟩) ?_
  apply conv_struct (l := [_, _, _, _]) Try.underlying43 rfl (by kernel_rfl)
  apply convF_cons (ok1 := I64) (ok2 := fun x : Int × Int × Int × Unit => I64 x.1 ∧ I64 x.2.1 ∧ I64 x.2.2.1 ∧ True) rfl (by kernel_rfl) cv_int
  apply convF_cons (ok1 := I64) (ok2 := fun x : Int × Int × Unit => I64 x.1 ∧ I64 x.2.1 ∧ True) rfl (by kernel_rfl) cv_int
  apply convF_cons (ok1 := I64) (ok2 := fun x : Int × Unit => I64 x.1 ∧ True) rfl (by kernel_rfl) cv_int
  apply convF_cons (ok1 := I64) (ok2 := fun x : Unit => True) rfl (by kernel_rfl) cv_int
  apply convF_nil
theorem conv_act29s : Conv Try.prog 36 (Ty.slice tyAct29) (fun l => ∀ x ∈ l, Go.Api.Act29.ok x) := conv_slice (et := 43) Try.underlying36 (by kernel_rfl) (by decide) conv_act29
theorem cv_bools : Conv Try.prog 38 (Ty.slice Ty.bool) (fun l => ∀ x ∈ l, (fun _ => True) x) := conv_slice (et := 4) Try.underlying38 (by kernel_rfl) (by decide) cv_bool
end Go.Proofs.Ytcmeaaaphceklaa
