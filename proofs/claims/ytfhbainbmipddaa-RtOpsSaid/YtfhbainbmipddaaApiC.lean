/- How what comes in reads, for this seat's structs. Written by wip/api.py. -/
import Derived.Test.YtfhbainbmipddaaGConv
import Derived.Test.YtfhbainbmipddaaApiT
namespace Go.Proofs.Ytfhbainbmipddaa
open Go Go.RowKit Go.RR Go.RX Go.GX Go.Api
theorem cv_int : Conv Try.prog 3 Ty.int I64 := conv_int Try.underlying3
theorem cv_byte : Conv Try.prog 5 Ty.byte (fun x => 0 ≤ x ∧ x ≤ 255) := conv_byte Try.underlying5
theorem cv_bool : Conv Try.prog 4 Ty.bool (fun _ => True) := conv_bool Try.underlying4
theorem cv_ints : Conv Try.prog 23 (Ty.slice Ty.int) (fun l => ∀ x ∈ l, I64 x) := conv_slice (et := 3) Try.underlying23 (by kernel_rfl) (by decide) cv_int
theorem conv_ins : Conv Try.prog 46 tyIns Go.Api.Ins.ok := by
  refine conv_co (ok := fun x => I64 x.1 ∧ I64 x.2.1 ∧ I64 x.2.2.1 ∧ I64 x.2.2.2.1 ∧ I64 x.2.2.2.2.1 ∧ (fun l => ∀ x ∈ l, I64 x) x.2.2.2.2.2.1 ∧ True) (fun x => ⟨x.1, x.2.1, x.2.2.1, x.2.2.2.1, x.2.2.2.2.1, x.2.2.2.2.2.1⟩) (fun x => rfl) (fun x h => ⟨h.1, h.2.1, h.2.2.1, h.2.2.2.1, h.2.2.2.2.1, h.2.2.2.2.2.1⟩) ?_
  apply conv_struct (l := [_, _, _, _, _, _]) Try.underlying46 rfl (by kernel_rfl)
  apply convF_cons (ok1 := I64) (ok2 := fun x : Int × Int × Int × Int × (List Int) × Unit => I64 x.1 ∧ I64 x.2.1 ∧ I64 x.2.2.1 ∧ I64 x.2.2.2.1 ∧ (fun l => ∀ x ∈ l, I64 x) x.2.2.2.2.1 ∧ True) rfl (by kernel_rfl) cv_int
  apply convF_cons (ok1 := I64) (ok2 := fun x : Int × Int × Int × (List Int) × Unit => I64 x.1 ∧ I64 x.2.1 ∧ I64 x.2.2.1 ∧ (fun l => ∀ x ∈ l, I64 x) x.2.2.2.1 ∧ True) rfl (by kernel_rfl) cv_int
  apply convF_cons (ok1 := I64) (ok2 := fun x : Int × Int × (List Int) × Unit => I64 x.1 ∧ I64 x.2.1 ∧ (fun l => ∀ x ∈ l, I64 x) x.2.2.1 ∧ True) rfl (by kernel_rfl) cv_int
  apply convF_cons (ok1 := I64) (ok2 := fun x : Int × (List Int) × Unit => I64 x.1 ∧ (fun l => ∀ x ∈ l, I64 x) x.2.1 ∧ True) rfl (by kernel_rfl) cv_int
  apply convF_cons (ok1 := I64) (ok2 := fun x : (List Int) × Unit => (fun l => ∀ x ∈ l, I64 x) x.1 ∧ True) rfl (by kernel_rfl) cv_int
  apply convF_cons (ok1 := (fun l => ∀ x ∈ l, I64 x)) (ok2 := fun x : Unit => True) rfl (by kernel_rfl) cv_ints
  apply convF_nil
theorem conv_inss : Conv Try.prog 37 (Ty.slice tyIns) (fun l => ∀ x ∈ l, Go.Api.Ins.ok x) := conv_slice (et := 46) Try.underlying37 (by kernel_rfl) (by decide) conv_ins
theorem cv_intss : Conv Try.prog 30 (Ty.slice (Ty.slice Ty.int)) (fun l => ∀ x ∈ l, (fun l => ∀ x ∈ l, I64 x) x) := conv_slice (et := 23) Try.underlying30 (by kernel_rfl) (by decide) cv_ints
theorem conv_layout : Conv Try.prog 44 tyLayout Go.Api.Layout.ok := by
  refine conv_co (ok := fun x => (fun _ => True) x.1 ∧ (fun l => ∀ x ∈ l, I64 x) x.2.1 ∧ True) (fun x => ⟨x.1, x.2.1⟩) (fun x => rfl) (fun x h => h.2.1) ?_
  apply conv_struct (l := [_, _]) Try.underlying44 rfl (by kernel_rfl)
  apply convF_cons (ok1 := (fun _ => True)) (ok2 := fun x : (List Int) × Unit => (fun l => ∀ x ∈ l, I64 x) x.1 ∧ True) rfl (by kernel_rfl) cv_bool
  apply convF_cons (ok1 := (fun l => ∀ x ∈ l, I64 x)) (ok2 := fun x : Unit => True) rfl (by kernel_rfl) cv_ints
  apply convF_nil
theorem conv_layouts : Conv Try.prog 22 (Ty.slice tyLayout) (fun l => ∀ x ∈ l, Go.Api.Layout.ok x) := conv_slice (et := 44) Try.underlying22 (by kernel_rfl) (by decide) conv_layout
theorem conv_unt : Conv Try.prog 39 tyUnt Go.Api.Unt.ok := by
  refine conv_co (ok := fun x => I64 x.1 ∧ (fun l => ∀ x ∈ l, I64 x) x.2.1 ∧ I64 x.2.2.1 ∧ (fun l => ∀ x ∈ l, I64 x) x.2.2.2.1 ∧ (fun l => ∀ x ∈ l, I64 x) x.2.2.2.2.1 ∧ (fun l => ∀ x ∈ l, Go.Api.Ins.ok x) x.2.2.2.2.2.1 ∧ True) (fun x => ⟨x.1, x.2.1, x.2.2.1, x.2.2.2.1, x.2.2.2.2.1, x.2.2.2.2.2.1⟩) (fun x => rfl) (fun x h => ⟨h.1, h.2.1, h.2.2.1, h.2.2.2.1, h.2.2.2.2.1, h.2.2.2.2.2.1⟩) ?_
  apply conv_struct (l := [_, _, _, _, _, _]) Try.underlying39 rfl (by kernel_rfl)
  apply convF_cons (ok1 := I64) (ok2 := fun x : (List Int) × Int × (List Int) × (List Int) × (List Go.Api.Ins) × Unit => (fun l => ∀ x ∈ l, I64 x) x.1 ∧ I64 x.2.1 ∧ (fun l => ∀ x ∈ l, I64 x) x.2.2.1 ∧ (fun l => ∀ x ∈ l, I64 x) x.2.2.2.1 ∧ (fun l => ∀ x ∈ l, Go.Api.Ins.ok x) x.2.2.2.2.1 ∧ True) rfl (by kernel_rfl) cv_int
  apply convF_cons (ok1 := (fun l => ∀ x ∈ l, I64 x)) (ok2 := fun x : Int × (List Int) × (List Int) × (List Go.Api.Ins) × Unit => I64 x.1 ∧ (fun l => ∀ x ∈ l, I64 x) x.2.1 ∧ (fun l => ∀ x ∈ l, I64 x) x.2.2.1 ∧ (fun l => ∀ x ∈ l, Go.Api.Ins.ok x) x.2.2.2.1 ∧ True) rfl (by kernel_rfl) cv_ints
  apply convF_cons (ok1 := I64) (ok2 := fun x : (List Int) × (List Int) × (List Go.Api.Ins) × Unit => (fun l => ∀ x ∈ l, I64 x) x.1 ∧ (fun l => ∀ x ∈ l, I64 x) x.2.1 ∧ (fun l => ∀ x ∈ l, Go.Api.Ins.ok x) x.2.2.1 ∧ True) rfl (by kernel_rfl) cv_int
  apply convF_cons (ok1 := (fun l => ∀ x ∈ l, I64 x)) (ok2 := fun x : (List Int) × (List Go.Api.Ins) × Unit => (fun l => ∀ x ∈ l, I64 x) x.1 ∧ (fun l => ∀ x ∈ l, Go.Api.Ins.ok x) x.2.1 ∧ True) rfl (by kernel_rfl) cv_ints
  apply convF_cons (ok1 := (fun l => ∀ x ∈ l, I64 x)) (ok2 := fun x : (List Go.Api.Ins) × Unit => (fun l => ∀ x ∈ l, Go.Api.Ins.ok x) x.1 ∧ True) rfl (by kernel_rfl) cv_ints
  apply convF_cons (ok1 := (fun l => ∀ x ∈ l, Go.Api.Ins.ok x)) (ok2 := fun x : Unit => True) rfl (by kernel_rfl) conv_inss
  apply convF_nil
theorem conv_unts : Conv Try.prog 24 (Ty.slice tyUnt) (fun l => ∀ x ∈ l, Go.Api.Unt.ok x) := conv_slice (et := 39) Try.underlying24 (by kernel_rfl) (by decide) conv_unt
theorem conv_rtg : Conv Try.prog 26 tyRTg Go.Api.RTg.ok := by
  refine conv_co (ok := fun x => (fun l => ∀ x ∈ l, Go.Api.Layout.ok x) x.1 ∧ (fun l => ∀ x ∈ l, I64 x) x.2.1 ∧ (fun l => ∀ x ∈ l, Go.Api.Unt.ok x) x.2.2.1 ∧ I64 x.2.2.2.1 ∧ True) (fun x => ⟨x.1, x.2.1, x.2.2.1, x.2.2.2.1⟩) (fun x => rfl) (fun x h => ⟨h.1, h.2.1, h.2.2.1, h.2.2.2.1⟩) ?_
  apply conv_struct (l := [_, _, _, _]) Try.underlying26 rfl (by kernel_rfl)
  apply convF_cons (ok1 := (fun l => ∀ x ∈ l, Go.Api.Layout.ok x)) (ok2 := fun x : (List Int) × (List Go.Api.Unt) × Int × Unit => (fun l => ∀ x ∈ l, I64 x) x.1 ∧ (fun l => ∀ x ∈ l, Go.Api.Unt.ok x) x.2.1 ∧ I64 x.2.2.1 ∧ True) rfl (by kernel_rfl) conv_layouts
  apply convF_cons (ok1 := (fun l => ∀ x ∈ l, I64 x)) (ok2 := fun x : (List Go.Api.Unt) × Int × Unit => (fun l => ∀ x ∈ l, Go.Api.Unt.ok x) x.1 ∧ I64 x.2.1 ∧ True) rfl (by kernel_rfl) cv_ints
  apply convF_cons (ok1 := (fun l => ∀ x ∈ l, Go.Api.Unt.ok x)) (ok2 := fun x : Int × Unit => I64 x.1 ∧ True) rfl (by kernel_rfl) conv_unts
  apply convF_cons (ok1 := I64) (ok2 := fun x : Unit => True) rfl (by kernel_rfl) cv_int
  apply convF_nil
theorem cv_bools : Conv Try.prog 64 (Ty.slice Ty.bool) (fun l => ∀ x ∈ l, (fun _ => True) x) := conv_slice (et := 4) Try.underlying64 (by kernel_rfl) (by decide) cv_bool
end Go.Proofs.Ytfhbainbmipddaa
