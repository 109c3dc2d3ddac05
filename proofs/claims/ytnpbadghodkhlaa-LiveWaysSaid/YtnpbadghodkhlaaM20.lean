import Derived.Test.YtnpbadghodkhlaaM10
import Derived.Test.YtnpbadghodkhlaaM12
import Derived.Test.YtnpbadghodkhlaaM19
/- How what comes in reads, for this seat's structs. Written by wip/api.py. -/
namespace Go.Proofs.Ytnpbadghodkhlaa
open Go Go.RowKit Go.RR Go.RX Go.GX Go.Api
theorem cv_int : Conv Try.prog 3 Ty.int I64 := conv_int Try.underlying3
theorem cv_byte : Conv Try.prog 5 Ty.byte (fun x => 0 ≤ x ∧ x ≤ 255) := conv_byte Try.underlying5
theorem cv_bool : Conv Try.prog 4 Ty.bool (fun _ => True) := conv_bool Try.underlying4
theorem cv_ints : Conv Try.prog 33 (Ty.slice Ty.int) (fun l => ∀ x ∈ l, I64 x) := conv_slice (et := 3) Try.underlying33 (by kernel_rfl) (by decide) cv_int
theorem conv_ins : Conv Try.prog 35 tyIns Go.Api.Ins.ok := by
  refine conv_co (ok := fun x => I64 x.1 ∧ I64 x.2.1 ∧ I64 x.2.2.1 ∧ I64 x.2.2.2.1 ∧ I64 x.2.2.2.2.1 ∧ (fun l => ∀ x ∈ l, I64 x) x.2.2.2.2.2.1 ∧ True) (fun x => ⟨x.1, x.2.1, x.2.2.1, x.2.2.2.1, x.2.2.2.2.1, x.2.2.2.2.2.1⟩) (fun x => rfl) (fun x h => ⟨h.1, h.2.1, h.2.2.1, h.2.2.2.1, h.2.2.2.2.1, h.2.2.2.2.2.1⟩) ?_
  apply conv_struct (l := [_, _, _, _, _, _]) Try.underlying35 rfl (by kernel_rfl)
  apply convF_cons (ok1 := I64) (ok2 := fun x : Int × Int × Int × Int × (List Int) × Unit => I64 x.1 ∧ I64 x.2.1 ∧ I64 x.2.2.1 ∧ I64 x.2.2.2.1 ∧ (fun l => ∀ x ∈ l, I64 x) x.2.2.2.2.1 ∧ True) rfl (by kernel_rfl) cv_int
  apply convF_cons (ok1 := I64) (ok2 := fun x : Int × Int × Int × (List Int) × Unit => I64 x.1 ∧ I64 x.2.1 ∧ I64 x.2.2.1 ∧ (fun l => ∀ x ∈ l, I64 x) x.2.2.2.1 ∧ True) rfl (by kernel_rfl) cv_int
  apply convF_cons (ok1 := I64) (ok2 := fun x : Int × Int × (List Int) × Unit => I64 x.1 ∧ I64 x.2.1 ∧ (fun l => ∀ x ∈ l, I64 x) x.2.2.1 ∧ True) rfl (by kernel_rfl) cv_int
  apply convF_cons (ok1 := I64) (ok2 := fun x : Int × (List Int) × Unit => I64 x.1 ∧ (fun l => ∀ x ∈ l, I64 x) x.2.1 ∧ True) rfl (by kernel_rfl) cv_int
  apply convF_cons (ok1 := I64) (ok2 := fun x : (List Int) × Unit => (fun l => ∀ x ∈ l, I64 x) x.1 ∧ True) rfl (by kernel_rfl) cv_int
  apply convF_cons (ok1 := (fun l => ∀ x ∈ l, I64 x)) (ok2 := fun x : Unit => True) rfl (by kernel_rfl) cv_ints
  apply convF_nil
theorem conv_inss : Conv Try.prog 25 (Ty.slice tyIns) (fun l => ∀ x ∈ l, Go.Api.Ins.ok x) := conv_slice (et := 35) Try.underlying25 (by kernel_rfl) (by decide) conv_ins
theorem conv_typ : Conv Try.prog 24 tyTyp Go.Api.Typ.ok := by
  refine conv_co (ok := fun x => I64 x.1 ∧ I64 x.2.1 ∧ I64 x.2.2.1 ∧ True) (fun x => ⟨x.1, x.2.1, x.2.2.1⟩) (fun x => rfl) (fun x h => ⟨h.1, h.2.1, h.2.2.1⟩) ?_
  apply conv_struct (l := [_, _, _]) Try.underlying24 rfl (by kernel_rfl)
  apply convF_cons (ok1 := I64) (ok2 := fun x : Int × Int × Unit => I64 x.1 ∧ I64 x.2.1 ∧ True) rfl (by kernel_rfl) cv_int
  apply convF_cons (ok1 := I64) (ok2 := fun x : Int × Unit => I64 x.1 ∧ True) rfl (by kernel_rfl) cv_int
  apply convF_cons (ok1 := I64) (ok2 := fun x : Unit => True) rfl (by kernel_rfl) cv_int
  apply convF_nil
theorem conv_typs : Conv Try.prog 22 (Ty.slice tyTyp) (fun l => ∀ x ∈ l, Go.Api.Typ.ok x) := conv_slice (et := 24) Try.underlying22 (by kernel_rfl) (by decide) conv_typ
theorem conv_code : Conv Try.prog 27 tyCode Go.Api.Code.ok := by
  refine conv_co (ok := fun x => I64 x.1 ∧ (fun l => ∀ x ∈ l, Go.Api.Typ.ok x) x.2.1 ∧ (fun _ => True) x.2.2.1 ∧ Go.Api.Typ.ok x.2.2.2.1 ∧ (fun l => ∀ x ∈ l, Go.Api.Ins.ok x) x.2.2.2.2.1 ∧ True) (fun x => ⟨x.1, x.2.1, x.2.2.1, x.2.2.2.1, x.2.2.2.2.1⟩) (fun x => rfl) (fun x h => ⟨h.1, h.2.1, h.2.2.2.1, h.2.2.2.2.1⟩) ?_
  apply conv_struct (l := [_, _, _, _, _]) Try.underlying27 rfl (by kernel_rfl)
  apply convF_cons (ok1 := I64) (ok2 := fun x : (List Go.Api.Typ) × Bool × Go.Api.Typ × (List Go.Api.Ins) × Unit => (fun l => ∀ x ∈ l, Go.Api.Typ.ok x) x.1 ∧ (fun _ => True) x.2.1 ∧ Go.Api.Typ.ok x.2.2.1 ∧ (fun l => ∀ x ∈ l, Go.Api.Ins.ok x) x.2.2.2.1 ∧ True) rfl (by kernel_rfl) cv_int
  apply convF_cons (ok1 := (fun l => ∀ x ∈ l, Go.Api.Typ.ok x)) (ok2 := fun x : Bool × Go.Api.Typ × (List Go.Api.Ins) × Unit => (fun _ => True) x.1 ∧ Go.Api.Typ.ok x.2.1 ∧ (fun l => ∀ x ∈ l, Go.Api.Ins.ok x) x.2.2.1 ∧ True) rfl (by kernel_rfl) conv_typs
  apply convF_cons (ok1 := (fun _ => True)) (ok2 := fun x : Go.Api.Typ × (List Go.Api.Ins) × Unit => Go.Api.Typ.ok x.1 ∧ (fun l => ∀ x ∈ l, Go.Api.Ins.ok x) x.2.1 ∧ True) rfl (by kernel_rfl) cv_bool
  apply convF_cons (ok1 := Go.Api.Typ.ok) (ok2 := fun x : (List Go.Api.Ins) × Unit => (fun l => ∀ x ∈ l, Go.Api.Ins.ok x) x.1 ∧ True) rfl (by kernel_rfl) conv_typ
  apply convF_cons (ok1 := (fun l => ∀ x ∈ l, Go.Api.Ins.ok x)) (ok2 := fun x : Unit => True) rfl (by kernel_rfl) conv_inss
  apply convF_nil
theorem cv_intss : Conv Try.prog 29 (Ty.slice (Ty.slice Ty.int)) (fun l => ∀ x ∈ l, (fun l => ∀ x ∈ l, I64 x) x) := conv_slice (et := 33) Try.underlying29 (by kernel_rfl) (by decide) cv_ints
theorem cv_bools : Conv Try.prog 57 (Ty.slice Ty.bool) (fun l => ∀ x ∈ l, (fun _ => True) x) := conv_slice (et := 4) Try.underlying57 (by kernel_rfl) (by decide) cv_bool
end Go.Proofs.Ytnpbadghodkhlaa

/- How codes come in, with how long their lists of arguments may be. -/
namespace Go.Proofs.Ytnpbadghodkhlaa
open Go Go.RowKit Go.RR Go.RX Go.GX Go.Api
theorem convW_mono {P : Program} {t : TypeId} {α : Type} {e : Ty α} {ok ok2 : α → Prop} (h : ConvW P t e ok) (hm : ∀ x, ok x → ok2 x) : ConvW P t e ok2 := fun enc w spare held fuel cs x hx hw => by
  obtain ⟨y, hy, ho⟩ := h enc w spare held fuel cs x hx hw
  exact ⟨y, hy, hm y ho⟩
abbrev ArgL (l : List Int) : Prop := (∀ x ∈ l, I64 x) ∧ l.length ≤ 17592186043904
abbrev InsW (x : Ins) : Prop := Ins.ok x ∧ x.args.length ≤ 17592186043904
abbrev InssW (l : List Ins) : Prop := ∀ x ∈ l, InsW x
abbrev CodeW (c : Go.Api.Code) : Prop := Go.Api.Code.ok c ∧ ∀ x ∈ c.ins, x.args.length ≤ 17592186043904
theorem bytes_int : Try.prog.bytesOf 3 = 8 := by kernel_rfl
theorem cvW_ints : ConvW Try.prog 33 (Ty.slice Ty.int) ArgL := convW_mono (convW_slice (et := 3) Try.underlying33 (by kernel_rfl) (by decide) (convW_of cv_int)) fun x h => ⟨h.1, by have := h.2; rw [bytes_int] at this; unfold reachBytes at this; omega⟩
theorem convW_ins : ConvW Try.prog 35 tyIns InsW := by
  refine convW_co (ok := fun x => I64 x.1 ∧ I64 x.2.1 ∧ I64 x.2.2.1 ∧ I64 x.2.2.2.1 ∧ I64 x.2.2.2.2.1 ∧ ArgL x.2.2.2.2.2.1 ∧ True) (fun x => ⟨x.1, x.2.1, x.2.2.1, x.2.2.2.1, x.2.2.2.2.1, x.2.2.2.2.2.1⟩) (fun x => rfl) (fun x h => ⟨⟨h.1, h.2.1, h.2.2.1, h.2.2.2.1, h.2.2.2.2.1, h.2.2.2.2.2.1.1⟩, h.2.2.2.2.2.1.2⟩) ?_
  apply convW_struct (l := [_, _, _, _, _, _]) Try.underlying35 rfl (by kernel_rfl)
  apply convWF_cons (ok1 := I64) (ok2 := fun x : Int × Int × Int × Int × (List Int) × Unit => I64 x.1 ∧ I64 x.2.1 ∧ I64 x.2.2.1 ∧ I64 x.2.2.2.1 ∧ ArgL x.2.2.2.2.1 ∧ True) rfl (by kernel_rfl) (convW_of cv_int)
  apply convWF_cons (ok1 := I64) (ok2 := fun x : Int × Int × Int × (List Int) × Unit => I64 x.1 ∧ I64 x.2.1 ∧ I64 x.2.2.1 ∧ ArgL x.2.2.2.1 ∧ True) rfl (by kernel_rfl) (convW_of cv_int)
  apply convWF_cons (ok1 := I64) (ok2 := fun x : Int × Int × (List Int) × Unit => I64 x.1 ∧ I64 x.2.1 ∧ ArgL x.2.2.1 ∧ True) rfl (by kernel_rfl) (convW_of cv_int)
  apply convWF_cons (ok1 := I64) (ok2 := fun x : Int × (List Int) × Unit => I64 x.1 ∧ ArgL x.2.1 ∧ True) rfl (by kernel_rfl) (convW_of cv_int)
  apply convWF_cons (ok1 := I64) (ok2 := fun x : (List Int) × Unit => ArgL x.1 ∧ True) rfl (by kernel_rfl) (convW_of cv_int)
  apply convWF_cons (ok1 := ArgL) (ok2 := fun x : Unit => True) rfl (by kernel_rfl) cvW_ints
  apply convWF_nil
theorem convW_inss : ConvW Try.prog 25 (Ty.slice tyIns) InssW := convW_mono (convW_slice (et := 35) Try.underlying25 (by kernel_rfl) (by decide) convW_ins) fun x h => h.1
theorem convW_code : ConvW Try.prog 27 tyCode CodeW := by
  refine convW_co (ok := fun x => I64 x.1 ∧ (fun l => ∀ x ∈ l, Go.Api.Typ.ok x) x.2.1 ∧ (fun _ => True) x.2.2.1 ∧ Go.Api.Typ.ok x.2.2.2.1 ∧ InssW x.2.2.2.2.1 ∧ True) (fun x => ⟨x.1, x.2.1, x.2.2.1, x.2.2.2.1, x.2.2.2.2.1⟩) (fun x => rfl) (fun x h => ⟨⟨h.1, h.2.1, h.2.2.2.1, fun x hx => (h.2.2.2.2.1 x hx).1⟩, fun x hx => (h.2.2.2.2.1 x hx).2⟩) ?_
  apply convW_struct (l := [_, _, _, _, _]) Try.underlying27 rfl (by kernel_rfl)
  apply convWF_cons (ok1 := I64) (ok2 := fun x : (List Go.Api.Typ) × Bool × Go.Api.Typ × (List Go.Api.Ins) × Unit => (fun l => ∀ x ∈ l, Go.Api.Typ.ok x) x.1 ∧ (fun _ => True) x.2.1 ∧ Go.Api.Typ.ok x.2.2.1 ∧ InssW x.2.2.2.1 ∧ True) rfl (by kernel_rfl) (convW_of cv_int)
  apply convWF_cons (ok1 := (fun l => ∀ x ∈ l, Go.Api.Typ.ok x)) (ok2 := fun x : Bool × Go.Api.Typ × (List Go.Api.Ins) × Unit => (fun _ => True) x.1 ∧ Go.Api.Typ.ok x.2.1 ∧ InssW x.2.2.1 ∧ True) rfl (by kernel_rfl) (convW_of conv_typs)
  apply convWF_cons (ok1 := (fun _ => True)) (ok2 := fun x : Go.Api.Typ × (List Go.Api.Ins) × Unit => Go.Api.Typ.ok x.1 ∧ InssW x.2.1 ∧ True) rfl (by kernel_rfl) (convW_of cv_bool)
  apply convWF_cons (ok1 := Go.Api.Typ.ok) (ok2 := fun x : (List Go.Api.Ins) × Unit => InssW x.1 ∧ True) rfl (by kernel_rfl) (convW_of conv_typ)
  apply convWF_cons (ok1 := InssW) (ok2 := fun x : Unit => True) rfl (by kernel_rfl) convW_inss
  apply convWF_nil
end Go.Proofs.Ytnpbadghodkhlaa
