import Derived.Test.YtnpbadghodkhlaaM8
import Derived.Test.YtnpbadghodkhlaaM9
/- The program's structs in Lean, and how they read. Written by wip/api.py. No program in sight. -/
namespace Go.Api
structure Ins where
  op : Int
  a : Int
  b : Int
  c : Int
  n : Int
  args : List Int
  deriving DecidableEq, Inhabited
structure Typ where
  base : Int
  rc : Int
  dims : Int
  deriving DecidableEq, Inhabited
structure Fld where
  name : ByteArray
  typ : Go.Api.Typ
  deriving DecidableEq, Inhabited
structure Shape where
  name : ByteArray
  fields : List Go.Api.Fld
  deriving DecidableEq, Inhabited
structure Site where
  func : Int
  typ : Go.Api.Typ
  deriving DecidableEq, Inhabited
structure Code where
  params : Int
  vars : List Go.Api.Typ
  has : Bool
  result : Go.Api.Typ
  ins : List Go.Api.Ins
  deriving DecidableEq, Inhabited
structure IR where
  recs : List Go.Api.Shape
  globals : List Go.Api.Typ
  codes : List Go.Api.Code
  sites : List Go.Api.Site
  main : Int
  deriving DecidableEq, Inhabited
structure Con where
  kind : Int
  a : Int
  b : Int
  f : Int
  deriving DecidableEq, Inhabited
structure Points where
  nodes : List (List Int)
  fields : List (List (List Int))
  deriving DecidableEq, Inhabited
structure Classes where
  count : Int
  of : List Int
  nodes : List Int
  fields : List (List Int)
  deriving DecidableEq, Inhabited
structure Layout where
  arr : Bool
  refs : List Int
  deriving DecidableEq, Inhabited
structure Unt where
  params : Int
  vars : List Int
  result : Int
  takes : List Int
  owns : List Int
  ins : List Go.Api.Ins
  deriving DecidableEq, Inhabited
structure RTg where
  classes : List Go.Api.Layout
  globals : List Int
  units : List Go.Api.Unt
  main : Int
  deriving DecidableEq, Inhabited
structure State where
  met : Bool
  live : List Int
  stale : List Int
  deriving DecidableEq, Inhabited
structure Beh where
  end_ : Int
  code : Int
  out : List Int
  steps : Int
  deriving DecidableEq, Inhabited
structure Ran where
  beh : Go.Api.Beh
  made : Int
  gone : Int
  live : Int
  peak : Int
  slack : Int
  most : Int
  deriving DecidableEq, Inhabited
structure Pair where
  a : Int
  b : Int
  deriving DecidableEq, Inhabited
structure Act29 where
  kind : Int
  a : Int
  b : Int
  c : Int
  deriving DecidableEq, Inhabited
structure RtView where
  t : Go.Api.RTg
  u : Go.Api.Unt
  i : Go.Api.Ins
  deriving DecidableEq, Inhabited
structure Region where
  live : Bool
  many : Int
  deriving DecidableEq, Inhabited
end Go.Api
namespace Go.GX
open Go Go.RowKit Go.RR Go.RX Go.Api
/-- What an int may be. -/
abbrev I64 (x : Int) : Prop := -9223372036854775808 ≤ x ∧ x ≤ 9223372036854775807
def _root_.Go.Api.Ins.tup (y : Api.Ins) := (y.op, y.a, y.b, y.c, y.n, y.args, ())
def tyIns : Ty Api.Ins := Ty.co (Ty.pair Ty.int (Ty.pair Ty.int (Ty.pair Ty.int (Ty.pair Ty.int (Ty.pair Ty.int (Ty.pair (Ty.slice Ty.int) Ty.unit)))))) Api.Ins.tup
instance : Sub tyIns 0 Ty.int Api.Ins.op (fun z y => { y with op := z }) := (Sub.co (Sub.fst (Sub.whole _)) (fun _ => rfl) (fun _ _ => rfl))
instance : Sub tyIns 1 Ty.int Api.Ins.a (fun z y => { y with a := z }) := (Sub.co (Sub.snd (Sub.fst (Sub.whole _))) (fun _ => rfl) (fun _ _ => rfl))
instance : Sub tyIns 2 Ty.int Api.Ins.b (fun z y => { y with b := z }) := (Sub.co (Sub.snd (Sub.snd (Sub.fst (Sub.whole _)))) (fun _ => rfl) (fun _ _ => rfl))
instance : Sub tyIns 3 Ty.int Api.Ins.c (fun z y => { y with c := z }) := (Sub.co (Sub.snd (Sub.snd (Sub.snd (Sub.fst (Sub.whole _))))) (fun _ => rfl) (fun _ _ => rfl))
instance : Sub tyIns 4 Ty.int Api.Ins.n (fun z y => { y with n := z }) := (Sub.co (Sub.snd (Sub.snd (Sub.snd (Sub.snd (Sub.fst (Sub.whole _)))))) (fun _ => rfl) (fun _ _ => rfl))
instance : Sub tyIns 5 (Ty.slice Ty.int) Api.Ins.args (fun z y => { y with args := z }) := (Sub.co (Sub.snd (Sub.snd (Sub.snd (Sub.snd (Sub.snd (Sub.fst (Sub.whole _))))))) (fun _ => rfl) (fun _ _ => rfl))
def _root_.Go.Api.Ins.ok (y : Api.Ins) : Prop := I64 y.op ∧ I64 y.a ∧ I64 y.b ∧ I64 y.c ∧ I64 y.n ∧ (∀ x ∈ y.args, I64 x)
def _root_.Go.Api.Typ.tup (y : Api.Typ) := (y.base, y.rc, y.dims, ())
def tyTyp : Ty Api.Typ := Ty.co (Ty.pair Ty.int (Ty.pair Ty.int (Ty.pair Ty.int Ty.unit))) Api.Typ.tup
instance : Sub tyTyp 0 Ty.int Api.Typ.base (fun z y => { y with base := z }) := (Sub.co (Sub.fst (Sub.whole _)) (fun _ => rfl) (fun _ _ => rfl))
instance : Sub tyTyp 1 Ty.int Api.Typ.rc (fun z y => { y with rc := z }) := (Sub.co (Sub.snd (Sub.fst (Sub.whole _))) (fun _ => rfl) (fun _ _ => rfl))
instance : Sub tyTyp 2 Ty.int Api.Typ.dims (fun z y => { y with dims := z }) := (Sub.co (Sub.snd (Sub.snd (Sub.fst (Sub.whole _)))) (fun _ => rfl) (fun _ _ => rfl))
def _root_.Go.Api.Typ.ok (y : Api.Typ) : Prop := I64 y.base ∧ I64 y.rc ∧ I64 y.dims
def _root_.Go.Api.Fld.tup (y : Api.Fld) := (y.name, y.typ, ())
def tyFld : Ty Api.Fld := Ty.co (Ty.pair Ty.string (Ty.pair tyTyp Ty.unit)) Api.Fld.tup
instance : Sub tyFld 0 Ty.string Api.Fld.name (fun z y => { y with name := z }) := (Sub.co (Sub.fst (Sub.whole _)) (fun _ => rfl) (fun _ _ => rfl))
instance : SubS tyFld 1 tyTyp Api.Fld.typ (fun z y => { y with typ := z }) := ⟨(Sub.co (Sub.snd (Sub.fst (Sub.whole _))) (fun _ => rfl) (fun _ _ => rfl))⟩
instance (priority := 50) : Sub tyFld 1 tyTyp Api.Fld.typ (fun z y => { y with typ := z }) := SubS.s
instance : Sub tyFld 1 Ty.int (fun y => y.typ.base) (fun z y => { y with typ := { y.typ with base := z } }) := (Sub.co (Sub.snd (Sub.fst ((Sub.co (Sub.fst (Sub.whole _)) (fun _ => rfl) (fun _ _ => rfl) : Sub tyTyp 0 Ty.int Api.Typ.base (fun z y => { y with base := z }))))) (fun _ => rfl) (fun _ _ => rfl))
instance : Sub tyFld 2 Ty.int (fun y => y.typ.rc) (fun z y => { y with typ := { y.typ with rc := z } }) := (Sub.co (Sub.snd (Sub.fst ((Sub.co (Sub.snd (Sub.fst (Sub.whole _))) (fun _ => rfl) (fun _ _ => rfl) : Sub tyTyp 1 Ty.int Api.Typ.rc (fun z y => { y with rc := z }))))) (fun _ => rfl) (fun _ _ => rfl))
instance : Sub tyFld 3 Ty.int (fun y => y.typ.dims) (fun z y => { y with typ := { y.typ with dims := z } }) := (Sub.co (Sub.snd (Sub.fst ((Sub.co (Sub.snd (Sub.snd (Sub.fst (Sub.whole _)))) (fun _ => rfl) (fun _ _ => rfl) : Sub tyTyp 2 Ty.int Api.Typ.dims (fun z y => { y with dims := z }))))) (fun _ => rfl) (fun _ _ => rfl))
def _root_.Go.Api.Fld.ok (y : Api.Fld) : Prop := Go.Api.Typ.ok y.typ
def _root_.Go.Api.Shape.tup (y : Api.Shape) := (y.name, y.fields, ())
def tyShape : Ty Api.Shape := Ty.co (Ty.pair Ty.string (Ty.pair (Ty.slice tyFld) Ty.unit)) Api.Shape.tup
instance : Sub tyShape 0 Ty.string Api.Shape.name (fun z y => { y with name := z }) := (Sub.co (Sub.fst (Sub.whole _)) (fun _ => rfl) (fun _ _ => rfl))
instance : Sub tyShape 1 (Ty.slice tyFld) Api.Shape.fields (fun z y => { y with fields := z }) := (Sub.co (Sub.snd (Sub.fst (Sub.whole _))) (fun _ => rfl) (fun _ _ => rfl))
def _root_.Go.Api.Shape.ok (y : Api.Shape) : Prop := (∀ x ∈ y.fields, Go.Api.Fld.ok x)
def _root_.Go.Api.Site.tup (y : Api.Site) := (y.func, y.typ, ())
def tySite : Ty Api.Site := Ty.co (Ty.pair Ty.int (Ty.pair tyTyp Ty.unit)) Api.Site.tup
instance : Sub tySite 0 Ty.int Api.Site.func (fun z y => { y with func := z }) := (Sub.co (Sub.fst (Sub.whole _)) (fun _ => rfl) (fun _ _ => rfl))
instance : SubS tySite 1 tyTyp Api.Site.typ (fun z y => { y with typ := z }) := ⟨(Sub.co (Sub.snd (Sub.fst (Sub.whole _))) (fun _ => rfl) (fun _ _ => rfl))⟩
instance (priority := 50) : Sub tySite 1 tyTyp Api.Site.typ (fun z y => { y with typ := z }) := SubS.s
instance : Sub tySite 1 Ty.int (fun y => y.typ.base) (fun z y => { y with typ := { y.typ with base := z } }) := (Sub.co (Sub.snd (Sub.fst ((Sub.co (Sub.fst (Sub.whole _)) (fun _ => rfl) (fun _ _ => rfl) : Sub tyTyp 0 Ty.int Api.Typ.base (fun z y => { y with base := z }))))) (fun _ => rfl) (fun _ _ => rfl))
instance : Sub tySite 2 Ty.int (fun y => y.typ.rc) (fun z y => { y with typ := { y.typ with rc := z } }) := (Sub.co (Sub.snd (Sub.fst ((Sub.co (Sub.snd (Sub.fst (Sub.whole _))) (fun _ => rfl) (fun _ _ => rfl) : Sub tyTyp 1 Ty.int Api.Typ.rc (fun z y => { y with rc := z }))))) (fun _ => rfl) (fun _ _ => rfl))
instance : Sub tySite 3 Ty.int (fun y => y.typ.dims) (fun z y => { y with typ := { y.typ with dims := z } }) := (Sub.co (Sub.snd (Sub.fst ((Sub.co (Sub.snd (Sub.snd (Sub.fst (Sub.whole _)))) (fun _ => rfl) (fun _ _ => rfl) : Sub tyTyp 2 Ty.int Api.Typ.dims (fun z y => { y with dims := z }))))) (fun _ => rfl) (fun _ _ => rfl))
def _root_.Go.Api.Site.ok (y : Api.Site) : Prop := I64 y.func ∧ Go.Api.Typ.ok y.typ
def _root_.Go.Api.Code.tup (y : Api.Code) := (y.params, y.vars, y.has, y.result, y.ins, ())
def tyCode : Ty Api.Code := Ty.co (Ty.pair Ty.int (Ty.pair (Ty.slice tyTyp) (Ty.pair Ty.bool (Ty.pair tyTyp (Ty.pair (Ty.slice tyIns) Ty.unit))))) Api.Code.tup
instance : Sub tyCode 0 Ty.int Api.Code.params (fun z y => { y with params := z }) := (Sub.co (Sub.fst (Sub.whole _)) (fun _ => rfl) (fun _ _ => rfl))
instance : Sub tyCode 1 (Ty.slice tyTyp) Api.Code.vars (fun z y => { y with vars := z }) := (Sub.co (Sub.snd (Sub.fst (Sub.whole _))) (fun _ => rfl) (fun _ _ => rfl))
instance : Sub tyCode 2 Ty.bool Api.Code.has (fun z y => { y with has := z }) := (Sub.co (Sub.snd (Sub.snd (Sub.fst (Sub.whole _)))) (fun _ => rfl) (fun _ _ => rfl))
instance : SubS tyCode 3 tyTyp Api.Code.result (fun z y => { y with result := z }) := ⟨(Sub.co (Sub.snd (Sub.snd (Sub.snd (Sub.fst (Sub.whole _))))) (fun _ => rfl) (fun _ _ => rfl))⟩
instance (priority := 50) : Sub tyCode 3 tyTyp Api.Code.result (fun z y => { y with result := z }) := SubS.s
instance : Sub tyCode 3 Ty.int (fun y => y.result.base) (fun z y => { y with result := { y.result with base := z } }) := (Sub.co (Sub.snd (Sub.snd (Sub.snd (Sub.fst ((Sub.co (Sub.fst (Sub.whole _)) (fun _ => rfl) (fun _ _ => rfl) : Sub tyTyp 0 Ty.int Api.Typ.base (fun z y => { y with base := z }))))))) (fun _ => rfl) (fun _ _ => rfl))
instance : Sub tyCode 4 Ty.int (fun y => y.result.rc) (fun z y => { y with result := { y.result with rc := z } }) := (Sub.co (Sub.snd (Sub.snd (Sub.snd (Sub.fst ((Sub.co (Sub.snd (Sub.fst (Sub.whole _))) (fun _ => rfl) (fun _ _ => rfl) : Sub tyTyp 1 Ty.int Api.Typ.rc (fun z y => { y with rc := z }))))))) (fun _ => rfl) (fun _ _ => rfl))
instance : Sub tyCode 5 Ty.int (fun y => y.result.dims) (fun z y => { y with result := { y.result with dims := z } }) := (Sub.co (Sub.snd (Sub.snd (Sub.snd (Sub.fst ((Sub.co (Sub.snd (Sub.snd (Sub.fst (Sub.whole _)))) (fun _ => rfl) (fun _ _ => rfl) : Sub tyTyp 2 Ty.int Api.Typ.dims (fun z y => { y with dims := z }))))))) (fun _ => rfl) (fun _ _ => rfl))
instance : Sub tyCode 6 (Ty.slice tyIns) Api.Code.ins (fun z y => { y with ins := z }) := (Sub.co (Sub.snd (Sub.snd (Sub.snd (Sub.snd (Sub.fst (Sub.whole _)))))) (fun _ => rfl) (fun _ _ => rfl))
def _root_.Go.Api.Code.ok (y : Api.Code) : Prop := I64 y.params ∧ (∀ x ∈ y.vars, Go.Api.Typ.ok x) ∧ Go.Api.Typ.ok y.result ∧ (∀ x ∈ y.ins, Go.Api.Ins.ok x)
def _root_.Go.Api.IR.tup (y : Api.IR) := (y.recs, y.globals, y.codes, y.sites, y.main, ())
def tyIR : Ty Api.IR := Ty.co (Ty.pair (Ty.slice tyShape) (Ty.pair (Ty.slice tyTyp) (Ty.pair (Ty.slice tyCode) (Ty.pair (Ty.slice tySite) (Ty.pair Ty.int Ty.unit))))) Api.IR.tup
instance : Sub tyIR 0 (Ty.slice tyShape) Api.IR.recs (fun z y => { y with recs := z }) := (Sub.co (Sub.fst (Sub.whole _)) (fun _ => rfl) (fun _ _ => rfl))
instance : Sub tyIR 1 (Ty.slice tyTyp) Api.IR.globals (fun z y => { y with globals := z }) := (Sub.co (Sub.snd (Sub.fst (Sub.whole _))) (fun _ => rfl) (fun _ _ => rfl))
instance : Sub tyIR 2 (Ty.slice tyCode) Api.IR.codes (fun z y => { y with codes := z }) := (Sub.co (Sub.snd (Sub.snd (Sub.fst (Sub.whole _)))) (fun _ => rfl) (fun _ _ => rfl))
instance : Sub tyIR 3 (Ty.slice tySite) Api.IR.sites (fun z y => { y with sites := z }) := (Sub.co (Sub.snd (Sub.snd (Sub.snd (Sub.fst (Sub.whole _))))) (fun _ => rfl) (fun _ _ => rfl))
instance : Sub tyIR 4 Ty.int Api.IR.main (fun z y => { y with main := z }) := (Sub.co (Sub.snd (Sub.snd (Sub.snd (Sub.snd (Sub.fst (Sub.whole _)))))) (fun _ => rfl) (fun _ _ => rfl))
def _root_.Go.Api.IR.ok (y : Api.IR) : Prop := (∀ x ∈ y.recs, Go.Api.Shape.ok x) ∧ (∀ x ∈ y.globals, Go.Api.Typ.ok x) ∧ (∀ x ∈ y.codes, Go.Api.Code.ok x) ∧ (∀ x ∈ y.sites, Go.Api.Site.ok x) ∧ I64 y.main
def _root_.Go.Api.Con.tup (y : Api.Con) := (y.kind, y.a, y.b, y.f, ())
def tyCon : Ty Api.Con := Ty.co (Ty.pair Ty.int (Ty.pair Ty.int (Ty.pair Ty.int (Ty.pair Ty.int Ty.unit)))) Api.Con.tup
instance : Sub tyCon 0 Ty.int Api.Con.kind (fun z y => { y with kind := z }) := (Sub.co (Sub.fst (Sub.whole _)) (fun _ => rfl) (fun _ _ => rfl))
instance : Sub tyCon 1 Ty.int Api.Con.a (fun z y => { y with a := z }) := (Sub.co (Sub.snd (Sub.fst (Sub.whole _))) (fun _ => rfl) (fun _ _ => rfl))
instance : Sub tyCon 2 Ty.int Api.Con.b (fun z y => { y with b := z }) := (Sub.co (Sub.snd (Sub.snd (Sub.fst (Sub.whole _)))) (fun _ => rfl) (fun _ _ => rfl))
instance : Sub tyCon 3 Ty.int Api.Con.f (fun z y => { y with f := z }) := (Sub.co (Sub.snd (Sub.snd (Sub.snd (Sub.fst (Sub.whole _))))) (fun _ => rfl) (fun _ _ => rfl))
def _root_.Go.Api.Con.ok (y : Api.Con) : Prop := I64 y.kind ∧ I64 y.a ∧ I64 y.b ∧ I64 y.f
def _root_.Go.Api.Points.tup (y : Api.Points) := (y.nodes, y.fields, ())
def tyPoints : Ty Api.Points := Ty.co (Ty.pair (Ty.slice (Ty.slice Ty.int)) (Ty.pair (Ty.slice (Ty.slice (Ty.slice Ty.int))) Ty.unit)) Api.Points.tup
instance : Sub tyPoints 0 (Ty.slice (Ty.slice Ty.int)) Api.Points.nodes (fun z y => { y with nodes := z }) := (Sub.co (Sub.fst (Sub.whole _)) (fun _ => rfl) (fun _ _ => rfl))
instance : Sub tyPoints 1 (Ty.slice (Ty.slice (Ty.slice Ty.int))) Api.Points.fields (fun z y => { y with fields := z }) := (Sub.co (Sub.snd (Sub.fst (Sub.whole _))) (fun _ => rfl) (fun _ _ => rfl))
def _root_.Go.Api.Points.ok (y : Api.Points) : Prop := (∀ x ∈ y.nodes, (∀ z ∈ x, I64 z)) ∧ (∀ x ∈ y.fields, (∀ z ∈ x, (∀ z' ∈ z, I64 z')))
def _root_.Go.Api.Classes.tup (y : Api.Classes) := (y.count, y.of, y.nodes, y.fields, ())
def tyClasses : Ty Api.Classes := Ty.co (Ty.pair Ty.int (Ty.pair (Ty.slice Ty.int) (Ty.pair (Ty.slice Ty.int) (Ty.pair (Ty.slice (Ty.slice Ty.int)) Ty.unit)))) Api.Classes.tup
instance : Sub tyClasses 0 Ty.int Api.Classes.count (fun z y => { y with count := z }) := (Sub.co (Sub.fst (Sub.whole _)) (fun _ => rfl) (fun _ _ => rfl))
instance : Sub tyClasses 1 (Ty.slice Ty.int) Api.Classes.of (fun z y => { y with of := z }) := (Sub.co (Sub.snd (Sub.fst (Sub.whole _))) (fun _ => rfl) (fun _ _ => rfl))
instance : Sub tyClasses 2 (Ty.slice Ty.int) Api.Classes.nodes (fun z y => { y with nodes := z }) := (Sub.co (Sub.snd (Sub.snd (Sub.fst (Sub.whole _)))) (fun _ => rfl) (fun _ _ => rfl))
instance : Sub tyClasses 3 (Ty.slice (Ty.slice Ty.int)) Api.Classes.fields (fun z y => { y with fields := z }) := (Sub.co (Sub.snd (Sub.snd (Sub.snd (Sub.fst (Sub.whole _))))) (fun _ => rfl) (fun _ _ => rfl))
def _root_.Go.Api.Classes.ok (y : Api.Classes) : Prop := I64 y.count ∧ (∀ x ∈ y.of, I64 x) ∧ (∀ x ∈ y.nodes, I64 x) ∧ (∀ x ∈ y.fields, (∀ z ∈ x, I64 z))
def _root_.Go.Api.Layout.tup (y : Api.Layout) := (y.arr, y.refs, ())
def tyLayout : Ty Api.Layout := Ty.co (Ty.pair Ty.bool (Ty.pair (Ty.slice Ty.int) Ty.unit)) Api.Layout.tup
instance : Sub tyLayout 0 Ty.bool Api.Layout.arr (fun z y => { y with arr := z }) := (Sub.co (Sub.fst (Sub.whole _)) (fun _ => rfl) (fun _ _ => rfl))
instance : Sub tyLayout 1 (Ty.slice Ty.int) Api.Layout.refs (fun z y => { y with refs := z }) := (Sub.co (Sub.snd (Sub.fst (Sub.whole _))) (fun _ => rfl) (fun _ _ => rfl))
def _root_.Go.Api.Layout.ok (y : Api.Layout) : Prop := (∀ x ∈ y.refs, I64 x)
def _root_.Go.Api.Unt.tup (y : Api.Unt) := (y.params, y.vars, y.result, y.takes, y.owns, y.ins, ())
def tyUnt : Ty Api.Unt := Ty.co (Ty.pair Ty.int (Ty.pair (Ty.slice Ty.int) (Ty.pair Ty.int (Ty.pair (Ty.slice Ty.int) (Ty.pair (Ty.slice Ty.int) (Ty.pair (Ty.slice tyIns) Ty.unit)))))) Api.Unt.tup
instance : Sub tyUnt 0 Ty.int Api.Unt.params (fun z y => { y with params := z }) := (Sub.co (Sub.fst (Sub.whole _)) (fun _ => rfl) (fun _ _ => rfl))
instance : Sub tyUnt 1 (Ty.slice Ty.int) Api.Unt.vars (fun z y => { y with vars := z }) := (Sub.co (Sub.snd (Sub.fst (Sub.whole _))) (fun _ => rfl) (fun _ _ => rfl))
instance : Sub tyUnt 2 Ty.int Api.Unt.result (fun z y => { y with result := z }) := (Sub.co (Sub.snd (Sub.snd (Sub.fst (Sub.whole _)))) (fun _ => rfl) (fun _ _ => rfl))
instance : Sub tyUnt 3 (Ty.slice Ty.int) Api.Unt.takes (fun z y => { y with takes := z }) := (Sub.co (Sub.snd (Sub.snd (Sub.snd (Sub.fst (Sub.whole _))))) (fun _ => rfl) (fun _ _ => rfl))
instance : Sub tyUnt 4 (Ty.slice Ty.int) Api.Unt.owns (fun z y => { y with owns := z }) := (Sub.co (Sub.snd (Sub.snd (Sub.snd (Sub.snd (Sub.fst (Sub.whole _)))))) (fun _ => rfl) (fun _ _ => rfl))
instance : Sub tyUnt 5 (Ty.slice tyIns) Api.Unt.ins (fun z y => { y with ins := z }) := (Sub.co (Sub.snd (Sub.snd (Sub.snd (Sub.snd (Sub.snd (Sub.fst (Sub.whole _))))))) (fun _ => rfl) (fun _ _ => rfl))
def _root_.Go.Api.Unt.ok (y : Api.Unt) : Prop := I64 y.params ∧ (∀ x ∈ y.vars, I64 x) ∧ I64 y.result ∧ (∀ x ∈ y.takes, I64 x) ∧ (∀ x ∈ y.owns, I64 x) ∧ (∀ x ∈ y.ins, Go.Api.Ins.ok x)
def _root_.Go.Api.RTg.tup (y : Api.RTg) := (y.classes, y.globals, y.units, y.main, ())
def tyRTg : Ty Api.RTg := Ty.co (Ty.pair (Ty.slice tyLayout) (Ty.pair (Ty.slice Ty.int) (Ty.pair (Ty.slice tyUnt) (Ty.pair Ty.int Ty.unit)))) Api.RTg.tup
instance : Sub tyRTg 0 (Ty.slice tyLayout) Api.RTg.classes (fun z y => { y with classes := z }) := (Sub.co (Sub.fst (Sub.whole _)) (fun _ => rfl) (fun _ _ => rfl))
instance : Sub tyRTg 1 (Ty.slice Ty.int) Api.RTg.globals (fun z y => { y with globals := z }) := (Sub.co (Sub.snd (Sub.fst (Sub.whole _))) (fun _ => rfl) (fun _ _ => rfl))
instance : Sub tyRTg 2 (Ty.slice tyUnt) Api.RTg.units (fun z y => { y with units := z }) := (Sub.co (Sub.snd (Sub.snd (Sub.fst (Sub.whole _)))) (fun _ => rfl) (fun _ _ => rfl))
instance : Sub tyRTg 3 Ty.int Api.RTg.main (fun z y => { y with main := z }) := (Sub.co (Sub.snd (Sub.snd (Sub.snd (Sub.fst (Sub.whole _))))) (fun _ => rfl) (fun _ _ => rfl))
def _root_.Go.Api.RTg.ok (y : Api.RTg) : Prop := (∀ x ∈ y.classes, Go.Api.Layout.ok x) ∧ (∀ x ∈ y.globals, I64 x) ∧ (∀ x ∈ y.units, Go.Api.Unt.ok x) ∧ I64 y.main
def _root_.Go.Api.State.tup (y : Api.State) := (y.met, y.live, y.stale, ())
def tyState : Ty Api.State := Ty.co (Ty.pair Ty.bool (Ty.pair (Ty.slice Ty.int) (Ty.pair (Ty.slice Ty.int) Ty.unit))) Api.State.tup
instance : Sub tyState 0 Ty.bool Api.State.met (fun z y => { y with met := z }) := (Sub.co (Sub.fst (Sub.whole _)) (fun _ => rfl) (fun _ _ => rfl))
instance : Sub tyState 1 (Ty.slice Ty.int) Api.State.live (fun z y => { y with live := z }) := (Sub.co (Sub.snd (Sub.fst (Sub.whole _))) (fun _ => rfl) (fun _ _ => rfl))
instance : Sub tyState 2 (Ty.slice Ty.int) Api.State.stale (fun z y => { y with stale := z }) := (Sub.co (Sub.snd (Sub.snd (Sub.fst (Sub.whole _)))) (fun _ => rfl) (fun _ _ => rfl))
def _root_.Go.Api.State.ok (y : Api.State) : Prop := (∀ x ∈ y.live, I64 x) ∧ (∀ x ∈ y.stale, I64 x)
def _root_.Go.Api.Beh.tup (y : Api.Beh) := (y.end_, y.code, y.out, y.steps, ())
def tyBeh : Ty Api.Beh := Ty.co (Ty.pair Ty.int (Ty.pair Ty.int (Ty.pair (Ty.slice Ty.int) (Ty.pair Ty.int Ty.unit)))) Api.Beh.tup
instance : Sub tyBeh 0 Ty.int Api.Beh.end_ (fun z y => { y with end_ := z }) := (Sub.co (Sub.fst (Sub.whole _)) (fun _ => rfl) (fun _ _ => rfl))
instance : Sub tyBeh 1 Ty.int Api.Beh.code (fun z y => { y with code := z }) := (Sub.co (Sub.snd (Sub.fst (Sub.whole _))) (fun _ => rfl) (fun _ _ => rfl))
instance : Sub tyBeh 2 (Ty.slice Ty.int) Api.Beh.out (fun z y => { y with out := z }) := (Sub.co (Sub.snd (Sub.snd (Sub.fst (Sub.whole _)))) (fun _ => rfl) (fun _ _ => rfl))
instance : Sub tyBeh 3 Ty.int Api.Beh.steps (fun z y => { y with steps := z }) := (Sub.co (Sub.snd (Sub.snd (Sub.snd (Sub.fst (Sub.whole _))))) (fun _ => rfl) (fun _ _ => rfl))
def _root_.Go.Api.Beh.ok (y : Api.Beh) : Prop := I64 y.end_ ∧ I64 y.code ∧ (∀ x ∈ y.out, I64 x) ∧ I64 y.steps
def _root_.Go.Api.Ran.tup (y : Api.Ran) := (y.beh, y.made, y.gone, y.live, y.peak, y.slack, y.most, ())
def tyRan : Ty Api.Ran := Ty.co (Ty.pair tyBeh (Ty.pair Ty.int (Ty.pair Ty.int (Ty.pair Ty.int (Ty.pair Ty.int (Ty.pair Ty.int (Ty.pair Ty.int Ty.unit))))))) Api.Ran.tup
instance : SubS tyRan 0 tyBeh Api.Ran.beh (fun z y => { y with beh := z }) := ⟨(Sub.co (Sub.fst (Sub.whole _)) (fun _ => rfl) (fun _ _ => rfl))⟩
instance (priority := 50) : Sub tyRan 0 tyBeh Api.Ran.beh (fun z y => { y with beh := z }) := SubS.s
instance : Sub tyRan 0 Ty.int (fun y => y.beh.end_) (fun z y => { y with beh := { y.beh with end_ := z } }) := (Sub.co (Sub.fst ((Sub.co (Sub.fst (Sub.whole _)) (fun _ => rfl) (fun _ _ => rfl) : Sub tyBeh 0 Ty.int Api.Beh.end_ (fun z y => { y with end_ := z })))) (fun _ => rfl) (fun _ _ => rfl))
instance : Sub tyRan 1 Ty.int (fun y => y.beh.code) (fun z y => { y with beh := { y.beh with code := z } }) := (Sub.co (Sub.fst ((Sub.co (Sub.snd (Sub.fst (Sub.whole _))) (fun _ => rfl) (fun _ _ => rfl) : Sub tyBeh 1 Ty.int Api.Beh.code (fun z y => { y with code := z })))) (fun _ => rfl) (fun _ _ => rfl))
instance : Sub tyRan 2 (Ty.slice Ty.int) (fun y => y.beh.out) (fun z y => { y with beh := { y.beh with out := z } }) := (Sub.co (Sub.fst ((Sub.co (Sub.snd (Sub.snd (Sub.fst (Sub.whole _)))) (fun _ => rfl) (fun _ _ => rfl) : Sub tyBeh 2 (Ty.slice Ty.int) Api.Beh.out (fun z y => { y with out := z })))) (fun _ => rfl) (fun _ _ => rfl))
instance : Sub tyRan 3 Ty.int (fun y => y.beh.steps) (fun z y => { y with beh := { y.beh with steps := z } }) := (Sub.co (Sub.fst ((Sub.co (Sub.snd (Sub.snd (Sub.snd (Sub.fst (Sub.whole _))))) (fun _ => rfl) (fun _ _ => rfl) : Sub tyBeh 3 Ty.int Api.Beh.steps (fun z y => { y with steps := z })))) (fun _ => rfl) (fun _ _ => rfl))
instance : Sub tyRan 4 Ty.int Api.Ran.made (fun z y => { y with made := z }) := (Sub.co (Sub.snd (Sub.fst (Sub.whole _))) (fun _ => rfl) (fun _ _ => rfl))
instance : Sub tyRan 5 Ty.int Api.Ran.gone (fun z y => { y with gone := z }) := (Sub.co (Sub.snd (Sub.snd (Sub.fst (Sub.whole _)))) (fun _ => rfl) (fun _ _ => rfl))
instance : Sub tyRan 6 Ty.int Api.Ran.live (fun z y => { y with live := z }) := (Sub.co (Sub.snd (Sub.snd (Sub.snd (Sub.fst (Sub.whole _))))) (fun _ => rfl) (fun _ _ => rfl))
instance : Sub tyRan 7 Ty.int Api.Ran.peak (fun z y => { y with peak := z }) := (Sub.co (Sub.snd (Sub.snd (Sub.snd (Sub.snd (Sub.fst (Sub.whole _)))))) (fun _ => rfl) (fun _ _ => rfl))
instance : Sub tyRan 8 Ty.int Api.Ran.slack (fun z y => { y with slack := z }) := (Sub.co (Sub.snd (Sub.snd (Sub.snd (Sub.snd (Sub.snd (Sub.fst (Sub.whole _))))))) (fun _ => rfl) (fun _ _ => rfl))
instance : Sub tyRan 9 Ty.int Api.Ran.most (fun z y => { y with most := z }) := (Sub.co (Sub.snd (Sub.snd (Sub.snd (Sub.snd (Sub.snd (Sub.snd (Sub.fst (Sub.whole _)))))))) (fun _ => rfl) (fun _ _ => rfl))
def _root_.Go.Api.Ran.ok (y : Api.Ran) : Prop := Go.Api.Beh.ok y.beh ∧ I64 y.made ∧ I64 y.gone ∧ I64 y.live ∧ I64 y.peak ∧ I64 y.slack ∧ I64 y.most
def _root_.Go.Api.Pair.tup (y : Api.Pair) := (y.a, y.b, ())
def tyPair : Ty Api.Pair := Ty.co (Ty.pair Ty.int (Ty.pair Ty.int Ty.unit)) Api.Pair.tup
instance : Sub tyPair 0 Ty.int Api.Pair.a (fun z y => { y with a := z }) := (Sub.co (Sub.fst (Sub.whole _)) (fun _ => rfl) (fun _ _ => rfl))
instance : Sub tyPair 1 Ty.int Api.Pair.b (fun z y => { y with b := z }) := (Sub.co (Sub.snd (Sub.fst (Sub.whole _))) (fun _ => rfl) (fun _ _ => rfl))
def _root_.Go.Api.Pair.ok (y : Api.Pair) : Prop := I64 y.a ∧ I64 y.b
def _root_.Go.Api.Act29.tup (y : Api.Act29) := (y.kind, y.a, y.b, y.c, ())
def tyAct29 : Ty Api.Act29 := Ty.co (Ty.pair Ty.int (Ty.pair Ty.int (Ty.pair Ty.int (Ty.pair Ty.int Ty.unit)))) Api.Act29.tup
instance : Sub tyAct29 0 Ty.int Api.Act29.kind (fun z y => { y with kind := z }) := (Sub.co (Sub.fst (Sub.whole _)) (fun _ => rfl) (fun _ _ => rfl))
instance : Sub tyAct29 1 Ty.int Api.Act29.a (fun z y => { y with a := z }) := (Sub.co (Sub.snd (Sub.fst (Sub.whole _))) (fun _ => rfl) (fun _ _ => rfl))
instance : Sub tyAct29 2 Ty.int Api.Act29.b (fun z y => { y with b := z }) := (Sub.co (Sub.snd (Sub.snd (Sub.fst (Sub.whole _)))) (fun _ => rfl) (fun _ _ => rfl))
instance : Sub tyAct29 3 Ty.int Api.Act29.c (fun z y => { y with c := z }) := (Sub.co (Sub.snd (Sub.snd (Sub.snd (Sub.fst (Sub.whole _))))) (fun _ => rfl) (fun _ _ => rfl))
def _root_.Go.Api.Act29.ok (y : Api.Act29) : Prop := I64 y.kind ∧ I64 y.a ∧ I64 y.b ∧ I64 y.c
def _root_.Go.Api.RtView.tup (y : Api.RtView) := (y.t, y.u, y.i, ())
def tyRtView : Ty Api.RtView := Ty.co (Ty.pair tyRTg (Ty.pair tyUnt (Ty.pair tyIns Ty.unit))) Api.RtView.tup
instance : SubS tyRtView 0 tyRTg Api.RtView.t (fun z y => { y with t := z }) := ⟨(Sub.co (Sub.fst (Sub.whole _)) (fun _ => rfl) (fun _ _ => rfl))⟩
instance (priority := 50) : Sub tyRtView 0 tyRTg Api.RtView.t (fun z y => { y with t := z }) := SubS.s
instance : Sub tyRtView 0 (Ty.slice tyLayout) (fun y => y.t.classes) (fun z y => { y with t := { y.t with classes := z } }) := (Sub.co (Sub.fst ((Sub.co (Sub.fst (Sub.whole _)) (fun _ => rfl) (fun _ _ => rfl) : Sub tyRTg 0 (Ty.slice tyLayout) Api.RTg.classes (fun z y => { y with classes := z })))) (fun _ => rfl) (fun _ _ => rfl))
instance : Sub tyRtView 1 (Ty.slice Ty.int) (fun y => y.t.globals) (fun z y => { y with t := { y.t with globals := z } }) := (Sub.co (Sub.fst ((Sub.co (Sub.snd (Sub.fst (Sub.whole _))) (fun _ => rfl) (fun _ _ => rfl) : Sub tyRTg 1 (Ty.slice Ty.int) Api.RTg.globals (fun z y => { y with globals := z })))) (fun _ => rfl) (fun _ _ => rfl))
instance : Sub tyRtView 2 (Ty.slice tyUnt) (fun y => y.t.units) (fun z y => { y with t := { y.t with units := z } }) := (Sub.co (Sub.fst ((Sub.co (Sub.snd (Sub.snd (Sub.fst (Sub.whole _)))) (fun _ => rfl) (fun _ _ => rfl) : Sub tyRTg 2 (Ty.slice tyUnt) Api.RTg.units (fun z y => { y with units := z })))) (fun _ => rfl) (fun _ _ => rfl))
instance : Sub tyRtView 3 Ty.int (fun y => y.t.main) (fun z y => { y with t := { y.t with main := z } }) := (Sub.co (Sub.fst ((Sub.co (Sub.snd (Sub.snd (Sub.snd (Sub.fst (Sub.whole _))))) (fun _ => rfl) (fun _ _ => rfl) : Sub tyRTg 3 Ty.int Api.RTg.main (fun z y => { y with main := z })))) (fun _ => rfl) (fun _ _ => rfl))
instance : SubS tyRtView 4 tyUnt Api.RtView.u (fun z y => { y with u := z }) := ⟨(Sub.co (Sub.snd (Sub.fst (Sub.whole _))) (fun _ => rfl) (fun _ _ => rfl))⟩
instance (priority := 50) : Sub tyRtView 4 tyUnt Api.RtView.u (fun z y => { y with u := z }) := SubS.s
instance : Sub tyRtView 4 Ty.int (fun y => y.u.params) (fun z y => { y with u := { y.u with params := z } }) := (Sub.co (Sub.snd (Sub.fst ((Sub.co (Sub.fst (Sub.whole _)) (fun _ => rfl) (fun _ _ => rfl) : Sub tyUnt 0 Ty.int Api.Unt.params (fun z y => { y with params := z }))))) (fun _ => rfl) (fun _ _ => rfl))
instance : Sub tyRtView 5 (Ty.slice Ty.int) (fun y => y.u.vars) (fun z y => { y with u := { y.u with vars := z } }) := (Sub.co (Sub.snd (Sub.fst ((Sub.co (Sub.snd (Sub.fst (Sub.whole _))) (fun _ => rfl) (fun _ _ => rfl) : Sub tyUnt 1 (Ty.slice Ty.int) Api.Unt.vars (fun z y => { y with vars := z }))))) (fun _ => rfl) (fun _ _ => rfl))
instance : Sub tyRtView 6 Ty.int (fun y => y.u.result) (fun z y => { y with u := { y.u with result := z } }) := (Sub.co (Sub.snd (Sub.fst ((Sub.co (Sub.snd (Sub.snd (Sub.fst (Sub.whole _)))) (fun _ => rfl) (fun _ _ => rfl) : Sub tyUnt 2 Ty.int Api.Unt.result (fun z y => { y with result := z }))))) (fun _ => rfl) (fun _ _ => rfl))
instance : Sub tyRtView 7 (Ty.slice Ty.int) (fun y => y.u.takes) (fun z y => { y with u := { y.u with takes := z } }) := (Sub.co (Sub.snd (Sub.fst ((Sub.co (Sub.snd (Sub.snd (Sub.snd (Sub.fst (Sub.whole _))))) (fun _ => rfl) (fun _ _ => rfl) : Sub tyUnt 3 (Ty.slice Ty.int) Api.Unt.takes (fun z y => { y with takes := z }))))) (fun _ => rfl) (fun _ _ => rfl))
instance : Sub tyRtView 8 (Ty.slice Ty.int) (fun y => y.u.owns) (fun z y => { y with u := { y.u with owns := z } }) := (Sub.co (Sub.snd (Sub.fst ((Sub.co (Sub.snd (Sub.snd (Sub.snd (Sub.snd (Sub.fst (Sub.whole _)))))) (fun _ => rfl) (fun _ _ => rfl) : Sub tyUnt 4 (Ty.slice Ty.int) Api.Unt.owns (fun z y => { y with owns := z }))))) (fun _ => rfl) (fun _ _ => rfl))
instance : Sub tyRtView 9 (Ty.slice tyIns) (fun y => y.u.ins) (fun z y => { y with u := { y.u with ins := z } }) := (Sub.co (Sub.snd (Sub.fst ((Sub.co (Sub.snd (Sub.snd (Sub.snd (Sub.snd (Sub.snd (Sub.fst (Sub.whole _))))))) (fun _ => rfl) (fun _ _ => rfl) : Sub tyUnt 5 (Ty.slice tyIns) Api.Unt.ins (fun z y => { y with ins := z }))))) (fun _ => rfl) (fun _ _ => rfl))
instance : SubS tyRtView 10 tyIns Api.RtView.i (fun z y => { y with i := z }) := ⟨(Sub.co (Sub.snd (Sub.snd (Sub.fst (Sub.whole _)))) (fun _ => rfl) (fun _ _ => rfl))⟩
instance (priority := 50) : Sub tyRtView 10 tyIns Api.RtView.i (fun z y => { y with i := z }) := SubS.s
instance : Sub tyRtView 10 Ty.int (fun y => y.i.op) (fun z y => { y with i := { y.i with op := z } }) := (Sub.co (Sub.snd (Sub.snd (Sub.fst ((Sub.co (Sub.fst (Sub.whole _)) (fun _ => rfl) (fun _ _ => rfl) : Sub tyIns 0 Ty.int Api.Ins.op (fun z y => { y with op := z })))))) (fun _ => rfl) (fun _ _ => rfl))
instance : Sub tyRtView 11 Ty.int (fun y => y.i.a) (fun z y => { y with i := { y.i with a := z } }) := (Sub.co (Sub.snd (Sub.snd (Sub.fst ((Sub.co (Sub.snd (Sub.fst (Sub.whole _))) (fun _ => rfl) (fun _ _ => rfl) : Sub tyIns 1 Ty.int Api.Ins.a (fun z y => { y with a := z })))))) (fun _ => rfl) (fun _ _ => rfl))
instance : Sub tyRtView 12 Ty.int (fun y => y.i.b) (fun z y => { y with i := { y.i with b := z } }) := (Sub.co (Sub.snd (Sub.snd (Sub.fst ((Sub.co (Sub.snd (Sub.snd (Sub.fst (Sub.whole _)))) (fun _ => rfl) (fun _ _ => rfl) : Sub tyIns 2 Ty.int Api.Ins.b (fun z y => { y with b := z })))))) (fun _ => rfl) (fun _ _ => rfl))
instance : Sub tyRtView 13 Ty.int (fun y => y.i.c) (fun z y => { y with i := { y.i with c := z } }) := (Sub.co (Sub.snd (Sub.snd (Sub.fst ((Sub.co (Sub.snd (Sub.snd (Sub.snd (Sub.fst (Sub.whole _))))) (fun _ => rfl) (fun _ _ => rfl) : Sub tyIns 3 Ty.int Api.Ins.c (fun z y => { y with c := z })))))) (fun _ => rfl) (fun _ _ => rfl))
instance : Sub tyRtView 14 Ty.int (fun y => y.i.n) (fun z y => { y with i := { y.i with n := z } }) := (Sub.co (Sub.snd (Sub.snd (Sub.fst ((Sub.co (Sub.snd (Sub.snd (Sub.snd (Sub.snd (Sub.fst (Sub.whole _)))))) (fun _ => rfl) (fun _ _ => rfl) : Sub tyIns 4 Ty.int Api.Ins.n (fun z y => { y with n := z })))))) (fun _ => rfl) (fun _ _ => rfl))
instance : Sub tyRtView 15 (Ty.slice Ty.int) (fun y => y.i.args) (fun z y => { y with i := { y.i with args := z } }) := (Sub.co (Sub.snd (Sub.snd (Sub.fst ((Sub.co (Sub.snd (Sub.snd (Sub.snd (Sub.snd (Sub.snd (Sub.fst (Sub.whole _))))))) (fun _ => rfl) (fun _ _ => rfl) : Sub tyIns 5 (Ty.slice Ty.int) Api.Ins.args (fun z y => { y with args := z })))))) (fun _ => rfl) (fun _ _ => rfl))
def _root_.Go.Api.RtView.ok (y : Api.RtView) : Prop := Go.Api.RTg.ok y.t ∧ Go.Api.Unt.ok y.u ∧ Go.Api.Ins.ok y.i
def _root_.Go.Api.Region.tup (y : Api.Region) := (y.live, y.many, ())
def tyRegion : Ty Api.Region := Ty.co (Ty.pair Ty.bool (Ty.pair Ty.int Ty.unit)) Api.Region.tup
instance : Sub tyRegion 0 Ty.bool Api.Region.live (fun z y => { y with live := z }) := (Sub.co (Sub.fst (Sub.whole _)) (fun _ => rfl) (fun _ _ => rfl))
instance : Sub tyRegion 1 Ty.int Api.Region.many (fun z y => { y with many := z }) := (Sub.co (Sub.snd (Sub.fst (Sub.whole _))) (fun _ => rfl) (fun _ _ => rfl))
def _root_.Go.Api.Region.ok (y : Api.Region) : Prop := I64 y.many
end Go.GX

/- The structs' numbers in this seat: zero values, built structs. Written by wip/api.py. -/
namespace Go.Proofs.Ytnpbadghodkhlaa
open Go Go.RowKit Go.RR Go.RX Go.GX Go.Api
instance : UTy Try.prog 3 Ty.int 0 (.int .i64 0) := ⟨Try.zeroValue3, fun _ _ => num_rd⟩
instance : UTy Try.prog 4 Ty.bool false (.bool false) := ⟨Try.zeroValue4, fun _ _ => bool_rd⟩
instance : UTy Try.prog 5 Ty.byte 0 (.int .u8 0) := ⟨Try.zeroValue5, fun _ _ => num_rd⟩
instance : UTy Try.prog 25 (Ty.slice tyIns) [] (.slice none 0 0) := ⟨Try.zeroValue25, fun _ _ => nils_rd⟩
instance : UTy Try.prog 22 (Ty.slice tyTyp) [] (.slice none 0 0) := ⟨Try.zeroValue22, fun _ _ => nils_rd⟩
instance : UTy Try.prog 29 (Ty.slice (Ty.slice Ty.int)) [] (.slice none 0 0) := ⟨Try.zeroValue29, fun _ _ => nils_rd⟩
instance : UTy Try.prog 57 (Ty.slice Ty.bool) [] (.slice none 0 0) := ⟨Try.zeroValue57, fun _ _ => nils_rd⟩
instance : UTy Try.prog 33 (Ty.slice Ty.int) [] (.slice none 0 0) := ⟨Try.zeroValue33, fun _ _ => nils_rd⟩
instance : UTy Try.prog 35 tyIns ⟨0, 0, 0, 0, 0, []⟩ (.agg #[.int .i64 0, .int .i64 0, .int .i64 0, .int .i64 0, .int .i64 0, .slice none 0 0]) := ⟨Try.zeroValue35, fun _ _ => (co_rd (pair_rd (c1 := [_]) rfl num_rd (pair_rd (c1 := [_]) rfl num_rd (pair_rd (c1 := [_]) rfl num_rd (pair_rd (c1 := [_]) rfl num_rd (pair_rd (c1 := [_]) rfl num_rd (pair_rd (c1 := [_]) rfl nils_rd unit_rd)))))))⟩
instance : UTy Try.prog 24 tyTyp ⟨0, 0, 0⟩ (.agg #[.int .i64 0, .int .i64 0, .int .i64 0]) := ⟨Try.zeroValue24, fun _ _ => (co_rd (pair_rd (c1 := [_]) rfl num_rd (pair_rd (c1 := [_]) rfl num_rd (pair_rd (c1 := [_]) rfl num_rd unit_rd))))⟩
instance : UTy Try.prog 27 tyCode ⟨0, [], false, ⟨0, 0, 0⟩, []⟩ (.agg #[.int .i64 0, .slice none 0 0, .bool false, .int .i64 0, .int .i64 0, .int .i64 0, .slice none 0 0]) := ⟨Try.zeroValue27, fun _ _ => (co_rd (pair_rd (c1 := [_]) rfl num_rd (pair_rd (c1 := [_]) rfl nils_rd (pair_rd (c1 := [_]) rfl bool_rd (pair_rd (c1 := [_, _, _]) rfl (co_rd (pair_rd (c1 := [_]) rfl num_rd (pair_rd (c1 := [_]) rfl num_rd (pair_rd (c1 := [_]) rfl num_rd unit_rd)))) (pair_rd (c1 := [_]) rfl nils_rd unit_rd))))))⟩
instance {ps : List Pf} {v_op v_a v_b v_c v_n v_args : Value} {x_op : Int} {x_a : Int} {x_b : Int} {x_c : Int} {x_n : Int} {x_args : List Int} [OneV v_op] [OneV v_a] [OneV v_b] [OneV v_c] [OneV v_n] [OneV v_args] [h_op : Rds ps v_op Ty.int x_op] [h_a : Rds ps v_a Ty.int x_a] [h_b : Rds ps v_b Ty.int x_b] [h_c : Rds ps v_c Ty.int x_c] [h_n : Rds ps v_n Ty.int x_n] [h_args : Rds ps v_args (Ty.slice Ty.int) x_args] : Rds ps (.agg #[v_op, v_a, v_b, v_c, v_n, v_args]) tyIns ⟨x_op, x_a, x_b, x_c, x_n, x_args⟩ := ⟨.of fun F w h => co_rd (pair_rd (c1 := [_]) rfl (rdo (h_op.r.as F w h)) (pair_rd (c1 := [_]) rfl (rdo (h_a.r.as F w h)) (pair_rd (c1 := [_]) rfl (rdo (h_b.r.as F w h)) (pair_rd (c1 := [_]) rfl (rdo (h_c.r.as F w h)) (pair_rd (c1 := [_]) rfl (rdo (h_n.r.as F w h)) (pair_rd (c1 := [_]) rfl (rdo (h_args.r.as F w h)) unit_rd))))))⟩
instance {ps : List Pf} {v_base v_rc v_dims : Value} {x_base : Int} {x_rc : Int} {x_dims : Int} [OneV v_base] [OneV v_rc] [OneV v_dims] [h_base : Rds ps v_base Ty.int x_base] [h_rc : Rds ps v_rc Ty.int x_rc] [h_dims : Rds ps v_dims Ty.int x_dims] : Rds ps (.agg #[v_base, v_rc, v_dims]) tyTyp ⟨x_base, x_rc, x_dims⟩ := ⟨.of fun F w h => co_rd (pair_rd (c1 := [_]) rfl (rdo (h_base.r.as F w h)) (pair_rd (c1 := [_]) rfl (rdo (h_rc.r.as F w h)) (pair_rd (c1 := [_]) rfl (rdo (h_dims.r.as F w h)) unit_rd)))⟩
instance {ps : List Pf} {v_func v_typ_base v_typ_rc v_typ_dims : Value} {x_func : Int} {x_typ_base : Int} {x_typ_rc : Int} {x_typ_dims : Int} [OneV v_func] [OneV v_typ_base] [OneV v_typ_rc] [OneV v_typ_dims] [h_func : Rds ps v_func Ty.int x_func] [h_typ_base : Rds ps v_typ_base Ty.int x_typ_base] [h_typ_rc : Rds ps v_typ_rc Ty.int x_typ_rc] [h_typ_dims : Rds ps v_typ_dims Ty.int x_typ_dims] : Rds ps (.agg #[v_func, v_typ_base, v_typ_rc, v_typ_dims]) tySite ⟨x_func, ⟨x_typ_base, x_typ_rc, x_typ_dims⟩⟩ := ⟨.of fun F w h => co_rd (pair_rd (c1 := [_]) rfl (rdo (h_func.r.as F w h)) (pair_rd (c1 := [_, _, _]) rfl (co_rd (pair_rd (c1 := [_]) rfl (rdo (h_typ_base.r.as F w h)) (pair_rd (c1 := [_]) rfl (rdo (h_typ_rc.r.as F w h)) (pair_rd (c1 := [_]) rfl (rdo (h_typ_dims.r.as F w h)) unit_rd)))) unit_rd))⟩
instance {ps : List Pf} {v_params v_vars v_has v_result_base v_result_rc v_result_dims v_ins : Value} {x_params : Int} {x_vars : List Go.Api.Typ} {x_has : Bool} {x_result_base : Int} {x_result_rc : Int} {x_result_dims : Int} {x_ins : List Go.Api.Ins} [OneV v_params] [OneV v_vars] [OneV v_has] [OneV v_result_base] [OneV v_result_rc] [OneV v_result_dims] [OneV v_ins] [h_params : Rds ps v_params Ty.int x_params] [h_vars : Rds ps v_vars (Ty.slice tyTyp) x_vars] [h_has : Rds ps v_has Ty.bool x_has] [h_result_base : Rds ps v_result_base Ty.int x_result_base] [h_result_rc : Rds ps v_result_rc Ty.int x_result_rc] [h_result_dims : Rds ps v_result_dims Ty.int x_result_dims] [h_ins : Rds ps v_ins (Ty.slice tyIns) x_ins] : Rds ps (.agg #[v_params, v_vars, v_has, v_result_base, v_result_rc, v_result_dims, v_ins]) tyCode ⟨x_params, x_vars, x_has, ⟨x_result_base, x_result_rc, x_result_dims⟩, x_ins⟩ := ⟨.of fun F w h => co_rd (pair_rd (c1 := [_]) rfl (rdo (h_params.r.as F w h)) (pair_rd (c1 := [_]) rfl (rdo (h_vars.r.as F w h)) (pair_rd (c1 := [_]) rfl (rdo (h_has.r.as F w h)) (pair_rd (c1 := [_, _, _]) rfl (co_rd (pair_rd (c1 := [_]) rfl (rdo (h_result_base.r.as F w h)) (pair_rd (c1 := [_]) rfl (rdo (h_result_rc.r.as F w h)) (pair_rd (c1 := [_]) rfl (rdo (h_result_dims.r.as F w h)) unit_rd)))) (pair_rd (c1 := [_]) rfl (rdo (h_ins.r.as F w h)) unit_rd)))))⟩
instance {ps : List Pf} {v_kind v_a v_b v_f : Value} {x_kind : Int} {x_a : Int} {x_b : Int} {x_f : Int} [OneV v_kind] [OneV v_a] [OneV v_b] [OneV v_f] [h_kind : Rds ps v_kind Ty.int x_kind] [h_a : Rds ps v_a Ty.int x_a] [h_b : Rds ps v_b Ty.int x_b] [h_f : Rds ps v_f Ty.int x_f] : Rds ps (.agg #[v_kind, v_a, v_b, v_f]) tyCon ⟨x_kind, x_a, x_b, x_f⟩ := ⟨.of fun F w h => co_rd (pair_rd (c1 := [_]) rfl (rdo (h_kind.r.as F w h)) (pair_rd (c1 := [_]) rfl (rdo (h_a.r.as F w h)) (pair_rd (c1 := [_]) rfl (rdo (h_b.r.as F w h)) (pair_rd (c1 := [_]) rfl (rdo (h_f.r.as F w h)) unit_rd))))⟩
instance {ps : List Pf} {v_nodes v_fields : Value} {x_nodes : List (List Int)} {x_fields : List (List (List Int))} [OneV v_nodes] [OneV v_fields] [h_nodes : Rds ps v_nodes (Ty.slice (Ty.slice Ty.int)) x_nodes] [h_fields : Rds ps v_fields (Ty.slice (Ty.slice (Ty.slice Ty.int))) x_fields] : Rds ps (.agg #[v_nodes, v_fields]) tyPoints ⟨x_nodes, x_fields⟩ := ⟨.of fun F w h => co_rd (pair_rd (c1 := [_]) rfl (rdo (h_nodes.r.as F w h)) (pair_rd (c1 := [_]) rfl (rdo (h_fields.r.as F w h)) unit_rd))⟩
instance {ps : List Pf} {v_count v_of v_nodes v_fields : Value} {x_count : Int} {x_of : List Int} {x_nodes : List Int} {x_fields : List (List Int)} [OneV v_count] [OneV v_of] [OneV v_nodes] [OneV v_fields] [h_count : Rds ps v_count Ty.int x_count] [h_of : Rds ps v_of (Ty.slice Ty.int) x_of] [h_nodes : Rds ps v_nodes (Ty.slice Ty.int) x_nodes] [h_fields : Rds ps v_fields (Ty.slice (Ty.slice Ty.int)) x_fields] : Rds ps (.agg #[v_count, v_of, v_nodes, v_fields]) tyClasses ⟨x_count, x_of, x_nodes, x_fields⟩ := ⟨.of fun F w h => co_rd (pair_rd (c1 := [_]) rfl (rdo (h_count.r.as F w h)) (pair_rd (c1 := [_]) rfl (rdo (h_of.r.as F w h)) (pair_rd (c1 := [_]) rfl (rdo (h_nodes.r.as F w h)) (pair_rd (c1 := [_]) rfl (rdo (h_fields.r.as F w h)) unit_rd))))⟩
instance {ps : List Pf} {v_arr v_refs : Value} {x_arr : Bool} {x_refs : List Int} [OneV v_arr] [OneV v_refs] [h_arr : Rds ps v_arr Ty.bool x_arr] [h_refs : Rds ps v_refs (Ty.slice Ty.int) x_refs] : Rds ps (.agg #[v_arr, v_refs]) tyLayout ⟨x_arr, x_refs⟩ := ⟨.of fun F w h => co_rd (pair_rd (c1 := [_]) rfl (rdo (h_arr.r.as F w h)) (pair_rd (c1 := [_]) rfl (rdo (h_refs.r.as F w h)) unit_rd))⟩
instance {ps : List Pf} {v_params v_vars v_result v_takes v_owns v_ins : Value} {x_params : Int} {x_vars : List Int} {x_result : Int} {x_takes : List Int} {x_owns : List Int} {x_ins : List Go.Api.Ins} [OneV v_params] [OneV v_vars] [OneV v_result] [OneV v_takes] [OneV v_owns] [OneV v_ins] [h_params : Rds ps v_params Ty.int x_params] [h_vars : Rds ps v_vars (Ty.slice Ty.int) x_vars] [h_result : Rds ps v_result Ty.int x_result] [h_takes : Rds ps v_takes (Ty.slice Ty.int) x_takes] [h_owns : Rds ps v_owns (Ty.slice Ty.int) x_owns] [h_ins : Rds ps v_ins (Ty.slice tyIns) x_ins] : Rds ps (.agg #[v_params, v_vars, v_result, v_takes, v_owns, v_ins]) tyUnt ⟨x_params, x_vars, x_result, x_takes, x_owns, x_ins⟩ := ⟨.of fun F w h => co_rd (pair_rd (c1 := [_]) rfl (rdo (h_params.r.as F w h)) (pair_rd (c1 := [_]) rfl (rdo (h_vars.r.as F w h)) (pair_rd (c1 := [_]) rfl (rdo (h_result.r.as F w h)) (pair_rd (c1 := [_]) rfl (rdo (h_takes.r.as F w h)) (pair_rd (c1 := [_]) rfl (rdo (h_owns.r.as F w h)) (pair_rd (c1 := [_]) rfl (rdo (h_ins.r.as F w h)) unit_rd))))))⟩
instance {ps : List Pf} {v_classes v_globals v_units v_main : Value} {x_classes : List Go.Api.Layout} {x_globals : List Int} {x_units : List Go.Api.Unt} {x_main : Int} [OneV v_classes] [OneV v_globals] [OneV v_units] [OneV v_main] [h_classes : Rds ps v_classes (Ty.slice tyLayout) x_classes] [h_globals : Rds ps v_globals (Ty.slice Ty.int) x_globals] [h_units : Rds ps v_units (Ty.slice tyUnt) x_units] [h_main : Rds ps v_main Ty.int x_main] : Rds ps (.agg #[v_classes, v_globals, v_units, v_main]) tyRTg ⟨x_classes, x_globals, x_units, x_main⟩ := ⟨.of fun F w h => co_rd (pair_rd (c1 := [_]) rfl (rdo (h_classes.r.as F w h)) (pair_rd (c1 := [_]) rfl (rdo (h_globals.r.as F w h)) (pair_rd (c1 := [_]) rfl (rdo (h_units.r.as F w h)) (pair_rd (c1 := [_]) rfl (rdo (h_main.r.as F w h)) unit_rd))))⟩
instance {ps : List Pf} {v_met v_live v_stale : Value} {x_met : Bool} {x_live : List Int} {x_stale : List Int} [OneV v_met] [OneV v_live] [OneV v_stale] [h_met : Rds ps v_met Ty.bool x_met] [h_live : Rds ps v_live (Ty.slice Ty.int) x_live] [h_stale : Rds ps v_stale (Ty.slice Ty.int) x_stale] : Rds ps (.agg #[v_met, v_live, v_stale]) tyState ⟨x_met, x_live, x_stale⟩ := ⟨.of fun F w h => co_rd (pair_rd (c1 := [_]) rfl (rdo (h_met.r.as F w h)) (pair_rd (c1 := [_]) rfl (rdo (h_live.r.as F w h)) (pair_rd (c1 := [_]) rfl (rdo (h_stale.r.as F w h)) unit_rd)))⟩
instance {ps : List Pf} {v_end_ v_code v_out v_steps : Value} {x_end_ : Int} {x_code : Int} {x_out : List Int} {x_steps : Int} [OneV v_end_] [OneV v_code] [OneV v_out] [OneV v_steps] [h_end_ : Rds ps v_end_ Ty.int x_end_] [h_code : Rds ps v_code Ty.int x_code] [h_out : Rds ps v_out (Ty.slice Ty.int) x_out] [h_steps : Rds ps v_steps Ty.int x_steps] : Rds ps (.agg #[v_end_, v_code, v_out, v_steps]) tyBeh ⟨x_end_, x_code, x_out, x_steps⟩ := ⟨.of fun F w h => co_rd (pair_rd (c1 := [_]) rfl (rdo (h_end_.r.as F w h)) (pair_rd (c1 := [_]) rfl (rdo (h_code.r.as F w h)) (pair_rd (c1 := [_]) rfl (rdo (h_out.r.as F w h)) (pair_rd (c1 := [_]) rfl (rdo (h_steps.r.as F w h)) unit_rd))))⟩
instance {ps : List Pf} {v_beh_end_ v_beh_code v_beh_out v_beh_steps v_made v_gone v_live v_peak v_slack v_most : Value} {x_beh_end_ : Int} {x_beh_code : Int} {x_beh_out : List Int} {x_beh_steps : Int} {x_made : Int} {x_gone : Int} {x_live : Int} {x_peak : Int} {x_slack : Int} {x_most : Int} [OneV v_beh_end_] [OneV v_beh_code] [OneV v_beh_out] [OneV v_beh_steps] [OneV v_made] [OneV v_gone] [OneV v_live] [OneV v_peak] [OneV v_slack] [OneV v_most] [h_beh_end_ : Rds ps v_beh_end_ Ty.int x_beh_end_] [h_beh_code : Rds ps v_beh_code Ty.int x_beh_code] [h_beh_out : Rds ps v_beh_out (Ty.slice Ty.int) x_beh_out] [h_beh_steps : Rds ps v_beh_steps Ty.int x_beh_steps] [h_made : Rds ps v_made Ty.int x_made] [h_gone : Rds ps v_gone Ty.int x_gone] [h_live : Rds ps v_live Ty.int x_live] [h_peak : Rds ps v_peak Ty.int x_peak] [h_slack : Rds ps v_slack Ty.int x_slack] [h_most : Rds ps v_most Ty.int x_most] : Rds ps (.agg #[v_beh_end_, v_beh_code, v_beh_out, v_beh_steps, v_made, v_gone, v_live, v_peak, v_slack, v_most]) tyRan ⟨⟨x_beh_end_, x_beh_code, x_beh_out, x_beh_steps⟩, x_made, x_gone, x_live, x_peak, x_slack, x_most⟩ := ⟨.of fun F w h => co_rd (pair_rd (c1 := [_, _, _, _]) rfl (co_rd (pair_rd (c1 := [_]) rfl (rdo (h_beh_end_.r.as F w h)) (pair_rd (c1 := [_]) rfl (rdo (h_beh_code.r.as F w h)) (pair_rd (c1 := [_]) rfl (rdo (h_beh_out.r.as F w h)) (pair_rd (c1 := [_]) rfl (rdo (h_beh_steps.r.as F w h)) unit_rd))))) (pair_rd (c1 := [_]) rfl (rdo (h_made.r.as F w h)) (pair_rd (c1 := [_]) rfl (rdo (h_gone.r.as F w h)) (pair_rd (c1 := [_]) rfl (rdo (h_live.r.as F w h)) (pair_rd (c1 := [_]) rfl (rdo (h_peak.r.as F w h)) (pair_rd (c1 := [_]) rfl (rdo (h_slack.r.as F w h)) (pair_rd (c1 := [_]) rfl (rdo (h_most.r.as F w h)) unit_rd)))))))⟩
instance {ps : List Pf} {v_a v_b : Value} {x_a : Int} {x_b : Int} [OneV v_a] [OneV v_b] [h_a : Rds ps v_a Ty.int x_a] [h_b : Rds ps v_b Ty.int x_b] : Rds ps (.agg #[v_a, v_b]) tyPair ⟨x_a, x_b⟩ := ⟨.of fun F w h => co_rd (pair_rd (c1 := [_]) rfl (rdo (h_a.r.as F w h)) (pair_rd (c1 := [_]) rfl (rdo (h_b.r.as F w h)) unit_rd))⟩
instance {ps : List Pf} {v_kind v_a v_b v_c : Value} {x_kind : Int} {x_a : Int} {x_b : Int} {x_c : Int} [OneV v_kind] [OneV v_a] [OneV v_b] [OneV v_c] [h_kind : Rds ps v_kind Ty.int x_kind] [h_a : Rds ps v_a Ty.int x_a] [h_b : Rds ps v_b Ty.int x_b] [h_c : Rds ps v_c Ty.int x_c] : Rds ps (.agg #[v_kind, v_a, v_b, v_c]) tyAct29 ⟨x_kind, x_a, x_b, x_c⟩ := ⟨.of fun F w h => co_rd (pair_rd (c1 := [_]) rfl (rdo (h_kind.r.as F w h)) (pair_rd (c1 := [_]) rfl (rdo (h_a.r.as F w h)) (pair_rd (c1 := [_]) rfl (rdo (h_b.r.as F w h)) (pair_rd (c1 := [_]) rfl (rdo (h_c.r.as F w h)) unit_rd))))⟩
instance {ps : List Pf} {v_t_classes v_t_globals v_t_units v_t_main v_u_params v_u_vars v_u_result v_u_takes v_u_owns v_u_ins v_i_op v_i_a v_i_b v_i_c v_i_n v_i_args : Value} {x_t_classes : List Go.Api.Layout} {x_t_globals : List Int} {x_t_units : List Go.Api.Unt} {x_t_main : Int} {x_u_params : Int} {x_u_vars : List Int} {x_u_result : Int} {x_u_takes : List Int} {x_u_owns : List Int} {x_u_ins : List Go.Api.Ins} {x_i_op : Int} {x_i_a : Int} {x_i_b : Int} {x_i_c : Int} {x_i_n : Int} {x_i_args : List Int} [OneV v_t_classes] [OneV v_t_globals] [OneV v_t_units] [OneV v_t_main] [OneV v_u_params] [OneV v_u_vars] [OneV v_u_result] [OneV v_u_takes] [OneV v_u_owns] [OneV v_u_ins] [OneV v_i_op] [OneV v_i_a] [OneV v_i_b] [OneV v_i_c] [OneV v_i_n] [OneV v_i_args] [h_t_classes : Rds ps v_t_classes (Ty.slice tyLayout) x_t_classes] [h_t_globals : Rds ps v_t_globals (Ty.slice Ty.int) x_t_globals] [h_t_units : Rds ps v_t_units (Ty.slice tyUnt) x_t_units] [h_t_main : Rds ps v_t_main Ty.int x_t_main] [h_u_params : Rds ps v_u_params Ty.int x_u_params] [h_u_vars : Rds ps v_u_vars (Ty.slice Ty.int) x_u_vars] [h_u_result : Rds ps v_u_result Ty.int x_u_result] [h_u_takes : Rds ps v_u_takes (Ty.slice Ty.int) x_u_takes] [h_u_owns : Rds ps v_u_owns (Ty.slice Ty.int) x_u_owns] [h_u_ins : Rds ps v_u_ins (Ty.slice tyIns) x_u_ins] [h_i_op : Rds ps v_i_op Ty.int x_i_op] [h_i_a : Rds ps v_i_a Ty.int x_i_a] [h_i_b : Rds ps v_i_b Ty.int x_i_b] [h_i_c : Rds ps v_i_c Ty.int x_i_c] [h_i_n : Rds ps v_i_n Ty.int x_i_n] [h_i_args : Rds ps v_i_args (Ty.slice Ty.int) x_i_args] : Rds ps (.agg #[v_t_classes, v_t_globals, v_t_units, v_t_main, v_u_params, v_u_vars, v_u_result, v_u_takes, v_u_owns, v_u_ins, v_i_op, v_i_a, v_i_b, v_i_c, v_i_n, v_i_args]) tyRtView ⟨⟨x_t_classes, x_t_globals, x_t_units, x_t_main⟩, ⟨x_u_params, x_u_vars, x_u_result, x_u_takes, x_u_owns, x_u_ins⟩, ⟨x_i_op, x_i_a, x_i_b, x_i_c, x_i_n, x_i_args⟩⟩ := ⟨.of fun F w h => co_rd (pair_rd (c1 := [_, _, _, _]) rfl (co_rd (pair_rd (c1 := [_]) rfl (rdo (h_t_classes.r.as F w h)) (pair_rd (c1 := [_]) rfl (rdo (h_t_globals.r.as F w h)) (pair_rd (c1 := [_]) rfl (rdo (h_t_units.r.as F w h)) (pair_rd (c1 := [_]) rfl (rdo (h_t_main.r.as F w h)) unit_rd))))) (pair_rd (c1 := [_, _, _, _, _, _]) rfl (co_rd (pair_rd (c1 := [_]) rfl (rdo (h_u_params.r.as F w h)) (pair_rd (c1 := [_]) rfl (rdo (h_u_vars.r.as F w h)) (pair_rd (c1 := [_]) rfl (rdo (h_u_result.r.as F w h)) (pair_rd (c1 := [_]) rfl (rdo (h_u_takes.r.as F w h)) (pair_rd (c1 := [_]) rfl (rdo (h_u_owns.r.as F w h)) (pair_rd (c1 := [_]) rfl (rdo (h_u_ins.r.as F w h)) unit_rd))))))) (pair_rd (c1 := [_, _, _, _, _, _]) rfl (co_rd (pair_rd (c1 := [_]) rfl (rdo (h_i_op.r.as F w h)) (pair_rd (c1 := [_]) rfl (rdo (h_i_a.r.as F w h)) (pair_rd (c1 := [_]) rfl (rdo (h_i_b.r.as F w h)) (pair_rd (c1 := [_]) rfl (rdo (h_i_c.r.as F w h)) (pair_rd (c1 := [_]) rfl (rdo (h_i_n.r.as F w h)) (pair_rd (c1 := [_]) rfl (rdo (h_i_args.r.as F w h)) unit_rd))))))) unit_rd)))⟩
instance {ps : List Pf} {v_live v_many : Value} {x_live : Bool} {x_many : Int} [OneV v_live] [OneV v_many] [h_live : Rds ps v_live Ty.bool x_live] [h_many : Rds ps v_many Ty.int x_many] : Rds ps (.agg #[v_live, v_many]) tyRegion ⟨x_live, x_many⟩ := ⟨.of fun F w h => co_rd (pair_rd (c1 := [_]) rfl (rdo (h_live.r.as F w h)) (pair_rd (c1 := [_]) rfl (rdo (h_many.r.as F w h)) unit_rd))⟩
end Go.Proofs.Ytnpbadghodkhlaa

/- Where the first one of a list is. No program in sight. -/
namespace Go.Proofs.Ytnpbadghodkhlaa
/-- Where the first one is; -1: there is none. -/
def idxF (p : Int → Bool) (xs : List Int) : Int := match xs.findIdx? p with | some i => (i : Int) | none => -1
theorem idxF_some {p : Int → Bool} {xs : List Int} {i : Nat} {x : Int} (hx : xs[i]? = some x) (hp : p x = true) (hn : ∀ y ∈ xs.take i, p y = false) : idxF p xs = i := by
  have hl := (List.getElem?_eq_some_iff.1 hx).1
  have : xs.findIdx? p = some i := by
    rw [List.findIdx?_eq_some_iff_getElem]
    refine ⟨hl, by rw [(List.getElem?_eq_some_iff.1 hx).2]; exact hp, fun j hj => ?_⟩
    have := hn (xs[j]'(by omega)) (List.mem_take_iff_getElem.2 ⟨j, by omega, rfl⟩)
    simp [this]
  unfold idxF; rw [this]
theorem idxF_none {p : Int → Bool} {xs : List Int} (hn : ∀ y ∈ xs, p y = false) : idxF p xs = -1 := by
  have : xs.findIdx? p = none := List.findIdx?_eq_none_iff.2 hn
  unfold idxF; rw [this]
theorem idxF_any (p : Int → Bool) (xs : List Int) : decide (0 ≤ idxF p xs) = xs.any p := by
  unfold idxF
  cases h : xs.findIdx? p with
  | none =>
    have := List.findIdx?_eq_none_iff.1 h
    have e : xs.any p = false := List.any_eq_false.2 fun x hx => by simp [this x hx]
    rw [e]; rfl
  | some i =>
    obtain ⟨hl, hp, _⟩ := List.findIdx?_eq_some_iff_getElem.1 h
    have e : xs.any p = true := List.any_eq_true.2 ⟨_, List.getElem_mem hl, hp⟩
    rw [e]; simp
theorem take_all_succ {p : Int → Bool} {xs : List Int} {i : Nat} {x : Int} (hx : xs[i]? = some x) (hp : p x = false) (hn : ∀ y ∈ xs.take i, p y = false) : ∀ y ∈ xs.take (i + 1), p y = false := by
  intro y hy
  rw [List.take_add_one, hx, List.mem_append] at hy
  rcases hy with hy | hy
  · exact hn y hy
  · simp at hy; subst hy; exact hp

end Go.Proofs.Ytnpbadghodkhlaa
