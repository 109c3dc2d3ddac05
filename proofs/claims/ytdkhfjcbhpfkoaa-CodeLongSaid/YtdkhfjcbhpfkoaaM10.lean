import Derived.Test.YtdkhfjcbhpfkoaaM9
/- The program's structs in Lean, and how they read. Written by wip/api.py. No program in sight. -/
namespace Go.Api
structure Ins where
  op : Int
  a : Int
  b : Int
  c : Int
  n : Int
  args : List Int
  deriving DecidableEq, Inhabited
structure Typ where
  base : Int
  rc : Int
  dims : Int
  deriving DecidableEq, Inhabited
structure Fld where
  name : ByteArray
  typ : Go.Api.Typ
  deriving DecidableEq, Inhabited
structure Shape where
  name : ByteArray
  fields : List Go.Api.Fld
  deriving DecidableEq, Inhabited
structure Site where
  func : Int
  typ : Go.Api.Typ
  deriving DecidableEq, Inhabited
structure Code where
  params : Int
  vars : List Go.Api.Typ
  has : Bool
  result : Go.Api.Typ
  ins : List Go.Api.Ins
  deriving DecidableEq, Inhabited
structure IR where
  recs : List Go.Api.Shape
  globals : List Go.Api.Typ
  codes : List Go.Api.Code
  sites : List Go.Api.Site
  main : Int
  deriving DecidableEq, Inhabited
structure Con where
  kind : Int
  a : Int
  b : Int
  f : Int
  deriving DecidableEq, Inhabited
structure Points where
  nodes : List (List Int)
  fields : List (List (List Int))
  deriving DecidableEq, Inhabited
structure Classes where
  count : Int
  of : List Int
  nodes : List Int
  fields : List (List Int)
  deriving DecidableEq, Inhabited
structure Layout where
  arr : Bool
  refs : List Int
  deriving DecidableEq, Inhabited
structure Unt where
  params : Int
  vars : List Int
  result : Int
  takes : List Int
  owns : List Int
  ins : List Go.Api.Ins
  deriving DecidableEq, Inhabited
structure RTg where
  classes : List Go.Api.Layout
  globals : List Int
  units : List Go.Api.Unt
  main : Int
  deriving DecidableEq, Inhabited
structure State where
  met : Bool
  live : List Int
  stale : List Int
  deriving DecidableEq, Inhabited
structure Beh where
  end_ : Int
  code : Int
  out : List Int
  steps : Int
  deriving DecidableEq, Inhabited
structure Ran where
  beh : Go.Api.Beh
  made : Int
  gone : Int
  live : Int
  peak : Int
  slack : Int
  most : Int
  deriving DecidableEq, Inhabited
structure Pair where
  a : Int
  b : Int
  deriving DecidableEq, Inhabited
structure Act29 where
  kind : Int
  a : Int
  b : Int
  c : Int
  deriving DecidableEq, Inhabited
structure RtView where
  t : Go.Api.RTg
  u : Go.Api.Unt
  i : Go.Api.Ins
  deriving DecidableEq, Inhabited
structure Region where
  live : Bool
  many : Int
  deriving DecidableEq, Inhabited
end Go.Api
namespace Go.GX
open Go Go.RowKit Go.RR Go.RX Go.Api
/-- What an int may be. -/
abbrev I64 (x : Int) : Prop := -9223372036854775808 ≤ x ∧ x ≤ 9223372036854775807
def _root_.Go.Api.Ins.tup (y : Api.Ins) := (y.op, y.a, y.b, y.c, y.n, y.args, ())
def tyIns : Ty Api.Ins := Ty.co (Ty.pair Ty.int (Ty.pair Ty.int (Ty.pair Ty.int (Ty.pair Ty.int (Ty.pair Ty.int (Ty.pair (Ty.slice Ty.int) Ty.unit)))))) Api.Ins.tup
instance : Sub tyIns 0 Ty.int Api.Ins.op (fun z y => { y with op := z }) := (Sub.co (Sub.fst (Sub.whole _)) (fun _ => rfl) (fun _ _ => rfl))
instance : Sub tyIns 1 Ty.int Api.Ins.a (fun z y => { y with a := z }) := (Sub.co (Sub.snd (Sub.fst (Sub.whole _))) (fun _ => rfl) (fun _ _ => rfl))
instance : Sub tyIns 2 Ty.int Api.Ins.b (fun z y => { y with b := z }) := (Sub.co (Sub.snd (Sub.snd (Sub.fst (Sub.whole _)))) (fun _ => rfl) (fun _ _ => rfl))
instance : Sub tyIns 3 Ty.int Api.Ins.c (fun z y => { y with c := z }) := (Sub.co (Sub.snd (Sub.snd (Sub.snd (Sub.fst (Sub.whole _))))) (fun _ => rfl) (fun _ _ => rfl))
instance : Sub tyIns 4 Ty.int Api.Ins.n (fun z y => { y with n := z }) := (Sub.co (Sub.snd (Sub.snd (Sub.snd (Sub.snd (Sub.fst (Sub.whole _)))))) (fun _ => rfl) (fun _ _ => rfl))
instance : Sub tyIns 5 (Ty.slice Ty.int) Api.Ins.args (fun z y => { y with args := z }) := (Sub.co (Sub.snd (Sub.snd (Sub.snd (Sub.snd (Sub.snd (Sub.fst (Sub.whole _))))))) (fun _ => rfl) (fun _ _ => rfl))
def _root_.Go.Api.Ins.ok (y : Api.Ins) : Prop := I64 y.op ∧ I64 y.a ∧ I64 y.b ∧ I64 y.c ∧ I64 y.n ∧ (∀ x ∈ y.args, I64 x)
def _root_.Go.Api.Typ.tup (y : Api.Typ) := (y.base, y.rc, y.dims, ())
def tyTyp : Ty Api.Typ := Ty.co (Ty.pair Ty.int (Ty.pair Ty.int (Ty.pair Ty.int Ty.unit))) Api.Typ.tup
instance : Sub tyTyp 0 Ty.int Api.Typ.base (fun z y => { y with base := z }) := (Sub.co (Sub.fst (Sub.whole _)) (fun _ => rfl) (fun _ _ => rfl))
instance : Sub tyTyp 1 Ty.int Api.Typ.rc (fun z y => { y with rc := z }) := (Sub.co (Sub.snd (Sub.fst (Sub.whole _))) (fun _ => rfl) (fun _ _ => rfl))
instance : Sub tyTyp 2 Ty.int Api.Typ.dims (fun z y => { y with dims := z }) := (Sub.co (Sub.snd (Sub.snd (Sub.fst (Sub.whole _)))) (fun _ => rfl) (fun _ _ => rfl))
def _root_.Go.Api.Typ.ok (y : Api.Typ) : Prop := I64 y.base ∧ I64 y.rc ∧ I64 y.dims
def _root_.Go.Api.Fld.tup (y : Api.Fld) := (y.name, y.typ, ())
def tyFld : Ty Api.Fld := Ty.co (Ty.pair Ty.string (Ty.pair tyTyp Ty.unit)) Api.Fld.tup
instance : Sub tyFld 0 Ty.string Api.Fld.name (fun z y => { y with name := z }) := (Sub.co (Sub.fst (Sub.whole _)) (fun _ => rfl) (fun _ _ => rfl))
instance : SubS tyFld 1 tyTyp Api.Fld.typ (fun z y => { y with typ := z }) := ⟨(Sub.co (Sub.snd (Sub.fst (Sub.whole _))) (fun _ => rfl) (fun _ _ => rfl))⟩
instance (priority := 50) : Sub tyFld 1 tyTyp Api.Fld.typ (fun z y => { y with typ := z }) := SubS.s
instance : Sub tyFld 1 Ty.int (fun y => y.typ.base) (fun z y => { y with typ := { y.typ with base := z } }) := (Sub.co (Sub.snd (Sub.fst ((Sub.co (Sub.fst (Sub.whole _)) (fun _ => rfl) (fun _ _ => rfl) : Sub tyTyp 0 Ty.int Api.Typ.base (fun z y => { y with base := z }))))) (fun _ => rfl) (fun _ _ => rfl))
instance : Sub tyFld 2 Ty.int (fun y => y.typ.rc) (fun z y => { y with typ := { y.typ with rc := z } }) := (Sub.co (Sub.snd (Sub.fst ((Sub.co (Sub.snd (Sub.fst (Sub.whole _))) (fun _ => rfl) (fun _ _ => rfl) : Sub tyTyp 1 Ty.int Api.Typ.rc (fun z y => { y with rc := z }))))) (fun _ => rfl) (fun _ _ => rfl))
instance : Sub tyFld 3 Ty.int (fun y => y.typ.dims) (fun z y => { y with typ := { y.typ with dims := z } }) := (Sub.co (Sub.snd (Sub.fst ((Sub.co (Sub.snd (Sub.snd (Sub.fst (Sub.whole _)))) (fun _ => rfl) (fun _ _ => rfl) : Sub tyTyp 2 Ty.int Api.Typ.dims (fun z y => { y with dims := z }))))) (fun _ => rfl) (fun _ _ => rfl))
def _root_.Go.Api.Fld.ok (y : Api.Fld) : Prop := Go.Api.Typ.ok y.typ
def _root_.Go.Api.Shape.tup (y : Api.Shape) := (y.name, y.fields, ())
def tyShape : Ty Api.Shape := Ty.co (Ty.pair Ty.string (Ty.pair (Ty.slice tyFld) Ty.unit)) Api.Shape.tup
instance : Sub tyShape 0 Ty.string Api.Shape.name (fun z y => { y with name := z }) := (Sub.co (Sub.fst (Sub.whole _)) (fun _ => rfl) (fun _ _ => rfl))
instance : Sub tyShape 1 (Ty.slice tyFld) Api.Shape.fields (fun z y => { y with fields := z }) := (Sub.co (Sub.snd (Sub.fst (Sub.whole _))) (fun _ => rfl) (fun _ _ => rfl))
def _root_.Go.Api.Shape.ok (y : Api.Shape) : Prop := (∀ x ∈ y.fields, Go.Api.Fld.ok x)
def _root_.Go.Api.Site.tup (y : Api.Site) := (y.func, y.typ, ())
def tySite : Ty Api.Site := Ty.co (Ty.pair Ty.int (Ty.pair tyTyp Ty.unit)) Api.Site.tup
instance : Sub tySite 0 Ty.int Api.Site.func (fun z y => { y with func := z }) := (Sub.co (Sub.fst (Sub.whole _)) (fun _ => rfl) (fun _ _ => rfl))
instance : SubS tySite 1 tyTyp Api.Site.typ (fun z y => { y with typ := z }) := ⟨(Sub.co (Sub.snd (Sub.fst (Sub.whole _))) (fun _ => rfl) (fun _ _ => rfl))⟩
instance (priority := 50) : Sub tySite 1 tyTyp Api.Site.typ (fun z y => { y with typ := z }) := SubS.s
instance : Sub tySite 1 Ty.int (fun y => y.typ.base) (fun z y => { y with typ := { y.typ with base := z } }) := (Sub.co (Sub.snd (Sub.fst ((Sub.co (Sub.fst (Sub.whole _)) (fun _ => rfl) (fun _ _ => rfl) : Sub tyTyp 0 Ty.int Api.Typ.base (fun z y => { y with base := z }))))) (fun _ => rfl) (fun _ _ => rfl))
instance : Sub tySite 2 Ty.int (fun y => y.typ.rc) (fun z y => { y with typ := { y.typ with rc := z } }) := (Sub.co (Sub.snd (Sub.fst ((Sub.co (Sub.snd (Sub.fst (Sub.whole _))) (fun _ => rfl) (fun _ _ => rfl) : Sub tyTyp 1 Ty.int Api.Typ.rc (fun z y => { y with rc := z }))))) (fun _ => rfl) (fun _ _ => rfl))
instance : Sub tySite 3 Ty.int (fun y => y.typ.dims) (fun z y => { y with typ := { y.typ with dims := z } }) := (Sub.co (Sub.snd (Sub.fst ((Sub.co (Sub.snd (Sub.snd (Sub.fst (Sub.whole _)))) (fun _ => rfl) (fun _ _ => rfl) : Sub tyTyp 2 Ty.int Api.Typ.dims (fun z y => { y with dims := z }))))) (fun _ => rfl) (fun _ _ => rfl))
def _root_.Go.Api.Site.ok (y : Api.Site) : Prop := I64 y.func ∧ Go.Api.Typ.ok y.typ
def _root_.Go.Api.Code.tup (y : Api.Code) := (y.params, y.vars, y.has, y.result, y.ins, ())
def tyCode : Ty Api.Code := Ty.co (Ty.pair Ty.int (Ty.pair (Ty.slice tyTyp) (Ty.pair Ty.bool (Ty.pair tyTyp (Ty.pair (Ty.slice tyIns) Ty.unit))))) Api.Code.tup
instance : Sub tyCode 0 Ty.int Api.Code.params (fun z y => { y with params := z }) := (Sub.co (Sub.fst (Sub.whole _)) (fun _ => rfl) (fun _ _ => rfl))
instance : Sub tyCode 1 (Ty.slice tyTyp) Api.Code.vars (fun z y => { y with vars := z }) := (Sub.co (Sub.snd (Sub.fst (Sub.whole _))) (fun _ => rfl) (fun _ _ => rfl))
instance : Sub tyCode 2 Ty.bool Api.Code.has (fun z y => { y with has := z }) := (Sub.co (Sub.snd (Sub.snd (Sub.fst (Sub.whole _)))) (fun _ => rfl) (fun _ _ => rfl))
instance : SubS tyCode 3 tyTyp Api.Code.result (fun z y => { y with result := z }) := ⟨(Sub.co (Sub.snd (Sub.snd (Sub.snd (Sub.fst (Sub.whole _))))) (fun _ => rfl) (fun _ _ => rfl))⟩
instance (priority := 50) : Sub tyCode 3 tyTyp Api.Code.result (fun z y => { y with result := z }) := SubS.s
instance : Sub tyCode 3 Ty.int (fun y => y.result.base) (fun z y => { y with result := { y.result with base := z } }) := (Sub.co (Sub.snd (Sub.snd (Sub.snd (Sub.fst ((Sub.co (Sub.fst (Sub.whole _)) (fun _ => rfl) (fun _ _ => rfl) : Sub tyTyp 0 Ty.int Api.Typ.base (fun z y => { y with base := z }))))))) (fun _ => rfl) (fun _ _ => rfl))
instance : Sub tyCode 4 Ty.int (fun y => y.result.rc) (fun z y => { y with result := { y.result with rc := z } }) := (Sub.co (Sub.snd (Sub.snd (Sub.snd (Sub.fst ((Sub.co (Sub.snd (Sub.fst (Sub.whole _))) (fun _ => rfl) (fun _ _ => rfl) : Sub tyTyp 1 Ty.int Api.Typ.rc (fun z y => { y with rc := z }))))))) (fun _ => rfl) (fun _ _ => rfl))
instance : Sub tyCode 5 Ty.int (fun y => y.result.dims) (fun z y => { y with result := { y.result with dims := z } }) := (Sub.co (Sub.snd (Sub.snd (Sub.snd (Sub.fst ((Sub.co (Sub.snd (Sub.snd (Sub.fst (Sub.whole _)))) (fun _ => rfl) (fun _ _ => rfl) : Sub tyTyp 2 Ty.int Api.Typ.dims (fun z y => { y with dims := z }))))))) (fun _ => rfl) (fun _ _ => rfl))
instance : Sub tyCode 6 (Ty.slice tyIns) Api.Code.ins (fun z y => { y with ins := z }) := (Sub.co (Sub.snd (Sub.snd (Sub.snd (Sub.snd (Sub.fst (Sub.whole _)))))) (fun _ => rfl) (fun _ _ => rfl))
def _root_.Go.Api.Code.ok (y : Api.Code) : Prop := I64 y.params ∧ (∀ x ∈ y.vars, Go.Api.Typ.ok x) ∧ Go.Api.Typ.ok y.result ∧ (∀ x ∈ y.ins, Go.Api.Ins.ok x)
def _root_.Go.Api.IR.tup (y : Api.IR) := (y.recs, y.globals, y.codes, y.sites, y.main, ())
def tyIR : Ty Api.IR := Ty.co (Ty.pair (Ty.slice tyShape) (Ty.pair (Ty.slice tyTyp) (Ty.pair (Ty.slice tyCode) (Ty.pair (Ty.slice tySite) (Ty.pair Ty.int Ty.unit))))) Api.IR.tup
instance : Sub tyIR 0 (Ty.slice tyShape) Api.IR.recs (fun z y => { y with recs := z }) := (Sub.co (Sub.fst (Sub.whole _)) (fun _ => rfl) (fun _ _ => rfl))
instance : Sub tyIR 1 (Ty.slice tyTyp) Api.IR.globals (fun z y => { y with globals := z }) := (Sub.co (Sub.snd (Sub.fst (Sub.whole _))) (fun _ => rfl) (fun _ _ => rfl))
instance : Sub tyIR 2 (Ty.slice tyCode) Api.IR.codes (fun z y => { y with codes := z }) := (Sub.co (Sub.snd (Sub.snd (Sub.fst (Sub.whole _)))) (fun _ => rfl) (fun _ _ => rfl))
instance : Sub tyIR 3 (Ty.slice tySite) Api.IR.sites (fun z y => { y with sites := z }) := (Sub.co (Sub.snd (Sub.snd (Sub.snd (Sub.fst (Sub.whole _))))) (fun _ => rfl) (fun _ _ => rfl))
instance : Sub tyIR 4 Ty.int Api.IR.main (fun z y => { y with main := z }) := (Sub.co (Sub.snd (Sub.snd (Sub.snd (Sub.snd (Sub.fst (Sub.whole _)))))) (fun _ => rfl) (fun _ _ => rfl))
def _root_.Go.Api.IR.ok (y : Api.IR) : Prop := (∀ x ∈ y.recs, Go.Api.Shape.ok x) ∧ (∀ x ∈ y.globals, Go.Api.Typ.ok x) ∧ (∀ x ∈ y.codes, Go.Api.Code.ok x) ∧ (∀ x ∈ y.sites, Go.Api.Site.ok x) ∧ I64 y.main
def _root_.Go.Api.Con.tup (y : Api.Con) := (y.kind, y.a, y.b, y.f, ())
def tyCon : Ty Api.Con := Ty.co (Ty.pair Ty.int (Ty.pair Ty.int (Ty.pair Ty.int (Ty.pair Ty.int Ty.unit)))) Api.Con.tup
instance : Sub tyCon 0 Ty.int Api.Con.kind (fun z y => { y with kind := z }) := (Sub.co (Sub.fst (Sub.whole _)) (fun _ => rfl) (fun _ _ => rfl))
instance : Sub tyCon 1 Ty.int Api.Con.a (fun z y => { y with a := z }) := (Sub.co (Sub.snd (Sub.fst (Sub.whole _))) (fun _ => rfl) (fun _ _ => rfl))
instance : Sub tyCon 2 Ty.int Api.Con.b (fun z y => { y with b := z }) := (Sub.co (Sub.snd (Sub.snd (Sub.fst (Sub.whole _)))) (fun _ => rfl) (fun _ _ => rfl))
instance : Sub tyCon 3 Ty.int Api.Con.f (fun z y => { y with f := z }) := (Sub.co (Sub.snd (Sub.snd (Sub.snd (Sub.fst (Sub.whole _))))) (fun _ => rfl) (fun _ _ => rfl))
def _root_.Go.Api.Con.ok (y : Api.Con) : Prop := I64 y.kind ∧ I64 y.a ∧ I64 y.b ∧ I64 y.f
def _root_.Go.Api.Points.tup (y : Api.Points) := (y.nodes, y.fields, ())
def tyPoints : Ty Api.Points := Ty.co (Ty.pair (Ty.slice (Ty.slice Ty.int)) (Ty.pair (Ty.slice (Ty.slice (Ty.slice Ty.int))) Ty.unit)) Api.Points.tup
instance : Sub tyPoints 0 (Ty.slice (Ty.slice Ty.int)) Api.Points.nodes (fun z y => { y with nodes := z }) := (Sub.co (Sub.fst (Sub.whole _)) (fun _ => rfl) (fun _ _ => rfl))
instance : Sub tyPoints 1 (Ty.slice (Ty.slice (Ty.slice Ty.int))) Api.Points.fields (fun z y => { y with fields := z }) := (Sub.co (Sub.snd (Sub.fst (Sub.whole _))) (fun _ => rfl) (fun _ _ => rfl))
def _root_.Go.Api.Points.ok (y : Api.Points) : Prop := (∀ x ∈ y.nodes, (∀ z ∈ x, I64 z)) ∧ (∀ x ∈ y.fields, (∀ z ∈ x, (∀ z' ∈ z, I64 z')))
def _root_.Go.Api.Classes.tup (y : Api.Classes) := (y.count, y.of, y.nodes, y.fields, ())
def tyClasses : Ty Api.Classes := Ty.co (Ty.pair Ty.int (Ty.pair (Ty.slice Ty.int) (Ty.pair (Ty.slice Ty.int) (Ty.pair (Ty.slice (Ty.slice Ty.int)) Ty.unit)))) Api.Classes.tup
instance : Sub tyClasses 0 Ty.int Api.Classes.count (fun z y => { y with count := z }) := (Sub.co (Sub.fst (Sub.whole _)) (fun _ => rfl) (fun _ _ => rfl))
instance : Sub tyClasses 1 (Ty.slice Ty.int) Api.Classes.of (fun z y => { y with of := z }) := (Sub.co (Sub.snd (Sub.fst (Sub.whole _))) (fun _ => rfl) (fun _ _ => rfl))
instance : Sub tyClasses 2 (Ty.slice Ty.int) Api.Classes.nodes (fun z y => { y with nodes := z }) := (Sub.co (Sub.snd (Sub.snd (Sub.fst (Sub.whole _)))) (fun _ => rfl) (fun _ _ => rfl))
instance : Sub tyClasses 3 (Ty.slice (Ty.slice Ty.int)) Api.Classes.fields (fun z y => { y with fields := z }) := (Sub.co (Sub.snd (Sub.snd (Sub.snd (Sub.fst (Sub.whole _))))) (fun _ => rfl) (fun _ _ => rfl))
def _root_.Go.Api.Classes.ok (y : Api.Classes) : Prop := I64 y.count ∧ (∀ x ∈ y.of, I64 x) ∧ (∀ x ∈ y.nodes, I64 x) ∧ (∀ x ∈ y.fields, (∀ z ∈ x, I64 z))
def _root_.Go.Api.Layout.tup (y : Api.Layout) := (y.arr, y.refs, ())
def tyLayout : Ty Api.Layout := Ty.co (Ty.pair Ty.bool (Ty.pair (Ty.slice Ty.int) Ty.unit)) Api.Layout.tup
instance : Sub tyLayout 0 Ty.bool Api.Layout.arr (fun z y => { y with arr := z }) := (Sub.co (Sub.fst (Sub.whole _)) (fun _ => rfl) (fun _ _ => rfl))
instance : Sub tyLayout 1 (Ty.slice Ty.int) Api.Layout.refs (fun z y => { y with refs := z }) := (Sub.co (Sub.snd (Sub.fst (Sub.whole _))) (fun _ => rfl) (fun _ _ => rfl))
def _root_.Go.Api.Layout.ok (y : Api.Layout) : Prop := (∀ x ∈ y.refs, I64 x)
def _root_.Go.Api.Unt.tup (y : Api.Unt) := (y.params, y.vars, y.result, y.takes, y.owns, y.ins, ())
def tyUnt : Ty Api.Unt := Ty.co (Ty.pair Ty.int (Ty.pair (Ty.slice Ty.int) (Ty.pair Ty.int (Ty.pair (Ty.slice Ty.int) (Ty.pair (Ty.slice Ty.int) (Ty.pair (Ty.slice tyIns) Ty.unit)))))) Api.Unt.tup
instance : Sub tyUnt 0 Ty.int Api.Unt.params (fun z y => { y with params := z }) := (Sub.co (Sub.fst (Sub.whole _)) (fun _ => rfl) (fun _ _ => rfl))
instance : Sub tyUnt 1 (Ty.slice Ty.int) Api.Unt.vars (fun z y => { y with vars := z }) := (Sub.co (Sub.snd (Sub.fst (Sub.whole _))) (fun _ => rfl) (fun _ _ => rfl))
instance : Sub tyUnt 2 Ty.int Api.Unt.result (fun z y => { y with result := z }) := (Sub.co (Sub.snd (Sub.snd (Sub.fst (Sub.whole _)))) (fun _ => rfl) (fun _ _ => rfl))
instance : Sub tyUnt 3 (Ty.slice Ty.int) Api.Unt.takes (fun z y => { y with takes := z }) := (Sub.co (Sub.snd (Sub.snd (Sub.snd (Sub.fst (Sub.whole _))))) (fun _ => rfl) (fun _ _ => rfl))
instance : Sub tyUnt 4 (Ty.slice Ty.int) Api.Unt.owns (fun z y => { y with owns := z }) := (Sub.co (Sub.snd (Sub.snd (Sub.snd (Sub.snd (Sub.fst (Sub.whole _)))))) (fun _ => rfl) (fun _ _ => rfl))
instance : Sub tyUnt 5 (Ty.slice tyIns) Api.Unt.ins (fun z y => { y with ins := z }) := (Sub.co (Sub.snd (Sub.snd (Sub.snd (Sub.snd (Sub.snd (Sub.fst (Sub.whole _))))))) (fun _ => rfl) (fun _ _ => rfl))
def _root_.Go.Api.Unt.ok (y : Api.Unt) : Prop := I64 y.params ∧ (∀ x ∈ y.vars, I64 x) ∧ I64 y.result ∧ (∀ x ∈ y.takes, I64 x) ∧ (∀ x ∈ y.owns, I64 x) ∧ (∀ x ∈ y.ins, Go.Api.Ins.ok x)
def _root_.Go.Api.RTg.tup (y : Api.RTg) := (y.classes, y.globals, y.units, y.main, ())
def tyRTg : Ty Api.RTg := Ty.co (Ty.pair (Ty.slice tyLayout) (Ty.pair (Ty.slice Ty.int) (Ty.pair (Ty.slice tyUnt) (Ty.pair Ty.int Ty.unit)))) Api.RTg.tup
instance : Sub tyRTg 0 (Ty.slice tyLayout) Api.RTg.classes (fun z y => { y with classes := z }) := (Sub.co (Sub.fst (Sub.whole _)) (fun _ => rfl) (fun _ _ => rfl))
instance : Sub tyRTg 1 (Ty.slice Ty.int) Api.RTg.globals (fun z y => { y with globals := z }) := (Sub.co (Sub.snd (Sub.fst (Sub.whole _))) (fun _ => rfl) (fun _ _ => rfl))
instance : Sub tyRTg 2 (Ty.slice tyUnt) Api.RTg.units (fun z y => { y with units := z }) := (Sub.co (Sub.snd (Sub.snd (Sub.fst (Sub.whole _)))) (fun _ => rfl) (fun _ _ => rfl))
instance : Sub tyRTg 3 Ty.int Api.RTg.main (fun z y => { y with main := z }) := (Sub.co (Sub.snd (Sub.snd (Sub.snd (Sub.fst (Sub.whole _))))) (fun _ => rfl) (fun _ _ => rfl))
def _root_.Go.Api.RTg.ok (y : Api.RTg) : Prop := (∀ x ∈ y.classes, Go.Api.Layout.ok x) ∧ (∀ x ∈ y.globals, I64 x) ∧ (∀ x ∈ y.units, Go.Api.Unt.ok x) ∧ I64 y.main
def _root_.Go.Api.State.tup (y : Api.State) := (y.met, y.live, y.stale, ())
def tyState : Ty Api.State := Ty.co (Ty.pair Ty.bool (Ty.pair (Ty.slice Ty.int) (Ty.pair (Ty.slice Ty.int) Ty.unit))) Api.State.tup
instance : Sub tyState 0 Ty.bool Api.State.met (fun z y => { y with met := z }) := (Sub.co (Sub.fst (Sub.whole _)) (fun _ => rfl) (fun _ _ => rfl))
instance : Sub tyState 1 (Ty.slice Ty.int) Api.State.live (fun z y => { y with live := z }) := (Sub.co (Sub.snd (Sub.fst (Sub.whole _))) (fun _ => rfl) (fun _ _ => rfl))
instance : Sub tyState 2 (Ty.slice Ty.int) Api.State.stale (fun z y => { y with stale := z }) := (Sub.co (Sub.snd (Sub.snd (Sub.fst (Sub.whole _)))) (fun _ => rfl) (fun _ _ => rfl))
def _root_.Go.Api.State.ok (y : Api.State) : Prop := (∀ x ∈ y.live, I64 x) ∧ (∀ x ∈ y.stale, I64 x)
def _root_.Go.Api.Beh.tup (y : Api.Beh) := (y.end_, y.code, y.out, y.steps, ())
def tyBeh : Ty Api.Beh := Ty.co (Ty.pair Ty.int (Ty.pair Ty.int (Ty.pair (Ty.slice Ty.int) (Ty.pair Ty.int Ty.unit)))) Api.Beh.tup
instance : Sub tyBeh 0 Ty.int Api.Beh.end_ (fun z y => { y with end_ := z }) := (Sub.co (Sub.fst (Sub.whole _)) (fun _ => rfl) (fun _ _ => rfl))
instance : Sub tyBeh 1 Ty.int Api.Beh.code (fun z y => { y with code := z }) := (Sub.co (Sub.snd (Sub.fst (Sub.whole _))) (fun _ => rfl) (fun _ _ => rfl))
instance : Sub tyBeh 2 (Ty.slice Ty.int) Api.Beh.out (fun z y => { y with out := z }) := (Sub.co (Sub.snd (Sub.snd (Sub.fst (Sub.whole _)))) (fun _ => rfl) (fun _ _ => rfl))
instance : Sub tyBeh 3 Ty.int Api.Beh.steps (fun z y => { y with steps := z }) := (Sub.co (Sub.snd (Sub.snd (Sub.snd (Sub.fst (Sub.whole _))))) (fun _ => rfl) (fun _ _ => rfl))
def _root_.Go.Api.Beh.ok (y : Api.Beh) : Prop := I64 y.end_ ∧ I64 y.code ∧ (∀ x ∈ y.out, I64 x) ∧ I64 y.steps
def _root_.Go.Api.Ran.tup (y : Api.Ran) := (y.beh, y.made, y.gone, y.live, y.peak, y.slack, y.most, ())
def tyRan : Ty Api.Ran := Ty.co (Ty.pair tyBeh (Ty.pair Ty.int (Ty.pair Ty.int (Ty.pair Ty.int (Ty.pair Ty.int (Ty.pair Ty.int (Ty.pair Ty.int Ty.unit))))))) Api.Ran.tup
instance : SubS tyRan 0 tyBeh Api.Ran.beh (fun z y => { y with beh := z }) := ⟨(Sub.co (Sub.fst (Sub.whole _)) (fun _ => rfl) (fun _ _ => rfl))⟩
instance (priority := 50) : Sub tyRan 0 tyBeh Api.Ran.beh (fun z y => { y with beh := z }) := SubS.s
instance : Sub tyRan 0 Ty.int (fun y => y.beh.end_) (fun z y => { y with beh := { y.beh with end_ := z } }) := (Sub.co (Sub.fst ((Sub.co (Sub.fst (Sub.whole _)) (fun _ => rfl) (fun _ _ => rfl) : Sub tyBeh 0 Ty.int Api.Beh.end_ (fun z y => { y with end_ := z })))) (fun _ => rfl) (fun _ _ => rfl))
instance : Sub tyRan 1 Ty.int (fun y => y.beh.code) (fun z y => { y with beh := { y.beh with code := z } }) := (Sub.co (Sub.fst ((Sub.co (Sub.snd (Sub.fst (Sub.whole _))) (fun _ => rfl) (fun _ _ => rfl) : Sub tyBeh 1 Ty.int Api.Beh.code (fun z y => { y with code := z })))) (fun _ => rfl) (fun _ _ => rfl))
instance : Sub tyRan 2 (Ty.slice Ty.int) (fun y => y.beh.out) (fun z y => { y with beh := { y.beh with out := z } }) := (Sub.co (Sub.fst ((Sub.co (Sub.snd (Sub.snd (Sub.fst (Sub.whole _)))) (fun _ => rfl) (fun _ _ => rfl) : Sub tyBeh 2 (Ty.slice Ty.int) Api.Beh.out (fun z y => { y with out := z })))) (fun _ => rfl) (fun _ _ => rfl))
instance : Sub tyRan 3 Ty.int (fun y => y.beh.steps) (fun z y => { y with beh := { y.beh with steps := z } }) := (Sub.co (Sub.fst ((Sub.co (Sub.snd (Sub.snd (Sub.snd (Sub.fst (Sub.whole _))))) (fun _ => rfl) (fun _ _ => rfl) : Sub tyBeh 3 Ty.int Api.Beh.steps (fun z y => { y with steps := z })))) (fun _ => rfl) (fun _ _ => rfl))
instance : Sub tyRan 4 Ty.int Api.Ran.made (fun z y => { y with made := z }) := (Sub.co (Sub.snd (Sub.fst (Sub.whole _))) (fun _ => rfl) (fun _ _ => rfl))
instance : Sub tyRan 5 Ty.int Api.Ran.gone (fun z y => { y with gone := z }) := (Sub.co (Sub.snd (Sub.snd (Sub.fst (Sub.whole _)))) (fun _ => rfl) (fun _ _ => rfl))
instance : Sub tyRan 6 Ty.int Api.Ran.live (fun z y => { y with live := z }) := (Sub.co (Sub.snd (Sub.snd (Sub.snd (Sub.fst (Sub.whole _))))) (fun _ => rfl) (fun _ _ => rfl))
instance : Sub tyRan 7 Ty.int Api.Ran.peak (fun z y => { y with peak := z }) := (Sub.co (Sub.snd (Sub.snd (Sub.snd (Sub.snd (Sub.fst (Sub.whole _)))))) (fun _ => rfl) (fun _ _ => rfl))
instance : Sub tyRan 8 Ty.int Api.Ran.slack (fun z y => { y with slack := z }) := (Sub.co (Sub.snd (Sub.snd (Sub.snd (Sub.snd (Sub.snd (Sub.fst (Sub.whole _))))))) (fun _ => rfl) (fun _ _ => rfl))
instance : Sub tyRan 9 Ty.int Api.Ran.most (fun z y => { y with most := z }) := (Sub.co (Sub.snd (Sub.snd (Sub.snd (Sub.snd (Sub.snd (Sub.snd (Sub.fst (Sub.whole _)))))))) (fun _ => rfl) (fun _ _ => rfl))
def _root_.Go.Api.Ran.ok (y : Api.Ran) : Prop := Go.Api.Beh.ok y.beh ∧ I64 y.made ∧ I64 y.gone ∧ I64 y.live ∧ I64 y.peak ∧ I64 y.slack ∧ I64 y.most
def _root_.Go.Api.Pair.tup (y : Api.Pair) := (y.a, y.b, ())
def tyPair : Ty Api.Pair := Ty.co (Ty.pair Ty.int (Ty.pair Ty.int Ty.unit)) Api.Pair.tup
instance : Sub tyPair 0 Ty.int Api.Pair.a (fun z y => { y with a := z }) := (Sub.co (Sub.fst (Sub.whole _)) (fun _ => rfl) (fun _ _ => rfl))
instance : Sub tyPair 1 Ty.int Api.Pair.b (fun z y => { y with b := z }) := (Sub.co (Sub.snd (Sub.fst (Sub.whole _))) (fun _ => rfl) (fun _ _ => rfl))
def _root_.Go.Api.Pair.ok (y : Api.Pair) : Prop := I64 y.a ∧ I64 y.b
def _root_.Go.Api.Act29.tup (y : Api.Act29) := (y.kind, y.a, y.b, y.c, ())
def tyAct29 : Ty Api.Act29 := Ty.co (Ty.pair Ty.int (Ty.pair Ty.int (Ty.pair Ty.int (Ty.pair Ty.int Ty.unit)))) Api.Act29.tup
instance : Sub tyAct29 0 Ty.int Api.Act29.kind (fun z y => { y with kind := z }) := (Sub.co (Sub.fst (Sub.whole _)) (fun _ => rfl) (fun _ _ => rfl))
instance : Sub tyAct29 1 Ty.int Api.Act29.a (fun z y => { y with a := z }) := (Sub.co (Sub.snd (Sub.fst (Sub.whole _))) (fun _ => rfl) (fun _ _ => rfl))
instance : Sub tyAct29 2 Ty.int Api.Act29.b (fun z y => { y with b := z }) := (Sub.co (Sub.snd (Sub.snd (Sub.fst (Sub.whole _)))) (fun _ => rfl) (fun _ _ => rfl))
instance : Sub tyAct29 3 Ty.int Api.Act29.c (fun z y => { y with c := z }) := (Sub.co (Sub.snd (Sub.snd (Sub.snd (Sub.fst (Sub.whole _))))) (fun _ => rfl) (fun _ _ => rfl))
def _root_.Go.Api.Act29.ok (y : Api.Act29) : Prop := I64 y.kind ∧ I64 y.a ∧ I64 y.b ∧ I64 y.c
def _root_.Go.Api.RtView.tup (y : Api.RtView) := (y.t, y.u, y.i, ())
def tyRtView : Ty Api.RtView := Ty.co (Ty.pair tyRTg (Ty.pair tyUnt (Ty.pair tyIns Ty.unit))) Api.RtView.tup
instance : SubS tyRtView 0 tyRTg Api.RtView.t (fun z y => { y with t := z }) := ⟨(Sub.co (Sub.fst (Sub.whole _)) (fun _ => rfl) (fun _ _ => rfl))⟩
instance (priority := 50) : Sub tyRtView 0 tyRTg Api.RtView.t (fun z y => { y with t := z }) := SubS.s
instance : Sub tyRtView 0 (Ty.slice tyLayout) (fun y => y.t.classes) (fun z y => { y with t := { y.t with classes := z } }) := (Sub.co (Sub.fst ((Sub.co (Sub.fst (Sub.whole _)) (fun _ => rfl) (fun _ _ => rfl) : Sub tyRTg 0 (Ty.slice tyLayout) Api.RTg.classes (fun z y => { y with classes := z })))) (fun _ => rfl) (fun _ _ => rfl))
instance : Sub tyRtView 1 (Ty.slice Ty.int) (fun y => y.t.globals) (fun z y => { y with t := { y.t with globals := z } }) := (Sub.co (Sub.fst ((Sub.co (Sub.snd (Sub.fst (Sub.whole _))) (fun _ => rfl) (fun _ _ => rfl) : Sub tyRTg 1 (Ty.slice Ty.int) Api.RTg.globals (fun z y => { y with globals := z })))) (fun _ => rfl) (fun _ _ => rfl))
instance : Sub tyRtView 2 (Ty.slice tyUnt) (fun y => y.t.units) (fun z y => { y with t := { y.t with units := z } }) := (Sub.co (Sub.fst ((Sub.co (Sub.snd (Sub.snd (Sub.fst (Sub.whole _)))) (fun _ => rfl) (fun _ _ => rfl) : Sub tyRTg 2 (Ty.slice tyUnt) Api.RTg.units (fun z y => { y with units := z })))) (fun _ => rfl) (fun _ _ => rfl))
instance : Sub tyRtView 3 Ty.int (fun y => y.t.main) (fun z y => { y with t := { y.t with main := z } }) := (Sub.co (Sub.fst ((Sub.co (Sub.snd (Sub.snd (Sub.snd (Sub.fst (Sub.whole _))))) (fun _ => rfl) (fun _ _ => rfl) : Sub tyRTg 3 Ty.int Api.RTg.main (fun z y => { y with main := z })))) (fun _ => rfl) (fun _ _ => rfl))
instance : SubS tyRtView 4 tyUnt Api.RtView.u (fun z y => { y with u := z }) := ⟨(Sub.co (Sub.snd (Sub.fst (Sub.whole _))) (fun _ => rfl) (fun _ _ => rfl))⟩
instance (priority := 50) : Sub tyRtView 4 tyUnt Api.RtView.u (fun z y => { y with u := z }) := SubS.s
instance : Sub tyRtView 4 Ty.int (fun y => y.u.params) (fun z y => { y with u := { y.u with params := z } }) := (Sub.co (Sub.snd (Sub.fst ((Sub.co (Sub.fst (Sub.whole _)) (fun _ => rfl) (fun _ _ => rfl) : Sub tyUnt 0 Ty.int Api.Unt.params (fun z y => { y with params := z }))))) (fun _ => rfl) (fun _ _ => rfl))
instance : Sub tyRtView 5 (Ty.slice Ty.int) (fun y => y.u.vars) (fun z y => { y with u := { y.u with vars := z } }) := (Sub.co (Sub.snd (Sub.fst ((Sub.co (Sub.snd (Sub.fst (Sub.whole _))) (fun _ => rfl) (fun _ _ => rfl) : Sub tyUnt 1 (Ty.slice Ty.int) Api.Unt.vars (fun z y => { y with vars := z }))))) (fun _ => rfl) (fun _ _ => rfl))
instance : Sub tyRtView 6 Ty.int (fun y => y.u.result) (fun z y => { y with u := { y.u with result := z } }) := (Sub.co (Sub.snd (Sub.fst ((Sub.co (Sub.snd (Sub.snd (Sub.fst (Sub.whole _)))) (fun _ => rfl) (fun _ _ => rfl) : Sub tyUnt 2 Ty.int Api.Unt.result (fun z y => { y with result := z }))))) (fun _ => rfl) (fun _ _ => rfl))
instance : Sub tyRtView 7 (Ty.slice Ty.int) (fun y => y.u.takes) (fun z y => { y with u := { y.u with takes := z } }) := (Sub.co (Sub.snd (Sub.fst ((Sub.co (Sub.snd (Sub.snd (Sub.snd (Sub.fst (Sub.whole _))))) (fun _ => rfl) (fun _ _ => rfl) : Sub tyUnt 3 (Ty.slice Ty.int) Api.Unt.takes (fun z y => { y with takes := z }))))) (fun _ => rfl) (fun _ _ => rfl))
instance : Sub tyRtView 8 (Ty.slice Ty.int) (fun y => y.u.owns) (fun z y => { y with u := { y.u with owns := z } }) := (Sub.co (Sub.snd (Sub.fst ((Sub.co (Sub.snd (Sub.snd (Sub.snd (Sub.snd (Sub.fst (Sub.whole _)))))) (fun _ => rfl) (fun _ _ => rfl) : Sub tyUnt 4 (Ty.slice Ty.int) Api.Unt.owns (fun z y => { y with owns := z }))))) (fun _ => rfl) (fun _ _ => rfl))
instance : Sub tyRtView 9 (Ty.slice tyIns) (fun y => y.u.ins) (fun z y => { y with u := { y.u with ins := z } }) := (Sub.co (Sub.snd (Sub.fst ((Sub.co (Sub.snd (Sub.snd (Sub.snd (Sub.snd (Sub.snd (Sub.fst (Sub.whole _))))))) (fun _ => rfl) (fun _ _ => rfl) : Sub tyUnt 5 (Ty.slice tyIns) Api.Unt.ins (fun z y => { y with ins := z }))))) (fun _ => rfl) (fun _ _ => rfl))
instance : SubS tyRtView 10 tyIns Api.RtView.i (fun z y => { y with i := z }) := ⟨(Sub.co (Sub.snd (Sub.snd (Sub.fst (Sub.whole _)))) (fun _ => rfl) (fun _ _ => rfl))⟩
instance (priority := 50) : Sub tyRtView 10 tyIns Api.RtView.i (fun z y => { y with i := z }) := SubS.s
instance : Sub tyRtView 10 Ty.int (fun y => y.i.op) (fun z y => { y with i := { y.i with op := z } }) := (Sub.co (Sub.snd (Sub.snd (Sub.fst ((Sub.co (Sub.fst (Sub.whole _)) (fun _ => rfl) (fun _ _ => rfl) : Sub tyIns 0 Ty.int Api.Ins.op (fun z y => { y with op := z })))))) (fun _ => rfl) (fun _ _ => rfl))
instance : Sub tyRtView 11 Ty.int (fun y => y.i.a) (fun z y => { y with i := { y.i with a := z } }) := (Sub.co (Sub.snd (Sub.snd (Sub.fst ((Sub.co (Sub.snd (Sub.fst (Sub.whole _))) (fun _ => rfl) (fun _ _ => rfl) : Sub tyIns 1 Ty.int Api.Ins.a (fun z y => { y with a := z })))))) (fun _ => rfl) (fun _ _ => rfl))
instance : Sub tyRtView 12 Ty.int (fun y => y.i.b) (fun z y => { y with i := { y.i with b := z } }) := (Sub.co (Sub.snd (Sub.snd (Sub.fst ((Sub.co (Sub.snd (Sub.snd (Sub.fst (Sub.whole _)))) (fun _ => rfl) (fun _ _ => rfl) : Sub tyIns 2 Ty.int Api.Ins.b (fun z y => { y with b := z })))))) (fun _ => rfl) (fun _ _ => rfl))
instance : Sub tyRtView 13 Ty.int (fun y => y.i.c) (fun z y => { y with i := { y.i with c := z } }) := (Sub.co (Sub.snd (Sub.snd (Sub.fst ((Sub.co (Sub.snd (Sub.snd (Sub.snd (Sub.fst (Sub.whole _))))) (fun _ => rfl) (fun _ _ => rfl) : Sub tyIns 3 Ty.int Api.Ins.c (fun z y => { y with c := z })))))) (fun _ => rfl) (fun _ _ => rfl))
instance : Sub tyRtView 14 Ty.int (fun y => y.i.n) (fun z y => { y with i := { y.i with n := z } }) := (Sub.co (Sub.snd (Sub.snd (Sub.fst ((Sub.co (Sub.snd (Sub.snd (Sub.snd (Sub.snd (Sub.fst (Sub.whole _)))))) (fun _ => rfl) (fun _ _ => rfl) : Sub tyIns 4 Ty.int Api.Ins.n (fun z y => { y with n := z })))))) (fun _ => rfl) (fun _ _ => rfl))
instance : Sub tyRtView 15 (Ty.slice Ty.int) (fun y => y.i.args) (fun z y => { y with i := { y.i with args := z } }) := (Sub.co (Sub.snd (Sub.snd (Sub.fst ((Sub.co (Sub.snd (Sub.snd (Sub.snd (Sub.snd (Sub.snd (Sub.fst (Sub.whole _))))))) (fun _ => rfl) (fun _ _ => rfl) : Sub tyIns 5 (Ty.slice Ty.int) Api.Ins.args (fun z y => { y with args := z })))))) (fun _ => rfl) (fun _ _ => rfl))
def _root_.Go.Api.RtView.ok (y : Api.RtView) : Prop := Go.Api.RTg.ok y.t ∧ Go.Api.Unt.ok y.u ∧ Go.Api.Ins.ok y.i
def _root_.Go.Api.Region.tup (y : Api.Region) := (y.live, y.many, ())
def tyRegion : Ty Api.Region := Ty.co (Ty.pair Ty.bool (Ty.pair Ty.int Ty.unit)) Api.Region.tup
instance : Sub tyRegion 0 Ty.bool Api.Region.live (fun z y => { y with live := z }) := (Sub.co (Sub.fst (Sub.whole _)) (fun _ => rfl) (fun _ _ => rfl))
instance : Sub tyRegion 1 Ty.int Api.Region.many (fun z y => { y with many := z }) := (Sub.co (Sub.snd (Sub.fst (Sub.whole _))) (fun _ => rfl) (fun _ _ => rfl))
def _root_.Go.Api.Region.ok (y : Api.Region) : Prop := I64 y.many
end Go.GX

/- Programs as bytes, plainly. No program in sight. -/
namespace Go.NumM
open Go Go.GX Go.Api

def encs (l : List Int) : List Int := l.flatMap num
theorem encs_nil : encs [] = [] := rfl
theorem encs_one (x : Int) : encs [x] = num x := by simp [encs]
theorem encs_cons (x : Int) (l : List Int) : encs (x :: l) = num x ++ encs l := by simp [encs]
theorem encs_app (l m : List Int) : encs (l ++ m) = encs l ++ encs m := by simp [encs]
theorem encs_snoc {l : List Int} {i : Nat} {x : Int} (h : l[i]? = some x) : encs (l.take (i + 1)) = encs (l.take i) ++ num x := by rw [List.take_add_one, h, encs_app]; simp [encs]
theorem encs_take (l : List Int) (i : Nat) : (encs (l.take i)).length ≤ (encs l).length := by
  have := congrArg List.length (congrArg encs (List.take_append_drop i l))
  rw [encs_app, List.length_append] at this; omega
def encL (l : List Int) : List Int := num l.length ++ encs l
def encC (c : Layout) : List Int := num (if c.arr = true then 1 else 0) ++ encL c.refs
def encI (i : Ins) : List Int := encs [i.op, i.a, i.b, i.c, i.n] ++ encL i.args
def encU (u : Unt) : List Int := num u.params ++ (encL u.vars ++ (num u.result ++ (encL u.takes ++ (encL u.owns ++ (num u.ins.length ++ u.ins.flatMap encI)))))
def encT (t : RTg) : List Int := num t.classes.length ++ (t.classes.flatMap encC ++ (encL t.globals ++ (num t.units.length ++ (t.units.flatMap encU ++ num t.main))))
theorem fm_snoc {α : Type} {f : α → List Int} {l : List α} {i : Nat} {x : α} (h : l[i]? = some x) : (l.take (i + 1)).flatMap f = (l.take i).flatMap f ++ f x := by rw [List.take_add_one, h, List.flatMap_append]; simp
theorem fm_take {α : Type} (f : α → List Int) (l : List α) (i : Nat) : ((l.take i).flatMap f).length ≤ (l.flatMap f).length := by
  have := congrArg (fun m => (m.flatMap f).length) (List.take_append_drop i l)
  simp only [List.flatMap_append, List.length_append] at this
  omega
end Go.NumM
