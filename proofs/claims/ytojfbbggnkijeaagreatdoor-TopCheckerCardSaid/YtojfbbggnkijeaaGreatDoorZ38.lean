import Derived.Test.YtojfbbggnkijeaaGreatDoorRows
import Derived.LaidByTextLater
import Derived.SevenTiedAt
set_option linter.all false
namespace Go.Proofs.YtojfbbggnkijeaaGreatDoor
open Go
abbrev theLaid:List (String×DataW Unit):=[("strings.asciiSpace",Rows.laid_strings_asciiSpace),("unicode.White_Space",Rows.laid_unicode_White_Space),("strconv.ErrSyntax",Rows.laid_strconv_ErrSyntax),("strconv.ErrRange",Rows.laid_strconv_ErrRange),("internal/strconv.uint64pow10",Rows.laid_internal_strconv_uint64pow10),("math/bits.deBruijn32tab",Rows.laid_math_bits_deBruijn32tab),("math/bits.deBruijn64tab",Rows.laid_math_bits_deBruijn64tab)]
abbrev theKinds:List LaidKind:=[.data,.listed,.sentinel,.sentinel,.data,.data,.data]
theorem tie1:Tryz.prog.worded (varsWordLater true)=true:=by kernel_rfl
theorem tie2:Tryz.prog.worded (varsWordLater !true)=false:=by kernel_rfl
theorem tie3:Tryz.prog.worded rootWordLater=true:=by kernel_rfl
theorem tie4:theLaid.map (fun x=>Tryz.prog.kindOfLater x.1)=theKinds.map some:=by kernel_rfl
theorem tie5:(Tryz.prog.funcNamed "gosem.cut.vars").isSome=true:=by kernel_rfl
theorem tie7:∀os tape,varsDone Tryz.prog 400 (varsId Tryz.prog) os tape=true:=fun _ _=>by kernel_rfl
theorem tieUnsafe:Tryz.pinned.checked.prog.headLifts.contains "ownunsafe"=false:=by kernel_rfl
end Go.Proofs.YtojfbbggnkijeaaGreatDoor
