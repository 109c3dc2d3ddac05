import Derived.Test.YtojfbbggnkijeaaGreatDoorZ38
set_option linter.all false
namespace Go.Proofs.YtojfbbggnkijeaaGreatDoor
open Go
theorem tie6:varsNamedLaterB Tryz.prog (varsId Tryz.prog) theLaid=true:=by kernel_rfl
end Go.Proofs.YtojfbbggnkijeaaGreatDoor
