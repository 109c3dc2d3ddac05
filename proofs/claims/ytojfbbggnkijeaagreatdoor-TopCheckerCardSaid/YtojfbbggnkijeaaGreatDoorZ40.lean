import Derived.Test.YtojfbbggnkijeaaGreatDoorZ38
set_option linter.all false
namespace Go.Proofs.YtojfbbggnkijeaaGreatDoor
open Go
theorem tie8:∀os tape,(DataW.laidRun Tryz.prog (varsWorld Tryz.prog 400 (varsId Tryz.prog) os tape).memory 8 (theLaid.map (·.1))).map (·.1)=some theLaid:=fun _ _=>by kernel_rfl
end Go.Proofs.YtojfbbggnkijeaaGreatDoor
