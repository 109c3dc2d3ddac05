import Derived.Test.YtojfbbggnkijeaaGreatDoorZ38
set_option linter.all false
namespace Go.Proofs.YtojfbbggnkijeaaGreatDoor
open Go
theorem tie9a:∀os tape,(DataW.laidRun Tryz.prog (varsWorld Tryz.prog 400 (varsId Tryz.prog) os tape).memory 8 (theLaid.map (·.1))).map (fun x=>decide x.2.Nodup)=some true:=fun _ _=>by kernel_rfl
theorem tie9b:∀os tape,(DataW.laidRun Tryz.prog (varsWorld Tryz.prog 400 (varsId Tryz.prog) os tape).memory 8 (theLaid.map (·.1))).map (fun x=>laidRowsB Tryz.prog (varsWorld Tryz.prog 400 (varsId Tryz.prog) os tape).memory x.2)=some true:=fun _ _=>by kernel_rfl
end Go.Proofs.YtojfbbggnkijeaaGreatDoor
