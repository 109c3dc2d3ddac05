import Derived.Test.YtojfbbggnkijeaaGreatDoorZ39
import Derived.Test.YtojfbbggnkijeaaGreatDoorZ40
import Derived.Test.YtojfbbggnkijeaaGreatDoorZ41
set_option linter.all false
namespace Go.Proofs.YtojfbbggnkijeaaGreatDoor
open Go
theorem tie9:∀os tape,(DataW.laidRun Tryz.prog (varsWorld Tryz.prog 400 (varsId Tryz.prog) os tape).memory 8 (theLaid.map (·.1))).map (fun x=>decide x.2.Nodup&&laidRowsB Tryz.prog (varsWorld Tryz.prog 400 (varsId Tryz.prog) os tape).memory x.2)=some true:=fun os tape=>by
 have h1:=tie9a os tape;have h2:=tie9b os tape
 cases hx:DataW.laidRun Tryz.prog (varsWorld Tryz.prog 400 (varsId Tryz.prog) os tape).memory 8 (theLaid.map (·.1)) with
 |none=>rw[hx] at h1;cases h1
 |some x=>
  rw[hx] at h1 h2;simp only[Option.map_some,Option.some.injEq] at h1 h2 ⊢;rw[h1,h2];rfl
theorem ownTie:Tryz.prog.laidByTextLater theLaid theKinds true:=
 Program.laidByTextLater_by_run 400 8 tie1 tie2 tie3 tie4 tie5 tie6 tie7 tie8 tie9
theorem checkerTie:Rows.topCheckerRow.laidByTextAt .later Tryz.pinned theKinds true:=OpenClaim.laidByTextAt_later rfl rfl ownTie tieUnsafe
end Go.Proofs.YtojfbbggnkijeaaGreatDoor
