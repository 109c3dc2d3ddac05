/-
  DERIVED. GIVEN WITH THE SEED: THE CARDS: each row of YtojfbbggnkijeaaGreatDoorRows.lean that lists a variable, with what it lists TIED to the program's text (the seventh form; the later family's looks); each row that meets fmt, with fmt's text TOLD by the authors' own Lean function (tested against real Go, not proved from fmt's source: count such statements apart). THE CARD IS WHAT COUNTS. Prove the row's statement (the work); the ties are given (YtojfbbggnkijeaaGreatDoorTie.lean); close each card by the builder's one call (the guide's Derived/Test/ToyasCard.lean, 'card_holds'). Laid BY PROGRAM, IN A SANDBOX (cutbox-door.mjs). By AI agents, Wed Nov 11 2026. No macro, syntax, notation, axiom, sorry.
-/
import Derived.Test.YtojfbbggnkijeaaGreatDoorRows
import GoSem.ClaimSeven
namespace Go.Proofs.YtojfbbggnkijeaaGreatDoor
namespace Rows

/-- THE TIED CARD OF 'runrigtop.TopBytes'. -/
def topBytesCard : Claim7 := { stood := { row := topBytesRow, standIns := [], harness := (true, "4f5198dd606f3ccad2fa06530e4cf3ca7caf64e3fc01e343364cf3f3de2a7b50"), looks := true }, kinds := [], alts := [], laidByText := true, laidKinds := [.data, .listed, .sentinel, .sentinel, .data, .data, .data], laidTests := true, laidLooks := .later }
def TopBytesCardSaid : Prop := Claim7.holds Tryz.pinned (.plain (OpenSpec.ofChange topBytesSpec)) topBytesCard

/-- THE TIED CARD OF 'runrigtop.TopChecker'. -/
def topCheckerCard : Claim7 := { stood := { row := topCheckerRow, standIns := [], harness := (true, "4f5198dd606f3ccad2fa06530e4cf3ca7caf64e3fc01e343364cf3f3de2a7b50"), looks := true }, kinds := [], alts := [], laidByText := true, laidKinds := [.data, .listed, .sentinel, .sentinel, .data, .data, .data], laidTests := true, laidLooks := .later }
def TopCheckerCardSaid : Prop := Claim7.holds Tryz.pinned (.plain (OpenSpec.ofChange topCheckerSpec)) topCheckerCard

/-- THE TIED CARD OF 'runrigtop.TopWhole'. -/
def topWholeCard : Claim7 := { stood := { row := topWholeRow, standIns := [], harness := (true, "4f5198dd606f3ccad2fa06530e4cf3ca7caf64e3fc01e343364cf3f3de2a7b50"), looks := true }, kinds := [], alts := [], laidByText := true, laidKinds := [.data, .listed, .sentinel, .sentinel, .data, .data, .data], laidTests := true, laidLooks := .later }
def TopWholeCardSaid : Prop := Claim7.holds Tryz.pinned (.plain (OpenSpec.ofChange topWholeSpec)) topWholeCard

/-- THE SECOND FORM's CARD OF 'runrigtop.TopBytes'. -/
def topBytesUptoCard : Claim7 := { stood := { row := topBytesUptoRow, standIns := [], harness := (true, "4f5198dd606f3ccad2fa06530e4cf3ca7caf64e3fc01e343364cf3f3de2a7b50"), looks := true }, kinds := [], alts := [], laidByText := true, laidKinds := [.data, .listed, .sentinel, .sentinel, .data, .data, .data], laidTests := true, laidLooks := .later }
def TopBytesUptoCardSaid : Prop := Claim7.holds Tryz.pinned (.plain (OpenSpec.upto topBytesSpec)) topBytesUptoCard

/-- THE SECOND FORM's CARD OF 'runrigtop.TopChecker'. -/
def topCheckerUptoCard : Claim7 := { stood := { row := topCheckerUptoRow, standIns := [], harness := (true, "4f5198dd606f3ccad2fa06530e4cf3ca7caf64e3fc01e343364cf3f3de2a7b50"), looks := true }, kinds := [], alts := [], laidByText := true, laidKinds := [.data, .listed, .sentinel, .sentinel, .data, .data, .data], laidTests := true, laidLooks := .later }
def TopCheckerUptoCardSaid : Prop := Claim7.holds Tryz.pinned (.plain (OpenSpec.upto topCheckerSpec)) topCheckerUptoCard

/-- THE SECOND FORM's CARD OF 'runrigtop.TopWhole'. -/
def topWholeUptoCard : Claim7 := { stood := { row := topWholeUptoRow, standIns := [], harness := (true, "4f5198dd606f3ccad2fa06530e4cf3ca7caf64e3fc01e343364cf3f3de2a7b50"), looks := true }, kinds := [], alts := [], laidByText := true, laidKinds := [.data, .listed, .sentinel, .sentinel, .data, .data, .data], laidTests := true, laidLooks := .later }
def TopWholeUptoCardSaid : Prop := Claim7.holds Tryz.pinned (.plain (OpenSpec.upto topWholeSpec)) topWholeUptoCard
end Rows
end Go.Proofs.YtojfbbggnkijeaaGreatDoor
