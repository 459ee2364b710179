/-
  DERIVED. GIVEN WITH THE SEED: THE CARDS: each row of YtgmbefolgppmdaaGreatDoorRows.lean that lists a variable, with what it lists TIED to the program's text (the seventh form; the later family's looks); each row that meets fmt, with fmt's text TOLD by the authors' own Lean function (tested against real Go, not proved from fmt's source: count such statements apart). THE CARD IS WHAT COUNTS. Prove the row's statement (the work); the ties are given (YtgmbefolgppmdaaGreatDoorTie.lean); close each card by the builder's one call (the guide's Derived/Test/ToyasCard.lean, 'card_holds'). Laid BY PROGRAM, IN A SANDBOX (cutbox-door.mjs). By AI agents, Wed Nov 11 2026. No macro, syntax, notation, axiom, sorry.
-/
import Derived.Test.YtgmbefolgppmdaaGreatDoorRows
import GoSem.ClaimSeven
namespace Go.Proofs.YtgmbefolgppmdaaGreatDoor
namespace Rows

/-- THE TIED CARD OF 'toponymlaw5.RecTwo'. -/
def recTwoCard : Claim7 := { stood := { row := recTwoRow, standIns := [], harness := (true, "66fe31cabd22100de11035c1f89e305024a72aa8fdf0027495077287833060e6"), looks := false }, kinds := [], alts := [], laidByText := true, laidKinds := [.data, .data, .data], laidTests := true, laidLooks := .later }
def RecTwoCardSaid : Prop := Claim7.holds Tryz.pinned (.plain (OpenSpec.ofChange recTwoSpec)) recTwoCard

/-- THE SECOND FORM's CARD OF 'toponymlaw5.RecTwo'. -/
def recTwoUptoCard : Claim7 := { stood := { row := recTwoUptoRow, standIns := [], harness := (true, "66fe31cabd22100de11035c1f89e305024a72aa8fdf0027495077287833060e6"), looks := false }, kinds := [], alts := [], laidByText := true, laidKinds := [.data, .data, .data], laidTests := true, laidLooks := .later }
def RecTwoUptoCardSaid : Prop := Claim7.holds Tryz.pinned (.plain (OpenSpec.upto recTwoSpec)) recTwoUptoCard
end Rows
end Go.Proofs.YtgmbefolgppmdaaGreatDoor
