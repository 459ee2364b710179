/-
  DERIVED. GIVEN WITH THE SEED: THE CARDS: each row of YtbgbahllhjelgaaGreatDoorRows.lean that lists a variable, with what it lists TIED to the program's text (the seventh form; the later family's looks); each row that meets fmt, with fmt's text TOLD by the authors' own Lean function (tested against real Go, not proved from fmt's source: count such statements apart). THE CARD IS WHAT COUNTS. Prove the row's statement (the work); the ties are given (YtbgbahllhjelgaaGreatDoorTie.lean); close each card by the builder's one call (the guide's Derived/Test/ToyasCard.lean, 'card_holds'). Laid BY PROGRAM, IN A SANDBOX (cutbox-door.mjs). By AI agents, Wed Nov 11 2026. No macro, syntax, notation, axiom, sorry.
-/
import Derived.Test.YtbgbahllhjelgaaGreatDoorRows
import GoSem.ClaimSeven
namespace Go.Proofs.YtbgbahllhjelgaaGreatDoor
namespace Rows

/-- THE TIED CARD OF 'toponymlaw5.RecTwo'. -/
def recTwoCard : Claim7 := { stood := { row := recTwoRow, standIns := [], harness := (true, "5e797072f9bcc0fbaf86e8e962f33e726284666c77411640a9abd1e44bac21fb"), looks := false }, kinds := [], alts := [], laidByText := true, laidKinds := [.data, .data, .data], laidTests := true, laidLooks := .later }
def RecTwoCardSaid : Prop := Claim7.holds Tryz.pinned (.plain (OpenSpec.ofChange recTwoSpec)) recTwoCard

/-- THE TIED CARD OF 'toponymlaw5.RecCanon'. -/
def recCanonCard : Claim7 := { stood := { row := recCanonRow, standIns := [], harness := (true, "5e797072f9bcc0fbaf86e8e962f33e726284666c77411640a9abd1e44bac21fb"), looks := false }, kinds := [], alts := [], laidByText := true, laidKinds := [.data, .data, .data], laidTests := true, laidLooks := .later }
def RecCanonCardSaid : Prop := Claim7.holds Tryz.pinned (.plain (OpenSpec.ofChange recCanonSpec)) recCanonCard

/-- THE TIED CARD OF 'toponymlaw5.RecTurned'. -/
def recTurnedCard : Claim7 := { stood := { row := recTurnedRow, standIns := [], harness := (true, "5e797072f9bcc0fbaf86e8e962f33e726284666c77411640a9abd1e44bac21fb"), looks := false }, kinds := [], alts := [], laidByText := true, laidKinds := [.data, .data, .data], laidTests := true, laidLooks := .later }
def RecTurnedCardSaid : Prop := Claim7.holds Tryz.pinned (.plain (OpenSpec.ofChange recTurnedSpec)) recTurnedCard

/-- THE TIED CARD OF 'toponymlaw5.RecMerge'. -/
def recMergeCard : Claim7 := { stood := { row := recMergeRow, standIns := [], harness := (true, "5e797072f9bcc0fbaf86e8e962f33e726284666c77411640a9abd1e44bac21fb"), looks := false }, kinds := [], alts := [], laidByText := true, laidKinds := [.data, .data, .data], laidTests := true, laidLooks := .later }
def RecMergeCardSaid : Prop := Claim7.holds Tryz.pinned (.plain (OpenSpec.ofChange recMergeSpec)) recMergeCard

/-- THE TIED CARD OF 'toponymlaw5.RecStands'. -/
def recStandsCard : Claim7 := { stood := { row := recStandsRow, standIns := [], harness := (true, "5e797072f9bcc0fbaf86e8e962f33e726284666c77411640a9abd1e44bac21fb"), looks := false }, kinds := [], alts := [], laidByText := true, laidKinds := [.data, .data, .data], laidTests := true, laidLooks := .later }
def RecStandsCardSaid : Prop := Claim7.holds Tryz.pinned (.plain (OpenSpec.ofChange recStandsSpec)) recStandsCard

/-- THE SECOND FORM's CARD OF 'toponymlaw5.RecTwo'. -/
def recTwoUptoCard : Claim7 := { stood := { row := recTwoUptoRow, standIns := [], harness := (true, "5e797072f9bcc0fbaf86e8e962f33e726284666c77411640a9abd1e44bac21fb"), looks := false }, kinds := [], alts := [], laidByText := true, laidKinds := [.data, .data, .data], laidTests := true, laidLooks := .later }
def RecTwoUptoCardSaid : Prop := Claim7.holds Tryz.pinned (.plain (OpenSpec.upto recTwoSpec)) recTwoUptoCard

/-- THE SECOND FORM's CARD OF 'toponymlaw5.RecCanon'. -/
def recCanonUptoCard : Claim7 := { stood := { row := recCanonUptoRow, standIns := [], harness := (true, "5e797072f9bcc0fbaf86e8e962f33e726284666c77411640a9abd1e44bac21fb"), looks := false }, kinds := [], alts := [], laidByText := true, laidKinds := [.data, .data, .data], laidTests := true, laidLooks := .later }
def RecCanonUptoCardSaid : Prop := Claim7.holds Tryz.pinned (.plain (OpenSpec.upto recCanonSpec)) recCanonUptoCard

/-- THE SECOND FORM's CARD OF 'toponymlaw5.RecTurned'. -/
def recTurnedUptoCard : Claim7 := { stood := { row := recTurnedUptoRow, standIns := [], harness := (true, "5e797072f9bcc0fbaf86e8e962f33e726284666c77411640a9abd1e44bac21fb"), looks := false }, kinds := [], alts := [], laidByText := true, laidKinds := [.data, .data, .data], laidTests := true, laidLooks := .later }
def RecTurnedUptoCardSaid : Prop := Claim7.holds Tryz.pinned (.plain (OpenSpec.upto recTurnedSpec)) recTurnedUptoCard

/-- THE SECOND FORM's CARD OF 'toponymlaw5.RecMerge'. -/
def recMergeUptoCard : Claim7 := { stood := { row := recMergeUptoRow, standIns := [], harness := (true, "5e797072f9bcc0fbaf86e8e962f33e726284666c77411640a9abd1e44bac21fb"), looks := false }, kinds := [], alts := [], laidByText := true, laidKinds := [.data, .data, .data], laidTests := true, laidLooks := .later }
def RecMergeUptoCardSaid : Prop := Claim7.holds Tryz.pinned (.plain (OpenSpec.upto recMergeSpec)) recMergeUptoCard

/-- THE SECOND FORM's CARD OF 'toponymlaw5.RecStands'. -/
def recStandsUptoCard : Claim7 := { stood := { row := recStandsUptoRow, standIns := [], harness := (true, "5e797072f9bcc0fbaf86e8e962f33e726284666c77411640a9abd1e44bac21fb"), looks := false }, kinds := [], alts := [], laidByText := true, laidKinds := [.data, .data, .data], laidTests := true, laidLooks := .later }
def RecStandsUptoCardSaid : Prop := Claim7.holds Tryz.pinned (.plain (OpenSpec.upto recStandsSpec)) recStandsUptoCard
end Rows
end Go.Proofs.YtbgbahllhjelgaaGreatDoor
