/-
  DERIVED. GIVEN WITH THE SEED: THE CARDS: each row of YtmbccnioijokfaaGreatDoorRows.lean that lists a variable, with what it lists TIED to the program's text (the seventh form; the later family's looks); each row that meets fmt, with fmt's text TOLD by the authors' own Lean function (tested against real Go, not proved from fmt's source: count such statements apart). THE CARD IS WHAT COUNTS. Prove the row's statement (the work); the ties are given (YtmbccnioijokfaaGreatDoorTie.lean); close each card by the builder's one call (the guide's Derived/Test/ToyasCard.lean, 'card_holds'). Laid BY PROGRAM, IN A SANDBOX (cutbox-door.mjs). By AI agents, Wed Nov 11 2026. No macro, syntax, notation, axiom, sorry.
-/
import Derived.Test.YtmbccnioijokfaaGreatDoorRows
import GoSem.ClaimSeven
namespace Go.Proofs.YtmbccnioijokfaaGreatDoor
namespace Rows

/-- THE TIED CARD OF 'brecciatop.TopSand'. -/
def topSandCard : Claim7 := { stood := { row := topSandRow, standIns := [], harness := (true, "a9af8d42a17ddd45de99b76b8bd8a4ad6b1f8688bbe86b4f6f6384a8ee85f17c"), looks := true }, kinds := [], alts := [], laidByText := true, laidKinds := [.data, .data, .data, .data, .pinned], laidTests := true, laidLooks := .later }
def TopSandCardSaid : Prop := Claim7.holds Tryz.pinned (.plain (OpenSpec.ofChange topSandSpec)) topSandCard

/-- THE TIED CARD OF 'brecciatop.TopWalls'. -/
def topWallsCard : Claim7 := { stood := { row := topWallsRow, standIns := [], harness := (true, "a9af8d42a17ddd45de99b76b8bd8a4ad6b1f8688bbe86b4f6f6384a8ee85f17c"), looks := true }, kinds := [], alts := [], laidByText := true, laidKinds := [.data, .data, .data, .data, .pinned], laidTests := true, laidLooks := .later }
def TopWallsCardSaid : Prop := Claim7.holds Tryz.pinned (.plain (OpenSpec.ofChange topWallsSpec)) topWallsCard

/-- THE TIED CARD OF 'brecciatop.TopFrozen'. -/
def topFrozenCard : Claim7 := { stood := { row := topFrozenRow, standIns := [], harness := (true, "a9af8d42a17ddd45de99b76b8bd8a4ad6b1f8688bbe86b4f6f6384a8ee85f17c"), looks := true }, kinds := [], alts := [], laidByText := true, laidKinds := [.data, .data, .data, .data, .pinned], laidTests := true, laidLooks := .later }
def TopFrozenCardSaid : Prop := Claim7.holds Tryz.pinned (.plain (OpenSpec.ofChange topFrozenSpec)) topFrozenCard

/-- THE TIED CARD OF 'brecciatop.TopSaved'. -/
def topSavedCard : Claim7 := { stood := { row := topSavedRow, standIns := [], harness := (true, "a9af8d42a17ddd45de99b76b8bd8a4ad6b1f8688bbe86b4f6f6384a8ee85f17c"), looks := true }, kinds := [], alts := [], laidByText := true, laidKinds := [.data, .data, .data, .data, .pinned], laidTests := true, laidLooks := .later }
def TopSavedCardSaid : Prop := Claim7.holds Tryz.pinned (.plain (OpenSpec.ofChange topSavedSpec)) topSavedCard

/-- THE SECOND FORM's CARD OF 'brecciatop.TopSand'. -/
def topSandUptoCard : Claim7 := { stood := { row := topSandUptoRow, standIns := [], harness := (true, "a9af8d42a17ddd45de99b76b8bd8a4ad6b1f8688bbe86b4f6f6384a8ee85f17c"), looks := true }, kinds := [], alts := [], laidByText := true, laidKinds := [.data, .data, .data, .data, .pinned], laidTests := true, laidLooks := .later }
def TopSandUptoCardSaid : Prop := Claim7.holds Tryz.pinned (.plain (OpenSpec.upto topSandSpec)) topSandUptoCard

/-- THE SECOND FORM's CARD OF 'brecciatop.TopWalls'. -/
def topWallsUptoCard : Claim7 := { stood := { row := topWallsUptoRow, standIns := [], harness := (true, "a9af8d42a17ddd45de99b76b8bd8a4ad6b1f8688bbe86b4f6f6384a8ee85f17c"), looks := true }, kinds := [], alts := [], laidByText := true, laidKinds := [.data, .data, .data, .data, .pinned], laidTests := true, laidLooks := .later }
def TopWallsUptoCardSaid : Prop := Claim7.holds Tryz.pinned (.plain (OpenSpec.upto topWallsSpec)) topWallsUptoCard

/-- THE SECOND FORM's CARD OF 'brecciatop.TopFrozen'. -/
def topFrozenUptoCard : Claim7 := { stood := { row := topFrozenUptoRow, standIns := [], harness := (true, "a9af8d42a17ddd45de99b76b8bd8a4ad6b1f8688bbe86b4f6f6384a8ee85f17c"), looks := true }, kinds := [], alts := [], laidByText := true, laidKinds := [.data, .data, .data, .data, .pinned], laidTests := true, laidLooks := .later }
def TopFrozenUptoCardSaid : Prop := Claim7.holds Tryz.pinned (.plain (OpenSpec.upto topFrozenSpec)) topFrozenUptoCard

/-- THE SECOND FORM's CARD OF 'brecciatop.TopSaved'. -/
def topSavedUptoCard : Claim7 := { stood := { row := topSavedUptoRow, standIns := [], harness := (true, "a9af8d42a17ddd45de99b76b8bd8a4ad6b1f8688bbe86b4f6f6384a8ee85f17c"), looks := true }, kinds := [], alts := [], laidByText := true, laidKinds := [.data, .data, .data, .data, .pinned], laidTests := true, laidLooks := .later }
def TopSavedUptoCardSaid : Prop := Claim7.holds Tryz.pinned (.plain (OpenSpec.upto topSavedSpec)) topSavedUptoCard
end Rows
end Go.Proofs.YtmbccnioijokfaaGreatDoor
