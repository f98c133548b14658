/-
  DERIVED. GIVEN WITH THE SEED: THE CARDS: each row of YtgembejpiecfcaaGreatDoorRows.lean that lists a variable, with what it lists TIED to the program's text (the seventh form; the later family's looks); each row that meets fmt, with fmt's text TOLD by the authors' own Lean function (tested against real Go, not proved from fmt's source: count such statements apart). THE CARD IS WHAT COUNTS. Prove the row's statement (the work); the ties are given (YtgembejpiecfcaaGreatDoorTie.lean); close each card by the builder's one call (the guide's Derived/Test/ToyasCard.lean, 'card_holds'). Laid BY PROGRAM, IN A SANDBOX (cutbox-door.mjs). By AI agents, Wed Nov 11 2026. No macro, syntax, notation, axiom, sorry.
-/
import Derived.Test.YtgembejpiecfcaaGreatDoorRows
import GoSem.ClaimSeven
namespace Go.Proofs.YtgembejpiecfcaaGreatDoor
namespace Rows

/-- THE TIED CARD OF 'bringuplaw07.PrintAnswers'. -/
def printAnswersCard : Claim7 := { stood := { row := printAnswersRow, standIns := [], harness := (true, "a77a741b932368eb341f81077b62582d134cc676ddbe54da4ede2b78035c8c6f"), looks := false }, kinds := [], alts := [], laidByText := true, laidKinds := [.data, .data, .data, .data, .pinned], laidTests := true, laidLooks := .later }
def PrintAnswersCardSaid : Prop := Claim7.holds Tryz.pinned (.plain (OpenSpec.ofChange printAnswersSpec)) printAnswersCard

/-- THE TIED CARD OF 'bringuplaw07.PrintBack'. -/
def printBackCard : Claim7 := { stood := { row := printBackRow, standIns := [], harness := (true, "a77a741b932368eb341f81077b62582d134cc676ddbe54da4ede2b78035c8c6f"), looks := false }, kinds := [], alts := [], laidByText := true, laidKinds := [.data, .data, .data, .data, .pinned], laidTests := true, laidLooks := .later }
def PrintBackCardSaid : Prop := Claim7.holds Tryz.pinned (.plain (OpenSpec.ofChange printBackSpec)) printBackCard

/-- THE TIED CARD OF 'bringuplaw07.PrintValues'. -/
def printValuesCard : Claim7 := { stood := { row := printValuesRow, standIns := [], harness := (true, "a77a741b932368eb341f81077b62582d134cc676ddbe54da4ede2b78035c8c6f"), looks := false }, kinds := [], alts := [], laidByText := true, laidKinds := [.data, .data, .data, .data, .pinned], laidTests := true, laidLooks := .later }
def PrintValuesCardSaid : Prop := Claim7.holds Tryz.pinned (.plain (OpenSpec.ofChange printValuesSpec)) printValuesCard

/-- THE TIED CARD OF 'bringuplaw07.PrintDiffers'. -/
def printDiffersCard : Claim7 := { stood := { row := printDiffersRow, standIns := [], harness := (true, "a77a741b932368eb341f81077b62582d134cc676ddbe54da4ede2b78035c8c6f"), looks := false }, kinds := [], alts := [], laidByText := true, laidKinds := [.data, .data, .data, .data, .pinned], laidTests := true, laidLooks := .later }
def PrintDiffersCardSaid : Prop := Claim7.holds Tryz.pinned (.plain (OpenSpec.ofChange printDiffersSpec)) printDiffersCard

/-- THE TIED CARD OF 'bringuplaw07.PrintNumbers'. -/
def printNumbersCard : Claim7 := { stood := { row := printNumbersRow, standIns := [], harness := (true, "a77a741b932368eb341f81077b62582d134cc676ddbe54da4ede2b78035c8c6f"), looks := false }, kinds := [], alts := [], laidByText := true, laidKinds := [.data, .data, .data, .data, .pinned], laidTests := true, laidLooks := .later }
def PrintNumbersCardSaid : Prop := Claim7.holds Tryz.pinned (.plain (OpenSpec.ofChange printNumbersSpec)) printNumbersCard

/-- THE SECOND FORM's CARD OF 'bringuplaw07.PrintAnswers'. -/
def printAnswersUptoCard : Claim7 := { stood := { row := printAnswersUptoRow, standIns := [], harness := (true, "a77a741b932368eb341f81077b62582d134cc676ddbe54da4ede2b78035c8c6f"), looks := false }, kinds := [], alts := [], laidByText := true, laidKinds := [.data, .data, .data, .data, .pinned], laidTests := true, laidLooks := .later }
def PrintAnswersUptoCardSaid : Prop := Claim7.holds Tryz.pinned (.plain (OpenSpec.upto printAnswersSpec)) printAnswersUptoCard

/-- THE SECOND FORM's CARD OF 'bringuplaw07.PrintBack'. -/
def printBackUptoCard : Claim7 := { stood := { row := printBackUptoRow, standIns := [], harness := (true, "a77a741b932368eb341f81077b62582d134cc676ddbe54da4ede2b78035c8c6f"), looks := false }, kinds := [], alts := [], laidByText := true, laidKinds := [.data, .data, .data, .data, .pinned], laidTests := true, laidLooks := .later }
def PrintBackUptoCardSaid : Prop := Claim7.holds Tryz.pinned (.plain (OpenSpec.upto printBackSpec)) printBackUptoCard

/-- THE SECOND FORM's CARD OF 'bringuplaw07.PrintValues'. -/
def printValuesUptoCard : Claim7 := { stood := { row := printValuesUptoRow, standIns := [], harness := (true, "a77a741b932368eb341f81077b62582d134cc676ddbe54da4ede2b78035c8c6f"), looks := false }, kinds := [], alts := [], laidByText := true, laidKinds := [.data, .data, .data, .data, .pinned], laidTests := true, laidLooks := .later }
def PrintValuesUptoCardSaid : Prop := Claim7.holds Tryz.pinned (.plain (OpenSpec.upto printValuesSpec)) printValuesUptoCard

/-- THE SECOND FORM's CARD OF 'bringuplaw07.PrintDiffers'. -/
def printDiffersUptoCard : Claim7 := { stood := { row := printDiffersUptoRow, standIns := [], harness := (true, "a77a741b932368eb341f81077b62582d134cc676ddbe54da4ede2b78035c8c6f"), looks := false }, kinds := [], alts := [], laidByText := true, laidKinds := [.data, .data, .data, .data, .pinned], laidTests := true, laidLooks := .later }
def PrintDiffersUptoCardSaid : Prop := Claim7.holds Tryz.pinned (.plain (OpenSpec.upto printDiffersSpec)) printDiffersUptoCard

/-- THE SECOND FORM's CARD OF 'bringuplaw07.PrintNumbers'. -/
def printNumbersUptoCard : Claim7 := { stood := { row := printNumbersUptoRow, standIns := [], harness := (true, "a77a741b932368eb341f81077b62582d134cc676ddbe54da4ede2b78035c8c6f"), looks := false }, kinds := [], alts := [], laidByText := true, laidKinds := [.data, .data, .data, .data, .pinned], laidTests := true, laidLooks := .later }
def PrintNumbersUptoCardSaid : Prop := Claim7.holds Tryz.pinned (.plain (OpenSpec.upto printNumbersSpec)) printNumbersUptoCard
end Rows
end Go.Proofs.YtgembejpiecfcaaGreatDoor
