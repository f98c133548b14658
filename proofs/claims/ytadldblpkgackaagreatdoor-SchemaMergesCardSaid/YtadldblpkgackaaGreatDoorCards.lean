/-
  DERIVED. GIVEN WITH THE SEED: THE CARDS: each row of YtadldblpkgackaaGreatDoorRows.lean that lists a variable, with what it lists TIED to the program's text (the seventh form; the later family's looks); each row that meets fmt, with fmt's text TOLD by the authors' own Lean function (tested against real Go, not proved from fmt's source: count such statements apart). THE CARD IS WHAT COUNTS. Prove the row's statement (the work); the ties are given (YtadldblpkgackaaGreatDoorTie.lean); close each card by the builder's one call (the guide's Derived/Test/ToyasCard.lean, 'card_holds'). Laid BY PROGRAM, IN A SANDBOX (cutbox-door.mjs). By AI agents, Wed Nov 11 2026. No macro, syntax, notation, axiom, sorry.
-/
import Derived.Test.YtadldblpkgackaaGreatDoorRows
import GoSem.ClaimSeven
namespace Go.Proofs.YtadldblpkgackaaGreatDoor
namespace Rows

/-- THE TIED CARD OF 'bringuplaw09.SchemaLimits'. -/
def schemaLimitsCard : Claim7 := { stood := { row := schemaLimitsRow, standIns := [], harness := (true, "25beeabbb741ed73541cced427f456838ea59e490253dcf4e7a2b23c85610aa5"), looks := true }, kinds := [], alts := [], laidByText := true, laidKinds := [.data, .data, .data, .data, .sentinel, .sentinel, .widerDeep, .pinned], laidTests := true, laidLooks := .later }
def SchemaLimitsCardSaid : Prop := Claim7.holds Tryz.pinned (.plain (OpenSpec.ofChange schemaLimitsSpec)) schemaLimitsCard

/-- THE TIED CARD OF 'bringuplaw09.SchemaBack'. -/
def schemaBackCard : Claim7 := { stood := { row := schemaBackRow, standIns := [], harness := (true, "25beeabbb741ed73541cced427f456838ea59e490253dcf4e7a2b23c85610aa5"), looks := true }, kinds := [], alts := [], laidByText := true, laidKinds := [.data, .data, .data, .data, .sentinel, .sentinel, .widerDeep, .pinned], laidTests := true, laidLooks := .later }
def SchemaBackCardSaid : Prop := Claim7.holds Tryz.pinned (.plain (OpenSpec.ofChange schemaBackSpec)) schemaBackCard

/-- THE TIED CARD OF 'bringuplaw09.SchemaLines'. -/
def schemaLinesCard : Claim7 := { stood := { row := schemaLinesRow, standIns := [], harness := (true, "25beeabbb741ed73541cced427f456838ea59e490253dcf4e7a2b23c85610aa5"), looks := true }, kinds := [], alts := [], laidByText := true, laidKinds := [.data, .data, .data, .data, .sentinel, .sentinel, .widerDeep, .pinned], laidTests := true, laidLooks := .later }
def SchemaLinesCardSaid : Prop := Claim7.holds Tryz.pinned (.plain (OpenSpec.ofChange schemaLinesSpec)) schemaLinesCard

/-- THE TIED CARD OF 'bringuplaw09.SchemaDiffers'. -/
def schemaDiffersCard : Claim7 := { stood := { row := schemaDiffersRow, standIns := [], harness := (true, "25beeabbb741ed73541cced427f456838ea59e490253dcf4e7a2b23c85610aa5"), looks := true }, kinds := [], alts := [], laidByText := true, laidKinds := [.data, .data, .data, .data, .sentinel, .sentinel, .widerDeep, .pinned], laidTests := true, laidLooks := .later }
def SchemaDiffersCardSaid : Prop := Claim7.holds Tryz.pinned (.plain (OpenSpec.ofChange schemaDiffersSpec)) schemaDiffersCard

/-- THE TIED CARD OF 'bringuplaw09.SchemaMerges'. -/
def schemaMergesCard : Claim7 := { stood := { row := schemaMergesRow, standIns := [], harness := (true, "25beeabbb741ed73541cced427f456838ea59e490253dcf4e7a2b23c85610aa5"), looks := true }, kinds := [], alts := [], laidByText := true, laidKinds := [.data, .data, .data, .data, .sentinel, .sentinel, .widerDeep, .pinned], laidTests := true, laidLooks := .later }
def SchemaMergesCardSaid : Prop := Claim7.holds Tryz.pinned (.plain (OpenSpec.ofChange schemaMergesSpec)) schemaMergesCard

/-- THE TIED CARD OF 'bringuplaw09.SchemaAnswers'. -/
def schemaAnswersCard : Claim7 := { stood := { row := schemaAnswersRow, standIns := [], harness := (true, "25beeabbb741ed73541cced427f456838ea59e490253dcf4e7a2b23c85610aa5"), looks := true }, kinds := [], alts := [], laidByText := true, laidKinds := [.data, .data, .data, .data, .sentinel, .sentinel, .widerDeep, .pinned], laidTests := true, laidLooks := .later }
def SchemaAnswersCardSaid : Prop := Claim7.holds Tryz.pinned (.plain (OpenSpec.ofChange schemaAnswersSpec)) schemaAnswersCard

/-- THE SECOND FORM's CARD OF 'bringuplaw09.SchemaLimits'. -/
def schemaLimitsUptoCard : Claim7 := { stood := { row := schemaLimitsUptoRow, standIns := [], harness := (true, "25beeabbb741ed73541cced427f456838ea59e490253dcf4e7a2b23c85610aa5"), looks := true }, kinds := [], alts := [], laidByText := true, laidKinds := [.data, .data, .data, .data, .sentinel, .sentinel, .widerDeep, .pinned], laidTests := true, laidLooks := .later }
def SchemaLimitsUptoCardSaid : Prop := Claim7.holds Tryz.pinned (.plain (OpenSpec.upto schemaLimitsSpec)) schemaLimitsUptoCard

/-- THE SECOND FORM's CARD OF 'bringuplaw09.SchemaBack'. -/
def schemaBackUptoCard : Claim7 := { stood := { row := schemaBackUptoRow, standIns := [], harness := (true, "25beeabbb741ed73541cced427f456838ea59e490253dcf4e7a2b23c85610aa5"), looks := true }, kinds := [], alts := [], laidByText := true, laidKinds := [.data, .data, .data, .data, .sentinel, .sentinel, .widerDeep, .pinned], laidTests := true, laidLooks := .later }
def SchemaBackUptoCardSaid : Prop := Claim7.holds Tryz.pinned (.plain (OpenSpec.upto schemaBackSpec)) schemaBackUptoCard

/-- THE SECOND FORM's CARD OF 'bringuplaw09.SchemaLines'. -/
def schemaLinesUptoCard : Claim7 := { stood := { row := schemaLinesUptoRow, standIns := [], harness := (true, "25beeabbb741ed73541cced427f456838ea59e490253dcf4e7a2b23c85610aa5"), looks := true }, kinds := [], alts := [], laidByText := true, laidKinds := [.data, .data, .data, .data, .sentinel, .sentinel, .widerDeep, .pinned], laidTests := true, laidLooks := .later }
def SchemaLinesUptoCardSaid : Prop := Claim7.holds Tryz.pinned (.plain (OpenSpec.upto schemaLinesSpec)) schemaLinesUptoCard

/-- THE SECOND FORM's CARD OF 'bringuplaw09.SchemaDiffers'. -/
def schemaDiffersUptoCard : Claim7 := { stood := { row := schemaDiffersUptoRow, standIns := [], harness := (true, "25beeabbb741ed73541cced427f456838ea59e490253dcf4e7a2b23c85610aa5"), looks := true }, kinds := [], alts := [], laidByText := true, laidKinds := [.data, .data, .data, .data, .sentinel, .sentinel, .widerDeep, .pinned], laidTests := true, laidLooks := .later }
def SchemaDiffersUptoCardSaid : Prop := Claim7.holds Tryz.pinned (.plain (OpenSpec.upto schemaDiffersSpec)) schemaDiffersUptoCard

/-- THE SECOND FORM's CARD OF 'bringuplaw09.SchemaMerges'. -/
def schemaMergesUptoCard : Claim7 := { stood := { row := schemaMergesUptoRow, standIns := [], harness := (true, "25beeabbb741ed73541cced427f456838ea59e490253dcf4e7a2b23c85610aa5"), looks := true }, kinds := [], alts := [], laidByText := true, laidKinds := [.data, .data, .data, .data, .sentinel, .sentinel, .widerDeep, .pinned], laidTests := true, laidLooks := .later }
def SchemaMergesUptoCardSaid : Prop := Claim7.holds Tryz.pinned (.plain (OpenSpec.upto schemaMergesSpec)) schemaMergesUptoCard

/-- THE SECOND FORM's CARD OF 'bringuplaw09.SchemaAnswers'. -/
def schemaAnswersUptoCard : Claim7 := { stood := { row := schemaAnswersUptoRow, standIns := [], harness := (true, "25beeabbb741ed73541cced427f456838ea59e490253dcf4e7a2b23c85610aa5"), looks := true }, kinds := [], alts := [], laidByText := true, laidKinds := [.data, .data, .data, .data, .sentinel, .sentinel, .widerDeep, .pinned], laidTests := true, laidLooks := .later }
def SchemaAnswersUptoCardSaid : Prop := Claim7.holds Tryz.pinned (.plain (OpenSpec.upto schemaAnswersSpec)) schemaAnswersUptoCard
end Rows
end Go.Proofs.YtadldblpkgackaaGreatDoor
