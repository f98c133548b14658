/-
  DERIVED. GIVEN WITH THE SEED: THE CARDS: each row of YtbpkndiecomggaaGreatDoorRows.lean that lists a variable, with what it lists TIED to the program's text (the seventh form; the later family's looks); each row that meets fmt, with fmt's text TOLD by the authors' own Lean function (tested against real Go, not proved from fmt's source: count such statements apart). THE CARD IS WHAT COUNTS. Prove the row's statement (the work); the ties are given (YtbpkndiecomggaaGreatDoorTie.lean); close each card by the builder's one call (the guide's Derived/Test/ToyasCard.lean, 'card_holds'). Laid BY PROGRAM, IN A SANDBOX (cutbox-door.mjs). By AI agents, Wed Nov 11 2026. No macro, syntax, notation, axiom, sorry.
-/
import Derived.Test.YtbpkndiecomggaaGreatDoorRows
import GoSem.ClaimSeven
namespace Go.Proofs.YtbpkndiecomggaaGreatDoor
namespace Rows

/-- THE TIED CARD OF 'bringuplaw10.ConformFinds'. -/
def conformFindsCard : Claim7 := { stood := { row := conformFindsRow, standIns := [], harness := (true, "237bbb2f7d504f8c59131afc9ebeb6dedde116996995e1ac09a378448ca18aed"), looks := false }, kinds := [], alts := [], laidByText := true, laidKinds := [.data, .widerDeep, .pinned], laidTests := true, laidLooks := .later }
def ConformFindsCardSaid : Prop := Claim7.holds Tryz.pinned (.plain (OpenSpec.ofChange conformFindsSpec)) conformFindsCard

/-- THE TIED CARD OF 'bringuplaw10.ConformRepairs'. -/
def conformRepairsCard : Claim7 := { stood := { row := conformRepairsRow, standIns := [], harness := (true, "237bbb2f7d504f8c59131afc9ebeb6dedde116996995e1ac09a378448ca18aed"), looks := false }, kinds := [], alts := [], laidByText := true, laidKinds := [.data, .widerDeep, .pinned], laidTests := true, laidLooks := .later }
def ConformRepairsCardSaid : Prop := Claim7.holds Tryz.pinned (.plain (OpenSpec.ofChange conformRepairsSpec)) conformRepairsCard

/-- THE TIED CARD OF 'bringuplaw10.ConformOpen'. -/
def conformOpenCard : Claim7 := { stood := { row := conformOpenRow, standIns := [], harness := (true, "237bbb2f7d504f8c59131afc9ebeb6dedde116996995e1ac09a378448ca18aed"), looks := false }, kinds := [], alts := [], laidByText := true, laidKinds := [.data, .widerDeep, .pinned], laidTests := true, laidLooks := .later }
def ConformOpenCardSaid : Prop := Claim7.holds Tryz.pinned (.plain (OpenSpec.ofChange conformOpenSpec)) conformOpenCard

/-- THE TIED CARD OF 'bringuplaw10.ConformUnknown'. -/
def conformUnknownCard : Claim7 := { stood := { row := conformUnknownRow, standIns := [], harness := (true, "237bbb2f7d504f8c59131afc9ebeb6dedde116996995e1ac09a378448ca18aed"), looks := false }, kinds := [], alts := [], laidByText := true, laidKinds := [.data, .widerDeep, .pinned], laidTests := true, laidLooks := .later }
def ConformUnknownCardSaid : Prop := Claim7.holds Tryz.pinned (.plain (OpenSpec.ofChange conformUnknownSpec)) conformUnknownCard

/-- THE TIED CARD OF 'bringuplaw10.ConformAnswers'. -/
def conformAnswersCard : Claim7 := { stood := { row := conformAnswersRow, standIns := [], harness := (true, "237bbb2f7d504f8c59131afc9ebeb6dedde116996995e1ac09a378448ca18aed"), looks := false }, kinds := [], alts := [], laidByText := true, laidKinds := [.data, .widerDeep, .pinned], laidTests := true, laidLooks := .later }
def ConformAnswersCardSaid : Prop := Claim7.holds Tryz.pinned (.plain (OpenSpec.ofChange conformAnswersSpec)) conformAnswersCard

/-- THE SECOND FORM's CARD OF 'bringuplaw10.ConformFinds'. -/
def conformFindsUptoCard : Claim7 := { stood := { row := conformFindsUptoRow, standIns := [], harness := (true, "237bbb2f7d504f8c59131afc9ebeb6dedde116996995e1ac09a378448ca18aed"), looks := false }, kinds := [], alts := [], laidByText := true, laidKinds := [.data, .widerDeep, .pinned], laidTests := true, laidLooks := .later }
def ConformFindsUptoCardSaid : Prop := Claim7.holds Tryz.pinned (.plain (OpenSpec.upto conformFindsSpec)) conformFindsUptoCard

/-- THE SECOND FORM's CARD OF 'bringuplaw10.ConformRepairs'. -/
def conformRepairsUptoCard : Claim7 := { stood := { row := conformRepairsUptoRow, standIns := [], harness := (true, "237bbb2f7d504f8c59131afc9ebeb6dedde116996995e1ac09a378448ca18aed"), looks := false }, kinds := [], alts := [], laidByText := true, laidKinds := [.data, .widerDeep, .pinned], laidTests := true, laidLooks := .later }
def ConformRepairsUptoCardSaid : Prop := Claim7.holds Tryz.pinned (.plain (OpenSpec.upto conformRepairsSpec)) conformRepairsUptoCard

/-- THE SECOND FORM's CARD OF 'bringuplaw10.ConformOpen'. -/
def conformOpenUptoCard : Claim7 := { stood := { row := conformOpenUptoRow, standIns := [], harness := (true, "237bbb2f7d504f8c59131afc9ebeb6dedde116996995e1ac09a378448ca18aed"), looks := false }, kinds := [], alts := [], laidByText := true, laidKinds := [.data, .widerDeep, .pinned], laidTests := true, laidLooks := .later }
def ConformOpenUptoCardSaid : Prop := Claim7.holds Tryz.pinned (.plain (OpenSpec.upto conformOpenSpec)) conformOpenUptoCard

/-- THE SECOND FORM's CARD OF 'bringuplaw10.ConformUnknown'. -/
def conformUnknownUptoCard : Claim7 := { stood := { row := conformUnknownUptoRow, standIns := [], harness := (true, "237bbb2f7d504f8c59131afc9ebeb6dedde116996995e1ac09a378448ca18aed"), looks := false }, kinds := [], alts := [], laidByText := true, laidKinds := [.data, .widerDeep, .pinned], laidTests := true, laidLooks := .later }
def ConformUnknownUptoCardSaid : Prop := Claim7.holds Tryz.pinned (.plain (OpenSpec.upto conformUnknownSpec)) conformUnknownUptoCard

/-- THE SECOND FORM's CARD OF 'bringuplaw10.ConformAnswers'. -/
def conformAnswersUptoCard : Claim7 := { stood := { row := conformAnswersUptoRow, standIns := [], harness := (true, "237bbb2f7d504f8c59131afc9ebeb6dedde116996995e1ac09a378448ca18aed"), looks := false }, kinds := [], alts := [], laidByText := true, laidKinds := [.data, .widerDeep, .pinned], laidTests := true, laidLooks := .later }
def ConformAnswersUptoCardSaid : Prop := Claim7.holds Tryz.pinned (.plain (OpenSpec.upto conformAnswersSpec)) conformAnswersUptoCard
end Rows
end Go.Proofs.YtbpkndiecomggaaGreatDoor
