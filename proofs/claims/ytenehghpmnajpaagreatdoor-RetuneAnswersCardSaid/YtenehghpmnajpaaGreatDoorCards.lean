/-
  DERIVED. GIVEN WITH THE SEED: THE CARDS: each row of YtenehghpmnajpaaGreatDoorRows.lean that lists a variable, with what it lists TIED to the program's text (the seventh form; the later family's looks); each row that meets fmt, with fmt's text TOLD by the authors' own Lean function (tested against real Go, not proved from fmt's source: count such statements apart). THE CARD IS WHAT COUNTS. Prove the row's statement (the work); the ties are given (YtenehghpmnajpaaGreatDoorTie.lean); close each card by the builder's one call (the guide's Derived/Test/ToyasCard.lean, 'card_holds'). Laid BY PROGRAM, IN A SANDBOX (cutbox-door.mjs). By AI agents, Wed Nov 11 2026. No macro, syntax, notation, axiom, sorry.
-/
import Derived.Test.YtenehghpmnajpaaGreatDoorRows
import GoSem.ClaimSeven
namespace Go.Proofs.YtenehghpmnajpaaGreatDoor
namespace Rows

/-- THE TIED CARD OF 'bringuplaw17.TuningAnswers'. -/
def tuningAnswersCard : Claim7 := { stood := { row := tuningAnswersRow, standIns := [], harness := (true, "f94d5fce559a6182903ec3d351b4269b4ce714cf5ba9a7a57224f081adce3c2d"), looks := false }, kinds := [], alts := [], laidByText := true, laidKinds := [.data], laidTests := true, laidLooks := .later }
def TuningAnswersCardSaid : Prop := Claim7.holds Tryz.pinned (.plain (OpenSpec.ofChange tuningAnswersSpec)) tuningAnswersCard

/-- THE TIED CARD OF 'bringuplaw18.RetuneProves'. -/
def retuneProvesCard : Claim7 := { stood := { row := retuneProvesRow, standIns := [], harness := (true, "f94d5fce559a6182903ec3d351b4269b4ce714cf5ba9a7a57224f081adce3c2d"), looks := false }, kinds := [], alts := [], laidByText := true, laidKinds := [.data], laidTests := true, laidLooks := .later }
def RetuneProvesCardSaid : Prop := Claim7.holds Tryz.pinned (.plain (OpenSpec.ofChange retuneProvesSpec)) retuneProvesCard

/-- THE TIED CARD OF 'bringuplaw18.RetuneAnswers'. -/
def retuneAnswersCard : Claim7 := { stood := { row := retuneAnswersRow, standIns := [], harness := (true, "f94d5fce559a6182903ec3d351b4269b4ce714cf5ba9a7a57224f081adce3c2d"), looks := false }, kinds := [], alts := [], laidByText := true, laidKinds := [.data], laidTests := true, laidLooks := .later }
def RetuneAnswersCardSaid : Prop := Claim7.holds Tryz.pinned (.plain (OpenSpec.ofChange retuneAnswersSpec)) retuneAnswersCard

/-- THE SECOND FORM's CARD OF 'bringuplaw17.TuningAnswers'. -/
def tuningAnswersUptoCard : Claim7 := { stood := { row := tuningAnswersUptoRow, standIns := [], harness := (true, "f94d5fce559a6182903ec3d351b4269b4ce714cf5ba9a7a57224f081adce3c2d"), looks := false }, kinds := [], alts := [], laidByText := true, laidKinds := [.data], laidTests := true, laidLooks := .later }
def TuningAnswersUptoCardSaid : Prop := Claim7.holds Tryz.pinned (.plain (OpenSpec.upto tuningAnswersSpec)) tuningAnswersUptoCard

/-- THE SECOND FORM's CARD OF 'bringuplaw18.RetuneProves'. -/
def retuneProvesUptoCard : Claim7 := { stood := { row := retuneProvesUptoRow, standIns := [], harness := (true, "f94d5fce559a6182903ec3d351b4269b4ce714cf5ba9a7a57224f081adce3c2d"), looks := false }, kinds := [], alts := [], laidByText := true, laidKinds := [.data], laidTests := true, laidLooks := .later }
def RetuneProvesUptoCardSaid : Prop := Claim7.holds Tryz.pinned (.plain (OpenSpec.upto retuneProvesSpec)) retuneProvesUptoCard

/-- THE SECOND FORM's CARD OF 'bringuplaw18.RetuneAnswers'. -/
def retuneAnswersUptoCard : Claim7 := { stood := { row := retuneAnswersUptoRow, standIns := [], harness := (true, "f94d5fce559a6182903ec3d351b4269b4ce714cf5ba9a7a57224f081adce3c2d"), looks := false }, kinds := [], alts := [], laidByText := true, laidKinds := [.data], laidTests := true, laidLooks := .later }
def RetuneAnswersUptoCardSaid : Prop := Claim7.holds Tryz.pinned (.plain (OpenSpec.upto retuneAnswersSpec)) retuneAnswersUptoCard
end Rows
end Go.Proofs.YtenehghpmnajpaaGreatDoor
