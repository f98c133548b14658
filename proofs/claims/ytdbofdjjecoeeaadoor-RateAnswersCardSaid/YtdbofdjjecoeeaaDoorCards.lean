/-
  DERIVED. GIVEN WITH THE SEED: THE CARDS: each row of YtdbofdjjecoeeaaDoorRows.lean that lists a variable, with what it lists TIED to the program's text (the seventh form; the later family's looks); each row that meets fmt, with fmt's text TOLD by the authors' own Lean function (tested against real Go, not proved from fmt's source: count such statements apart). THE CARD IS WHAT COUNTS. Prove the row's statement (the work); the ties are given (YtdbofdjjecoeeaaDoorTie.lean); close each card by the builder's one call (the guide's Derived/Test/ToyasCard.lean, 'card_holds'). Laid BY PROGRAM, IN A SANDBOX (cutbox-door.mjs). By AI agents, Wed Nov 11 2026. No macro, syntax, notation, axiom, sorry.
-/
import Derived.Test.YtdbofdjjecoeeaaDoorRows
import GoSem.ClaimSeven
namespace Go.Proofs.YtdbofdjjecoeeaaDoor
namespace Rows

/-- THE TIED CARD OF 'bringuplaw15.RateFloors'. -/
def rateFloorsCard : Claim7 := { stood := { row := rateFloorsRow, standIns := [], harness := (true, "7de1580c0adce1089406eb8d528293efbf7d0390a23b969e0bfa830d70e0e810"), looks := true }, kinds := [], alts := [], laidByText := true, laidKinds := [.data, .data, .data], laidTests := true, laidLooks := .later }
def RateFloorsCardSaid : Prop := Claim7.holds Tryd.pinned (.plain (OpenSpec.ofChange rateFloorsSpec)) rateFloorsCard

/-- THE TIED CARD OF 'bringuplaw15.RateUndo'. -/
def rateUndoCard : Claim7 := { stood := { row := rateUndoRow, standIns := [], harness := (true, "7de1580c0adce1089406eb8d528293efbf7d0390a23b969e0bfa830d70e0e810"), looks := true }, kinds := [], alts := [], laidByText := true, laidKinds := [.data, .data, .data, .sentinel, .sentinel], laidTests := true, laidLooks := .later }
def RateUndoCardSaid : Prop := Claim7.holds Tryd.pinned (.plain (OpenSpec.ofChange rateUndoSpec)) rateUndoCard

/-- THE TIED CARD OF 'bringuplaw15.RateAnswers'. -/
def rateAnswersCard : Claim7 := { stood := { row := rateAnswersRow, standIns := [], harness := (true, "7de1580c0adce1089406eb8d528293efbf7d0390a23b969e0bfa830d70e0e810"), looks := true }, kinds := [], alts := [], laidByText := true, laidKinds := [.data, .data, .data, .sentinel, .sentinel], laidTests := true, laidLooks := .later }
def RateAnswersCardSaid : Prop := Claim7.holds Tryd.pinned (.plain (OpenSpec.ofChange rateAnswersSpec)) rateAnswersCard

/-- THE SECOND FORM's CARD OF 'bringuplaw15.RateFloors'. -/
def rateFloorsUptoCard : Claim7 := { stood := { row := rateFloorsUptoRow, standIns := [], harness := (true, "7de1580c0adce1089406eb8d528293efbf7d0390a23b969e0bfa830d70e0e810"), looks := true }, kinds := [], alts := [], laidByText := true, laidKinds := [.data, .data, .data], laidTests := true, laidLooks := .later }
def RateFloorsUptoCardSaid : Prop := Claim7.holds Tryd.pinned (.plain (OpenSpec.upto rateFloorsSpec)) rateFloorsUptoCard

/-- THE SECOND FORM's CARD OF 'bringuplaw15.RateUndo'. -/
def rateUndoUptoCard : Claim7 := { stood := { row := rateUndoUptoRow, standIns := [], harness := (true, "7de1580c0adce1089406eb8d528293efbf7d0390a23b969e0bfa830d70e0e810"), looks := true }, kinds := [], alts := [], laidByText := true, laidKinds := [.data, .data, .data, .sentinel, .sentinel], laidTests := true, laidLooks := .later }
def RateUndoUptoCardSaid : Prop := Claim7.holds Tryd.pinned (.plain (OpenSpec.upto rateUndoSpec)) rateUndoUptoCard

/-- THE SECOND FORM's CARD OF 'bringuplaw15.RateAnswers'. -/
def rateAnswersUptoCard : Claim7 := { stood := { row := rateAnswersUptoRow, standIns := [], harness := (true, "7de1580c0adce1089406eb8d528293efbf7d0390a23b969e0bfa830d70e0e810"), looks := true }, kinds := [], alts := [], laidByText := true, laidKinds := [.data, .data, .data, .sentinel, .sentinel], laidTests := true, laidLooks := .later }
def RateAnswersUptoCardSaid : Prop := Claim7.holds Tryd.pinned (.plain (OpenSpec.upto rateAnswersSpec)) rateAnswersUptoCard
end Rows
end Go.Proofs.YtdbofdjjecoeeaaDoor
