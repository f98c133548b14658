/-
  DERIVED. GIVEN WITH THE SEED: THE CARDS: each row of YtlmhkjdkcoiioaaGreatDoorRows.lean that lists a variable, with what it lists TIED to the program's text (the seventh form; the later family's looks); each row that meets fmt, with fmt's text TOLD by the authors' own Lean function (tested against real Go, not proved from fmt's source: count such statements apart). THE CARD IS WHAT COUNTS. Prove the row's statement (the work); the ties are given (YtlmhkjdkcoiioaaGreatDoorTie.lean); close each card by the builder's one call (the guide's Derived/Test/ToyasCard.lean, 'card_holds'). Laid BY PROGRAM, IN A SANDBOX (cutbox-door.mjs). By AI agents, Wed Nov 11 2026. No macro, syntax, notation, axiom, sorry.
-/
import Derived.Test.YtlmhkjdkcoiioaaGreatDoorRows
import GoSem.ClaimSeven
namespace Go.Proofs.YtlmhkjdkcoiioaaGreatDoor
namespace Rows

/-- THE TIED CARD OF 'bringuplaw21.PointStages'. -/
def pointStagesCard : Claim7 := { stood := { row := pointStagesRow, standIns := [], harness := (true, "c63a72d4f10f64109b2552f786af9eca28704642999195dd1c00e5658749c878"), looks := false }, kinds := [], alts := [], laidByText := true, laidKinds := [.data], laidTests := true, laidLooks := .later }
def PointStagesCardSaid : Prop := Claim7.holds Tryz.pinned (.plain (OpenSpec.ofChange pointStagesSpec)) pointStagesCard

/-- THE TIED CARD OF 'bringuplaw21.PointVoltages'. -/
def pointVoltagesCard : Claim7 := { stood := { row := pointVoltagesRow, standIns := [], harness := (true, "c63a72d4f10f64109b2552f786af9eca28704642999195dd1c00e5658749c878"), looks := false }, kinds := [], alts := [], laidByText := true, laidKinds := [.data], laidTests := true, laidLooks := .later }
def PointVoltagesCardSaid : Prop := Claim7.holds Tryz.pinned (.plain (OpenSpec.ofChange pointVoltagesSpec)) pointVoltagesCard

/-- THE TIED CARD OF 'bringuplaw21.PointAlone'. -/
def pointAloneCard : Claim7 := { stood := { row := pointAloneRow, standIns := [], harness := (true, "c63a72d4f10f64109b2552f786af9eca28704642999195dd1c00e5658749c878"), looks := false }, kinds := [], alts := [], laidByText := true, laidKinds := [.data], laidTests := true, laidLooks := .later }
def PointAloneCardSaid : Prop := Claim7.holds Tryz.pinned (.plain (OpenSpec.ofChange pointAloneSpec)) pointAloneCard

/-- THE TIED CARD OF 'bringuplaw21.PointSafe'. -/
def pointSafeCard : Claim7 := { stood := { row := pointSafeRow, standIns := [], harness := (true, "c63a72d4f10f64109b2552f786af9eca28704642999195dd1c00e5658749c878"), looks := false }, kinds := [], alts := [], laidByText := true, laidKinds := [.data], laidTests := true, laidLooks := .later }
def PointSafeCardSaid : Prop := Claim7.holds Tryz.pinned (.plain (OpenSpec.ofChange pointSafeSpec)) pointSafeCard

/-- THE TIED CARD OF 'bringuplaw21.PointBack'. -/
def pointBackCard : Claim7 := { stood := { row := pointBackRow, standIns := [], harness := (true, "c63a72d4f10f64109b2552f786af9eca28704642999195dd1c00e5658749c878"), looks := false }, kinds := [], alts := [], laidByText := true, laidKinds := [.data], laidTests := true, laidLooks := .later }
def PointBackCardSaid : Prop := Claim7.holds Tryz.pinned (.plain (OpenSpec.ofChange pointBackSpec)) pointBackCard

/-- THE TIED CARD OF 'bringuplaw21.PointAnswers'. -/
def pointAnswersCard : Claim7 := { stood := { row := pointAnswersRow, standIns := [], harness := (true, "c63a72d4f10f64109b2552f786af9eca28704642999195dd1c00e5658749c878"), looks := false }, kinds := [], alts := [], laidByText := true, laidKinds := [.data], laidTests := true, laidLooks := .later }
def PointAnswersCardSaid : Prop := Claim7.holds Tryz.pinned (.plain (OpenSpec.ofChange pointAnswersSpec)) pointAnswersCard

/-- THE SECOND FORM's CARD OF 'bringuplaw21.PointStages'. -/
def pointStagesUptoCard : Claim7 := { stood := { row := pointStagesUptoRow, standIns := [], harness := (true, "c63a72d4f10f64109b2552f786af9eca28704642999195dd1c00e5658749c878"), looks := false }, kinds := [], alts := [], laidByText := true, laidKinds := [.data], laidTests := true, laidLooks := .later }
def PointStagesUptoCardSaid : Prop := Claim7.holds Tryz.pinned (.plain (OpenSpec.upto pointStagesSpec)) pointStagesUptoCard

/-- THE SECOND FORM's CARD OF 'bringuplaw21.PointVoltages'. -/
def pointVoltagesUptoCard : Claim7 := { stood := { row := pointVoltagesUptoRow, standIns := [], harness := (true, "c63a72d4f10f64109b2552f786af9eca28704642999195dd1c00e5658749c878"), looks := false }, kinds := [], alts := [], laidByText := true, laidKinds := [.data], laidTests := true, laidLooks := .later }
def PointVoltagesUptoCardSaid : Prop := Claim7.holds Tryz.pinned (.plain (OpenSpec.upto pointVoltagesSpec)) pointVoltagesUptoCard

/-- THE SECOND FORM's CARD OF 'bringuplaw21.PointAlone'. -/
def pointAloneUptoCard : Claim7 := { stood := { row := pointAloneUptoRow, standIns := [], harness := (true, "c63a72d4f10f64109b2552f786af9eca28704642999195dd1c00e5658749c878"), looks := false }, kinds := [], alts := [], laidByText := true, laidKinds := [.data], laidTests := true, laidLooks := .later }
def PointAloneUptoCardSaid : Prop := Claim7.holds Tryz.pinned (.plain (OpenSpec.upto pointAloneSpec)) pointAloneUptoCard

/-- THE SECOND FORM's CARD OF 'bringuplaw21.PointSafe'. -/
def pointSafeUptoCard : Claim7 := { stood := { row := pointSafeUptoRow, standIns := [], harness := (true, "c63a72d4f10f64109b2552f786af9eca28704642999195dd1c00e5658749c878"), looks := false }, kinds := [], alts := [], laidByText := true, laidKinds := [.data], laidTests := true, laidLooks := .later }
def PointSafeUptoCardSaid : Prop := Claim7.holds Tryz.pinned (.plain (OpenSpec.upto pointSafeSpec)) pointSafeUptoCard

/-- THE SECOND FORM's CARD OF 'bringuplaw21.PointBack'. -/
def pointBackUptoCard : Claim7 := { stood := { row := pointBackUptoRow, standIns := [], harness := (true, "c63a72d4f10f64109b2552f786af9eca28704642999195dd1c00e5658749c878"), looks := false }, kinds := [], alts := [], laidByText := true, laidKinds := [.data], laidTests := true, laidLooks := .later }
def PointBackUptoCardSaid : Prop := Claim7.holds Tryz.pinned (.plain (OpenSpec.upto pointBackSpec)) pointBackUptoCard

/-- THE SECOND FORM's CARD OF 'bringuplaw21.PointAnswers'. -/
def pointAnswersUptoCard : Claim7 := { stood := { row := pointAnswersUptoRow, standIns := [], harness := (true, "c63a72d4f10f64109b2552f786af9eca28704642999195dd1c00e5658749c878"), looks := false }, kinds := [], alts := [], laidByText := true, laidKinds := [.data], laidTests := true, laidLooks := .later }
def PointAnswersUptoCardSaid : Prop := Claim7.holds Tryz.pinned (.plain (OpenSpec.upto pointAnswersSpec)) pointAnswersUptoCard
end Rows
end Go.Proofs.YtlmhkjdkcoiioaaGreatDoor
