/-
  DERIVED. GIVEN WITH THE SEED: THE CARDS: each row of YtenehghpmnajpaaDoorRows.lean that lists a variable, with what it lists TIED to the program's text (the seventh form; the later family's looks); each row that meets fmt, with fmt's text TOLD by the authors' own Lean function (tested against real Go, not proved from fmt's source: count such statements apart). THE CARD IS WHAT COUNTS. Prove the row's statement (the work); the ties are given (YtenehghpmnajpaaDoorTie.lean); close each card by the builder's one call (the guide's Derived/Test/ToyasCard.lean, 'card_holds'). Laid BY PROGRAM, IN A SANDBOX (cutbox-door.mjs). By AI agents, Wed Nov 11 2026. No macro, syntax, notation, axiom, sorry.
-/
import Derived.Test.YtenehghpmnajpaaDoorRows
import GoSem.ClaimSeven
namespace Go.Proofs.YtenehghpmnajpaaDoor
namespace Rows

/-- THE TIED CARD OF 'bringuplaw18.RetuneFree'. -/
def retuneFreeCard : Claim7 := { stood := { row := retuneFreeRow, standIns := [], harness := (true, "1ddb61528513e33c80bff2d3bec9e059a7e0773c96bee8bb94c744bc26637731"), looks := false }, kinds := [], alts := [], laidByText := true, laidKinds := [.data], laidTests := true, laidLooks := .later }
def RetuneFreeCardSaid : Prop := Claim7.holds Tryd.pinned (.plain (OpenSpec.ofChange retuneFreeSpec)) retuneFreeCard

/-- THE TIED CARD OF 'bringuplaw18.RetuneShort'. -/
def retuneShortCard : Claim7 := { stood := { row := retuneShortRow, standIns := [], harness := (true, "1ddb61528513e33c80bff2d3bec9e059a7e0773c96bee8bb94c744bc26637731"), looks := false }, kinds := [], alts := [], laidByText := true, laidKinds := [.data], laidTests := true, laidLooks := .later }
def RetuneShortCardSaid : Prop := Claim7.holds Tryd.pinned (.plain (OpenSpec.ofChange retuneShortSpec)) retuneShortCard

/-- THE TIED CARD OF 'bringuplaw18.RetuneTriangle'. -/
def retuneTriangleCard : Claim7 := { stood := { row := retuneTriangleRow, standIns := [], harness := (true, "1ddb61528513e33c80bff2d3bec9e059a7e0773c96bee8bb94c744bc26637731"), looks := false }, kinds := [], alts := [], laidByText := true, laidKinds := [.data], laidTests := true, laidLooks := .later }
def RetuneTriangleCardSaid : Prop := Claim7.holds Tryd.pinned (.plain (OpenSpec.ofChange retuneTriangleSpec)) retuneTriangleCard

/-- THE TIED CARD OF 'bringuplaw18.RetuneSafe'. -/
def retuneSafeCard : Claim7 := { stood := { row := retuneSafeRow, standIns := [], harness := (true, "1ddb61528513e33c80bff2d3bec9e059a7e0773c96bee8bb94c744bc26637731"), looks := false }, kinds := [], alts := [], laidByText := true, laidKinds := [.data], laidTests := true, laidLooks := .later }
def RetuneSafeCardSaid : Prop := Claim7.holds Tryd.pinned (.plain (OpenSpec.ofChange retuneSafeSpec)) retuneSafeCard

/-- THE TIED CARD OF 'bringuplaw17.TuningLeast'. -/
def tuningLeastCard : Claim7 := { stood := { row := tuningLeastRow, standIns := [], harness := (true, "1ddb61528513e33c80bff2d3bec9e059a7e0773c96bee8bb94c744bc26637731"), looks := false }, kinds := [], alts := [], laidByText := true, laidKinds := [.data], laidTests := true, laidLooks := .later }
def TuningLeastCardSaid : Prop := Claim7.holds Tryd.pinned (.plain (OpenSpec.ofChange tuningLeastSpec)) tuningLeastCard

/-- THE TIED CARD OF 'bringuplaw17.TuningOrder'. -/
def tuningOrderCard : Claim7 := { stood := { row := tuningOrderRow, standIns := [], harness := (true, "1ddb61528513e33c80bff2d3bec9e059a7e0773c96bee8bb94c744bc26637731"), looks := false }, kinds := [], alts := [], laidByText := true, laidKinds := [.data], laidTests := true, laidLooks := .later }
def TuningOrderCardSaid : Prop := Claim7.holds Tryd.pinned (.plain (OpenSpec.ofChange tuningOrderSpec)) tuningOrderCard

/-- THE TIED CARD OF 'bringuplaw17.TuningProves'. -/
def tuningProvesCard : Claim7 := { stood := { row := tuningProvesRow, standIns := [], harness := (true, "1ddb61528513e33c80bff2d3bec9e059a7e0773c96bee8bb94c744bc26637731"), looks := false }, kinds := [], alts := [], laidByText := true, laidKinds := [.data], laidTests := true, laidLooks := .later }
def TuningProvesCardSaid : Prop := Claim7.holds Tryd.pinned (.plain (OpenSpec.ofChange tuningProvesSpec)) tuningProvesCard

/-- THE TIED CARD OF 'bringuplaw17.TuningChecks'. -/
def tuningChecksCard : Claim7 := { stood := { row := tuningChecksRow, standIns := [], harness := (true, "1ddb61528513e33c80bff2d3bec9e059a7e0773c96bee8bb94c744bc26637731"), looks := false }, kinds := [], alts := [], laidByText := true, laidKinds := [.data], laidTests := true, laidLooks := .later }
def TuningChecksCardSaid : Prop := Claim7.holds Tryd.pinned (.plain (OpenSpec.ofChange tuningChecksSpec)) tuningChecksCard

/-- THE TIED CARD OF 'bringuplaw17.TuningCore'. -/
def tuningCoreCard : Claim7 := { stood := { row := tuningCoreRow, standIns := [], harness := (true, "1ddb61528513e33c80bff2d3bec9e059a7e0773c96bee8bb94c744bc26637731"), looks := false }, kinds := [], alts := [], laidByText := true, laidKinds := [.data], laidTests := true, laidLooks := .later }
def TuningCoreCardSaid : Prop := Claim7.holds Tryd.pinned (.plain (OpenSpec.ofChange tuningCoreSpec)) tuningCoreCard

/-- THE SECOND FORM's CARD OF 'bringuplaw18.RetuneFree'. -/
def retuneFreeUptoCard : Claim7 := { stood := { row := retuneFreeUptoRow, standIns := [], harness := (true, "1ddb61528513e33c80bff2d3bec9e059a7e0773c96bee8bb94c744bc26637731"), looks := false }, kinds := [], alts := [], laidByText := true, laidKinds := [.data], laidTests := true, laidLooks := .later }
def RetuneFreeUptoCardSaid : Prop := Claim7.holds Tryd.pinned (.plain (OpenSpec.upto retuneFreeSpec)) retuneFreeUptoCard

/-- THE SECOND FORM's CARD OF 'bringuplaw18.RetuneShort'. -/
def retuneShortUptoCard : Claim7 := { stood := { row := retuneShortUptoRow, standIns := [], harness := (true, "1ddb61528513e33c80bff2d3bec9e059a7e0773c96bee8bb94c744bc26637731"), looks := false }, kinds := [], alts := [], laidByText := true, laidKinds := [.data], laidTests := true, laidLooks := .later }
def RetuneShortUptoCardSaid : Prop := Claim7.holds Tryd.pinned (.plain (OpenSpec.upto retuneShortSpec)) retuneShortUptoCard

/-- THE SECOND FORM's CARD OF 'bringuplaw18.RetuneTriangle'. -/
def retuneTriangleUptoCard : Claim7 := { stood := { row := retuneTriangleUptoRow, standIns := [], harness := (true, "1ddb61528513e33c80bff2d3bec9e059a7e0773c96bee8bb94c744bc26637731"), looks := false }, kinds := [], alts := [], laidByText := true, laidKinds := [.data], laidTests := true, laidLooks := .later }
def RetuneTriangleUptoCardSaid : Prop := Claim7.holds Tryd.pinned (.plain (OpenSpec.upto retuneTriangleSpec)) retuneTriangleUptoCard

/-- THE SECOND FORM's CARD OF 'bringuplaw18.RetuneSafe'. -/
def retuneSafeUptoCard : Claim7 := { stood := { row := retuneSafeUptoRow, standIns := [], harness := (true, "1ddb61528513e33c80bff2d3bec9e059a7e0773c96bee8bb94c744bc26637731"), looks := false }, kinds := [], alts := [], laidByText := true, laidKinds := [.data], laidTests := true, laidLooks := .later }
def RetuneSafeUptoCardSaid : Prop := Claim7.holds Tryd.pinned (.plain (OpenSpec.upto retuneSafeSpec)) retuneSafeUptoCard

/-- THE SECOND FORM's CARD OF 'bringuplaw17.TuningLeast'. -/
def tuningLeastUptoCard : Claim7 := { stood := { row := tuningLeastUptoRow, standIns := [], harness := (true, "1ddb61528513e33c80bff2d3bec9e059a7e0773c96bee8bb94c744bc26637731"), looks := false }, kinds := [], alts := [], laidByText := true, laidKinds := [.data], laidTests := true, laidLooks := .later }
def TuningLeastUptoCardSaid : Prop := Claim7.holds Tryd.pinned (.plain (OpenSpec.upto tuningLeastSpec)) tuningLeastUptoCard

/-- THE SECOND FORM's CARD OF 'bringuplaw17.TuningOrder'. -/
def tuningOrderUptoCard : Claim7 := { stood := { row := tuningOrderUptoRow, standIns := [], harness := (true, "1ddb61528513e33c80bff2d3bec9e059a7e0773c96bee8bb94c744bc26637731"), looks := false }, kinds := [], alts := [], laidByText := true, laidKinds := [.data], laidTests := true, laidLooks := .later }
def TuningOrderUptoCardSaid : Prop := Claim7.holds Tryd.pinned (.plain (OpenSpec.upto tuningOrderSpec)) tuningOrderUptoCard

/-- THE SECOND FORM's CARD OF 'bringuplaw17.TuningProves'. -/
def tuningProvesUptoCard : Claim7 := { stood := { row := tuningProvesUptoRow, standIns := [], harness := (true, "1ddb61528513e33c80bff2d3bec9e059a7e0773c96bee8bb94c744bc26637731"), looks := false }, kinds := [], alts := [], laidByText := true, laidKinds := [.data], laidTests := true, laidLooks := .later }
def TuningProvesUptoCardSaid : Prop := Claim7.holds Tryd.pinned (.plain (OpenSpec.upto tuningProvesSpec)) tuningProvesUptoCard

/-- THE SECOND FORM's CARD OF 'bringuplaw17.TuningChecks'. -/
def tuningChecksUptoCard : Claim7 := { stood := { row := tuningChecksUptoRow, standIns := [], harness := (true, "1ddb61528513e33c80bff2d3bec9e059a7e0773c96bee8bb94c744bc26637731"), looks := false }, kinds := [], alts := [], laidByText := true, laidKinds := [.data], laidTests := true, laidLooks := .later }
def TuningChecksUptoCardSaid : Prop := Claim7.holds Tryd.pinned (.plain (OpenSpec.upto tuningChecksSpec)) tuningChecksUptoCard

/-- THE SECOND FORM's CARD OF 'bringuplaw17.TuningCore'. -/
def tuningCoreUptoCard : Claim7 := { stood := { row := tuningCoreUptoRow, standIns := [], harness := (true, "1ddb61528513e33c80bff2d3bec9e059a7e0773c96bee8bb94c744bc26637731"), looks := false }, kinds := [], alts := [], laidByText := true, laidKinds := [.data], laidTests := true, laidLooks := .later }
def TuningCoreUptoCardSaid : Prop := Claim7.holds Tryd.pinned (.plain (OpenSpec.upto tuningCoreSpec)) tuningCoreUptoCard
end Rows
end Go.Proofs.YtenehghpmnajpaaDoor
