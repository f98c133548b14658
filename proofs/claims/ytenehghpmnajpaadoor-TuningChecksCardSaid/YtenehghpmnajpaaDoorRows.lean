/-
  NARROWER THAN 'FOR EVERY INPUT', by the rows' own cells (each row's printed sentence says how): RetuneFree: laid · RetuneShort: laid · RetuneTriangle: laid · RetuneSafe: laid · TuningLeast: laid · TuningOrder: laid · TuningProves: laid · TuningChecks: laid · TuningCore: laid.
  DERIVED. THE GIVEN ROWS OF THIS SEAT. 9 by the template 'for every input the law returns true; each argument reads behind the call as it read before'; 0 by the template 'total and deterministic' (their statements: YtenehghpmnajpaaDoorTotals.lean).
  GIVEN WITH THE SEED: the statements are not yours to turn. If you find one false, say at which input.
  Laid BY PROGRAM, IN A SANDBOX (cutbox-rows.mjs): the forced cells as the released guide's own fill.sh prints them over the translation b51bda6a9c0b613f… (all of the seat's roots in one cut). By AI agents, Wed Nov 11 2026. No macro, syntax, notation, axiom, sorry.
-/
import Derived.Test.YtenehghpmnajpaaDoorChecked
import GoSem.Claim
import GoSem.ClaimJoined
import GoSem.ClaimMapViews
import Derived.JoinedTies
import Derived.KernelRfl
namespace Go.Proofs.YtenehghpmnajpaaDoor
/- THE CELL 'sum', in the pinned program and in every row, IS THE sha256 OF THE DUMP (.gsa) THAT YtenehghpmnajpaaDoorProg.lean LOADS. Nothing in Lean hashes anything: it is a label: what it is worth is what the hold of that sum in a sandbox is worth. -/
noncomputable def Tryd.pinned : Pinned := { name := "ytenehghpmnajpaadoor", sum := "b51bda6a9c0b613f88ebe26c8c15a96506ad89f2fa9c0271a6c0b0b1913f8c0f", checked := Tryd.checked }
namespace Rows
def none {H : Type} : Left H := { results := [], args := [] }

/- WHAT THE LISTED PACKAGE-LEVEL VARIABLES READ AS WHEN THE CALL BEGINS. Each datum BY PROGRAM (the guide's laid-datum.mjs) off the statement by which the dump's own 'gosem.cut.vars' lays the variable. In a bare row this is a premise. The card (YtenehghpmnajpaaDoorCards.lean) ties it to the program's text. -/
def laid_bringup_clock_off {H : Type} : DataW H := .agg [.lit (.int .i64 0), .lit (.int .i64 1)]

/-- 'bringuplaw18.RetuneFree': WHATEVER THE INPUT: true; the input reads as it did. -/
def retuneFreeSpec : ChangeSpec := { name := "retuneFree", fn := fun _ => fun
  | [d] => { results := [.lit (.bool true)], args := [d] }
  | _ => none }
def retuneFreeRow : OpenClaim := { program := "ytenehghpmnajpaadoor", sum := "b51bda6a9c0b613f88ebe26c8c15a96506ad89f2fa9c0271a6c0b0b1913f8c0f", func := "bringup/bringuplaw18.RetuneFree", spec := "retuneFree", unfollowed := true, recurses := true, named := ["bringup/clock.off"], apart := false, laid := [("bringup/clock.off", laid_bringup_clock_off)] }
def RetuneFreeSaid : Prop := retuneFreeRow.holds Tryd.pinned (OpenSpec.ofChange retuneFreeSpec)

/-- ITS FALSE NEIGHBOUR: 'it returns false'. Refute it at one input. -/
def retuneFreeWrong : ChangeSpec := { name := "retuneFree", fn := fun _ => fun
  | [d] => { results := [.lit (.bool false)], args := [d] }
  | _ => none }
def RetuneFreeWrongFalsely : Prop := retuneFreeRow.holds Tryd.pinned (OpenSpec.ofChange retuneFreeWrong)

/-- 'bringuplaw18.RetuneShort': WHATEVER THE INPUT: true; the input reads as it did. -/
def retuneShortSpec : ChangeSpec := { name := "retuneShort", fn := fun _ => fun
  | [d] => { results := [.lit (.bool true)], args := [d] }
  | _ => none }
def retuneShortRow : OpenClaim := { program := "ytenehghpmnajpaadoor", sum := "b51bda6a9c0b613f88ebe26c8c15a96506ad89f2fa9c0271a6c0b0b1913f8c0f", func := "bringup/bringuplaw18.RetuneShort", spec := "retuneShort", unfollowed := true, recurses := true, named := ["bringup/clock.off"], apart := false, laid := [("bringup/clock.off", laid_bringup_clock_off)] }
def RetuneShortSaid : Prop := retuneShortRow.holds Tryd.pinned (OpenSpec.ofChange retuneShortSpec)

/-- ITS FALSE NEIGHBOUR: 'it returns false'. Refute it at one input. -/
def retuneShortWrong : ChangeSpec := { name := "retuneShort", fn := fun _ => fun
  | [d] => { results := [.lit (.bool false)], args := [d] }
  | _ => none }
def RetuneShortWrongFalsely : Prop := retuneShortRow.holds Tryd.pinned (OpenSpec.ofChange retuneShortWrong)

/-- 'bringuplaw18.RetuneTriangle': WHATEVER THE INPUT: true; the input reads as it did. -/
def retuneTriangleSpec : ChangeSpec := { name := "retuneTriangle", fn := fun _ => fun
  | [d] => { results := [.lit (.bool true)], args := [d] }
  | _ => none }
def retuneTriangleRow : OpenClaim := { program := "ytenehghpmnajpaadoor", sum := "b51bda6a9c0b613f88ebe26c8c15a96506ad89f2fa9c0271a6c0b0b1913f8c0f", func := "bringup/bringuplaw18.RetuneTriangle", spec := "retuneTriangle", unfollowed := true, recurses := true, named := ["bringup/clock.off"], apart := false, laid := [("bringup/clock.off", laid_bringup_clock_off)] }
def RetuneTriangleSaid : Prop := retuneTriangleRow.holds Tryd.pinned (OpenSpec.ofChange retuneTriangleSpec)

/-- ITS FALSE NEIGHBOUR: 'it returns false'. Refute it at one input. -/
def retuneTriangleWrong : ChangeSpec := { name := "retuneTriangle", fn := fun _ => fun
  | [d] => { results := [.lit (.bool false)], args := [d] }
  | _ => none }
def RetuneTriangleWrongFalsely : Prop := retuneTriangleRow.holds Tryd.pinned (OpenSpec.ofChange retuneTriangleWrong)

/-- 'bringuplaw18.RetuneSafe': WHATEVER THE INPUT: true; the input reads as it did. -/
def retuneSafeSpec : ChangeSpec := { name := "retuneSafe", fn := fun _ => fun
  | [d] => { results := [.lit (.bool true)], args := [d] }
  | _ => none }
def retuneSafeRow : OpenClaim := { program := "ytenehghpmnajpaadoor", sum := "b51bda6a9c0b613f88ebe26c8c15a96506ad89f2fa9c0271a6c0b0b1913f8c0f", func := "bringup/bringuplaw18.RetuneSafe", spec := "retuneSafe", unfollowed := true, recurses := true, named := ["bringup/clock.off"], apart := false, laid := [("bringup/clock.off", laid_bringup_clock_off)] }
def RetuneSafeSaid : Prop := retuneSafeRow.holds Tryd.pinned (OpenSpec.ofChange retuneSafeSpec)

/-- ITS FALSE NEIGHBOUR: 'it returns false'. Refute it at one input. -/
def retuneSafeWrong : ChangeSpec := { name := "retuneSafe", fn := fun _ => fun
  | [d] => { results := [.lit (.bool false)], args := [d] }
  | _ => none }
def RetuneSafeWrongFalsely : Prop := retuneSafeRow.holds Tryd.pinned (OpenSpec.ofChange retuneSafeWrong)

/-- 'bringuplaw17.TuningLeast': WHATEVER THE INPUT: true; the input reads as it did. -/
def tuningLeastSpec : ChangeSpec := { name := "tuningLeast", fn := fun _ => fun
  | [d] => { results := [.lit (.bool true)], args := [d] }
  | _ => none }
def tuningLeastRow : OpenClaim := { program := "ytenehghpmnajpaadoor", sum := "b51bda6a9c0b613f88ebe26c8c15a96506ad89f2fa9c0271a6c0b0b1913f8c0f", func := "bringup/bringuplaw17.TuningLeast", spec := "tuningLeast", unfollowed := true, recurses := true, named := ["bringup/clock.off"], apart := false, laid := [("bringup/clock.off", laid_bringup_clock_off)] }
def TuningLeastSaid : Prop := tuningLeastRow.holds Tryd.pinned (OpenSpec.ofChange tuningLeastSpec)

/-- ITS FALSE NEIGHBOUR: 'it returns false'. Refute it at one input. -/
def tuningLeastWrong : ChangeSpec := { name := "tuningLeast", fn := fun _ => fun
  | [d] => { results := [.lit (.bool false)], args := [d] }
  | _ => none }
def TuningLeastWrongFalsely : Prop := tuningLeastRow.holds Tryd.pinned (OpenSpec.ofChange tuningLeastWrong)

/-- 'bringuplaw17.TuningOrder': WHATEVER THE INPUT: true; the input reads as it did. -/
def tuningOrderSpec : ChangeSpec := { name := "tuningOrder", fn := fun _ => fun
  | [d] => { results := [.lit (.bool true)], args := [d] }
  | _ => none }
def tuningOrderRow : OpenClaim := { program := "ytenehghpmnajpaadoor", sum := "b51bda6a9c0b613f88ebe26c8c15a96506ad89f2fa9c0271a6c0b0b1913f8c0f", func := "bringup/bringuplaw17.TuningOrder", spec := "tuningOrder", unfollowed := true, recurses := true, named := ["bringup/clock.off"], apart := false, laid := [("bringup/clock.off", laid_bringup_clock_off)] }
def TuningOrderSaid : Prop := tuningOrderRow.holds Tryd.pinned (OpenSpec.ofChange tuningOrderSpec)

/-- ITS FALSE NEIGHBOUR: 'it returns false'. Refute it at one input. -/
def tuningOrderWrong : ChangeSpec := { name := "tuningOrder", fn := fun _ => fun
  | [d] => { results := [.lit (.bool false)], args := [d] }
  | _ => none }
def TuningOrderWrongFalsely : Prop := tuningOrderRow.holds Tryd.pinned (OpenSpec.ofChange tuningOrderWrong)

/-- 'bringuplaw17.TuningProves': WHATEVER THE INPUT: true; the input reads as it did. -/
def tuningProvesSpec : ChangeSpec := { name := "tuningProves", fn := fun _ => fun
  | [d] => { results := [.lit (.bool true)], args := [d] }
  | _ => none }
def tuningProvesRow : OpenClaim := { program := "ytenehghpmnajpaadoor", sum := "b51bda6a9c0b613f88ebe26c8c15a96506ad89f2fa9c0271a6c0b0b1913f8c0f", func := "bringup/bringuplaw17.TuningProves", spec := "tuningProves", unfollowed := true, recurses := true, named := ["bringup/clock.off"], apart := false, laid := [("bringup/clock.off", laid_bringup_clock_off)] }
def TuningProvesSaid : Prop := tuningProvesRow.holds Tryd.pinned (OpenSpec.ofChange tuningProvesSpec)

/-- ITS FALSE NEIGHBOUR: 'it returns false'. Refute it at one input. -/
def tuningProvesWrong : ChangeSpec := { name := "tuningProves", fn := fun _ => fun
  | [d] => { results := [.lit (.bool false)], args := [d] }
  | _ => none }
def TuningProvesWrongFalsely : Prop := tuningProvesRow.holds Tryd.pinned (OpenSpec.ofChange tuningProvesWrong)

/-- 'bringuplaw17.TuningChecks': WHATEVER THE INPUT: true; the input reads as it did. -/
def tuningChecksSpec : ChangeSpec := { name := "tuningChecks", fn := fun _ => fun
  | [d] => { results := [.lit (.bool true)], args := [d] }
  | _ => none }
def tuningChecksRow : OpenClaim := { program := "ytenehghpmnajpaadoor", sum := "b51bda6a9c0b613f88ebe26c8c15a96506ad89f2fa9c0271a6c0b0b1913f8c0f", func := "bringup/bringuplaw17.TuningChecks", spec := "tuningChecks", unfollowed := true, recurses := true, named := ["bringup/clock.off"], apart := false, laid := [("bringup/clock.off", laid_bringup_clock_off)] }
def TuningChecksSaid : Prop := tuningChecksRow.holds Tryd.pinned (OpenSpec.ofChange tuningChecksSpec)

/-- ITS FALSE NEIGHBOUR: 'it returns false'. Refute it at one input. -/
def tuningChecksWrong : ChangeSpec := { name := "tuningChecks", fn := fun _ => fun
  | [d] => { results := [.lit (.bool false)], args := [d] }
  | _ => none }
def TuningChecksWrongFalsely : Prop := tuningChecksRow.holds Tryd.pinned (OpenSpec.ofChange tuningChecksWrong)

/-- 'bringuplaw17.TuningCore': WHATEVER THE INPUT: true; the input reads as it did. -/
def tuningCoreSpec : ChangeSpec := { name := "tuningCore", fn := fun _ => fun
  | [d] => { results := [.lit (.bool true)], args := [d] }
  | _ => none }
def tuningCoreRow : OpenClaim := { program := "ytenehghpmnajpaadoor", sum := "b51bda6a9c0b613f88ebe26c8c15a96506ad89f2fa9c0271a6c0b0b1913f8c0f", func := "bringup/bringuplaw17.TuningCore", spec := "tuningCore", unfollowed := true, recurses := true, named := ["bringup/clock.off"], apart := false, laid := [("bringup/clock.off", laid_bringup_clock_off)] }
def TuningCoreSaid : Prop := tuningCoreRow.holds Tryd.pinned (OpenSpec.ofChange tuningCoreSpec)

/-- ITS FALSE NEIGHBOUR: 'it returns false'. Refute it at one input. -/
def tuningCoreWrong : ChangeSpec := { name := "tuningCore", fn := fun _ => fun
  | [d] => { results := [.lit (.bool false)], args := [d] }
  | _ => none }
def TuningCoreWrongFalsely : Prop := tuningCoreRow.holds Tryd.pinned (OpenSpec.ofChange tuningCoreWrong)

/- THE SECOND FORM. 'bulk': how many values and letters a reading holds, each counted each time it is reached (what is shared counts as often as it is met; a slice's spare places count too). A statement '..UptoSaid' is the law's where the arguments, and the package variables that the reading takes, are together of bulk at most 1048576: NARROWER than '..Said'. Prove '..Said' where nothing that the law and all that it calls make is longer than what came in: it says more and counts as full. Else prove '..UptoSaid'. A law counts once. -/
mutual
def uptoBulk {H : Type} : DataW H → Nat
  | .lit (.string bytes) => bytes.length + 1
  | .lit _ => 1
  | .nil => 1
  | .ptr d => uptoBulk d + 1
  | .slice elems spare => uptoBulkAll elems + uptoBulkAll spare + 1
  | .agg parts => uptoBulkAll parts + 1
  | .iface _ d => uptoBulk d + 1
  | .map entries => uptoBulkEntries entries + 1
  | .held _ => 1
def uptoBulkAll {H : Type} : List (DataW H) → Nat
  | [] => 0
  | d :: r => uptoBulk d + uptoBulkAll r
def uptoBulkEntries {H : Type} : List (Lit × DataW H) → Nat
  | [] => 0
  | x :: r => uptoBulkEntry x + uptoBulkEntries r
def uptoBulkEntry {H : Type} : Lit × DataW H → Nat
  | (.string bytes, d) => bytes.length + uptoBulk d + 1
  | (_, d) => uptoBulk d + 1
 end
def uptoSmall : (H : Type) → List (DataW H) → Bool := fun _ ds => decide (uptoBulkAll ds ≤ 1048576)
def OpenSpec.upto (s : _root_.Go.ChangeSpec) : _root_.Go.OpenSpec := { _root_.Go.OpenSpec.ofChange s with cond := some uptoSmall }

/-- 'bringuplaw18.RetuneFree', WHERE WHAT IT READS IS OF BULK AT MOST 1048576: true; the input reads as it did. -/
def retuneFreeUptoRow : OpenClaim := { program := "ytenehghpmnajpaadoor", sum := "b51bda6a9c0b613f88ebe26c8c15a96506ad89f2fa9c0271a6c0b0b1913f8c0f", func := "bringup/bringuplaw18.RetuneFree", spec := "retuneFree", unfollowed := true, recurses := true, named := ["bringup/clock.off"], apart := false, laid := [("bringup/clock.off", laid_bringup_clock_off)], narrowed := true }
def RetuneFreeUptoSaid : Prop := retuneFreeUptoRow.holds Tryd.pinned (OpenSpec.upto retuneFreeSpec)

/-- 'bringuplaw18.RetuneShort', WHERE WHAT IT READS IS OF BULK AT MOST 1048576: true; the input reads as it did. -/
def retuneShortUptoRow : OpenClaim := { program := "ytenehghpmnajpaadoor", sum := "b51bda6a9c0b613f88ebe26c8c15a96506ad89f2fa9c0271a6c0b0b1913f8c0f", func := "bringup/bringuplaw18.RetuneShort", spec := "retuneShort", unfollowed := true, recurses := true, named := ["bringup/clock.off"], apart := false, laid := [("bringup/clock.off", laid_bringup_clock_off)], narrowed := true }
def RetuneShortUptoSaid : Prop := retuneShortUptoRow.holds Tryd.pinned (OpenSpec.upto retuneShortSpec)

/-- 'bringuplaw18.RetuneTriangle', WHERE WHAT IT READS IS OF BULK AT MOST 1048576: true; the input reads as it did. -/
def retuneTriangleUptoRow : OpenClaim := { program := "ytenehghpmnajpaadoor", sum := "b51bda6a9c0b613f88ebe26c8c15a96506ad89f2fa9c0271a6c0b0b1913f8c0f", func := "bringup/bringuplaw18.RetuneTriangle", spec := "retuneTriangle", unfollowed := true, recurses := true, named := ["bringup/clock.off"], apart := false, laid := [("bringup/clock.off", laid_bringup_clock_off)], narrowed := true }
def RetuneTriangleUptoSaid : Prop := retuneTriangleUptoRow.holds Tryd.pinned (OpenSpec.upto retuneTriangleSpec)

/-- 'bringuplaw18.RetuneSafe', WHERE WHAT IT READS IS OF BULK AT MOST 1048576: true; the input reads as it did. -/
def retuneSafeUptoRow : OpenClaim := { program := "ytenehghpmnajpaadoor", sum := "b51bda6a9c0b613f88ebe26c8c15a96506ad89f2fa9c0271a6c0b0b1913f8c0f", func := "bringup/bringuplaw18.RetuneSafe", spec := "retuneSafe", unfollowed := true, recurses := true, named := ["bringup/clock.off"], apart := false, laid := [("bringup/clock.off", laid_bringup_clock_off)], narrowed := true }
def RetuneSafeUptoSaid : Prop := retuneSafeUptoRow.holds Tryd.pinned (OpenSpec.upto retuneSafeSpec)

/-- 'bringuplaw17.TuningLeast', WHERE WHAT IT READS IS OF BULK AT MOST 1048576: true; the input reads as it did. -/
def tuningLeastUptoRow : OpenClaim := { program := "ytenehghpmnajpaadoor", sum := "b51bda6a9c0b613f88ebe26c8c15a96506ad89f2fa9c0271a6c0b0b1913f8c0f", func := "bringup/bringuplaw17.TuningLeast", spec := "tuningLeast", unfollowed := true, recurses := true, named := ["bringup/clock.off"], apart := false, laid := [("bringup/clock.off", laid_bringup_clock_off)], narrowed := true }
def TuningLeastUptoSaid : Prop := tuningLeastUptoRow.holds Tryd.pinned (OpenSpec.upto tuningLeastSpec)

/-- 'bringuplaw17.TuningOrder', WHERE WHAT IT READS IS OF BULK AT MOST 1048576: true; the input reads as it did. -/
def tuningOrderUptoRow : OpenClaim := { program := "ytenehghpmnajpaadoor", sum := "b51bda6a9c0b613f88ebe26c8c15a96506ad89f2fa9c0271a6c0b0b1913f8c0f", func := "bringup/bringuplaw17.TuningOrder", spec := "tuningOrder", unfollowed := true, recurses := true, named := ["bringup/clock.off"], apart := false, laid := [("bringup/clock.off", laid_bringup_clock_off)], narrowed := true }
def TuningOrderUptoSaid : Prop := tuningOrderUptoRow.holds Tryd.pinned (OpenSpec.upto tuningOrderSpec)

/-- 'bringuplaw17.TuningProves', WHERE WHAT IT READS IS OF BULK AT MOST 1048576: true; the input reads as it did. -/
def tuningProvesUptoRow : OpenClaim := { program := "ytenehghpmnajpaadoor", sum := "b51bda6a9c0b613f88ebe26c8c15a96506ad89f2fa9c0271a6c0b0b1913f8c0f", func := "bringup/bringuplaw17.TuningProves", spec := "tuningProves", unfollowed := true, recurses := true, named := ["bringup/clock.off"], apart := false, laid := [("bringup/clock.off", laid_bringup_clock_off)], narrowed := true }
def TuningProvesUptoSaid : Prop := tuningProvesUptoRow.holds Tryd.pinned (OpenSpec.upto tuningProvesSpec)

/-- 'bringuplaw17.TuningChecks', WHERE WHAT IT READS IS OF BULK AT MOST 1048576: true; the input reads as it did. -/
def tuningChecksUptoRow : OpenClaim := { program := "ytenehghpmnajpaadoor", sum := "b51bda6a9c0b613f88ebe26c8c15a96506ad89f2fa9c0271a6c0b0b1913f8c0f", func := "bringup/bringuplaw17.TuningChecks", spec := "tuningChecks", unfollowed := true, recurses := true, named := ["bringup/clock.off"], apart := false, laid := [("bringup/clock.off", laid_bringup_clock_off)], narrowed := true }
def TuningChecksUptoSaid : Prop := tuningChecksUptoRow.holds Tryd.pinned (OpenSpec.upto tuningChecksSpec)

/-- 'bringuplaw17.TuningCore', WHERE WHAT IT READS IS OF BULK AT MOST 1048576: true; the input reads as it did. -/
def tuningCoreUptoRow : OpenClaim := { program := "ytenehghpmnajpaadoor", sum := "b51bda6a9c0b613f88ebe26c8c15a96506ad89f2fa9c0271a6c0b0b1913f8c0f", func := "bringup/bringuplaw17.TuningCore", spec := "tuningCore", unfollowed := true, recurses := true, named := ["bringup/clock.off"], apart := false, laid := [("bringup/clock.off", laid_bringup_clock_off)], narrowed := true }
def TuningCoreUptoSaid : Prop := tuningCoreUptoRow.holds Tryd.pinned (OpenSpec.upto tuningCoreSpec)

end Rows
end Go.Proofs.YtenehghpmnajpaaDoor
