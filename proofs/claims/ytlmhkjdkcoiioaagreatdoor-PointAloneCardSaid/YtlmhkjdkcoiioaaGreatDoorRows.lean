/-
  NARROWER THAN 'FOR EVERY INPUT', by the rows' own cells (each row's printed sentence says how): PointStages: laid · PointVoltages: laid · PointAlone: laid · PointSafe: laid · PointBack: laid · PointAnswers: laid.
  DERIVED. THE GIVEN ROWS OF THIS SEAT. 6 by the template 'for every input the law returns true; each argument reads behind the call as it read before'; 0 by the template 'total and deterministic' (their statements: YtlmhkjdkcoiioaaGreatDoorTotals.lean).
  GIVEN WITH THE SEED: the statements are not yours to turn. If you find one false, say at which input.
  Laid BY PROGRAM, IN A SANDBOX (cutbox-rows.mjs): the forced cells as the released guide's own fill.sh prints them over the translation 97cd7e525bf42264… (all of the seat's roots in one cut). By AI agents, Wed Nov 11 2026. No macro, syntax, notation, axiom, sorry.
-/
import Derived.Test.YtlmhkjdkcoiioaaGreatDoorChecked
import GoSem.Claim
import GoSem.ClaimJoined
import GoSem.ClaimMapViews
import Derived.JoinedTies
import Derived.KernelRfl
namespace Go.Proofs.YtlmhkjdkcoiioaaGreatDoor
/- THE CELL 'sum', in the pinned program and in every row, IS THE sha256 OF THE DUMP (.gsa) THAT YtlmhkjdkcoiioaaGreatDoorProg.lean LOADS. Nothing in Lean hashes anything: it is a label: what it is worth is what the hold of that sum in a sandbox is worth. -/
noncomputable def Tryz.pinned : Pinned := { name := "ytlmhkjdkcoiioaagreatdoor", sum := "97cd7e525bf422640ccca1b58561a2f5929196b300089ad06511f5a9fe068e80", checked := Tryz.checked }
namespace Rows
def none {H : Type} : Left H := { results := [], args := [] }

/- WHAT THE LISTED PACKAGE-LEVEL VARIABLES READ AS WHEN THE CALL BEGINS. Each datum BY PROGRAM (the guide's laid-datum.mjs) off the statement by which the dump's own 'gosem.cut.vars' lays the variable. In a bare row this is a premise. The card (YtlmhkjdkcoiioaaGreatDoorCards.lean) ties it to the program's text. -/
def laid_bringup_clock_off {H : Type} : DataW H := .agg [.lit (.int .i64 0), .lit (.int .i64 1)]

/-- 'bringuplaw21.PointStages': WHATEVER THE INPUT: true; the input reads as it did. -/
def pointStagesSpec : ChangeSpec := { name := "pointStages", fn := fun _ => fun
  | [d] => { results := [.lit (.bool true)], args := [d] }
  | _ => none }
def pointStagesRow : OpenClaim := { program := "ytlmhkjdkcoiioaagreatdoor", sum := "97cd7e525bf422640ccca1b58561a2f5929196b300089ad06511f5a9fe068e80", func := "bringup/bringuplaw21.PointStages", spec := "pointStages", unfollowed := true, recurses := true, named := ["bringup/clock.off"], apart := false, laid := [("bringup/clock.off", laid_bringup_clock_off)] }
def PointStagesSaid : Prop := pointStagesRow.holds Tryz.pinned (OpenSpec.ofChange pointStagesSpec)

/-- ITS FALSE NEIGHBOUR: 'it returns false'. Refute it at one input. -/
def pointStagesWrong : ChangeSpec := { name := "pointStages", fn := fun _ => fun
  | [d] => { results := [.lit (.bool false)], args := [d] }
  | _ => none }
def PointStagesWrongFalsely : Prop := pointStagesRow.holds Tryz.pinned (OpenSpec.ofChange pointStagesWrong)

/-- 'bringuplaw21.PointVoltages': WHATEVER THE INPUT: true; the input reads as it did. -/
def pointVoltagesSpec : ChangeSpec := { name := "pointVoltages", fn := fun _ => fun
  | [d1, d2, d3] => { results := [.lit (.bool true)], args := [d1, d2, d3] }
  | _ => none }
def pointVoltagesRow : OpenClaim := { program := "ytlmhkjdkcoiioaagreatdoor", sum := "97cd7e525bf422640ccca1b58561a2f5929196b300089ad06511f5a9fe068e80", func := "bringup/bringuplaw21.PointVoltages", spec := "pointVoltages", unfollowed := true, recurses := true, named := ["bringup/clock.off"], apart := false, laid := [("bringup/clock.off", laid_bringup_clock_off)] }
def PointVoltagesSaid : Prop := pointVoltagesRow.holds Tryz.pinned (OpenSpec.ofChange pointVoltagesSpec)

/-- ITS FALSE NEIGHBOUR: 'it returns false'. Refute it at one input. -/
def pointVoltagesWrong : ChangeSpec := { name := "pointVoltages", fn := fun _ => fun
  | [d1, d2, d3] => { results := [.lit (.bool false)], args := [d1, d2, d3] }
  | _ => none }
def PointVoltagesWrongFalsely : Prop := pointVoltagesRow.holds Tryz.pinned (OpenSpec.ofChange pointVoltagesWrong)

/-- 'bringuplaw21.PointAlone': WHATEVER THE INPUT: true; the input reads as it did. -/
def pointAloneSpec : ChangeSpec := { name := "pointAlone", fn := fun _ => fun
  | [d] => { results := [.lit (.bool true)], args := [d] }
  | _ => none }
def pointAloneRow : OpenClaim := { program := "ytlmhkjdkcoiioaagreatdoor", sum := "97cd7e525bf422640ccca1b58561a2f5929196b300089ad06511f5a9fe068e80", func := "bringup/bringuplaw21.PointAlone", spec := "pointAlone", unfollowed := true, recurses := true, named := ["bringup/clock.off"], apart := false, laid := [("bringup/clock.off", laid_bringup_clock_off)] }
def PointAloneSaid : Prop := pointAloneRow.holds Tryz.pinned (OpenSpec.ofChange pointAloneSpec)

/-- ITS FALSE NEIGHBOUR: 'it returns false'. Refute it at one input. -/
def pointAloneWrong : ChangeSpec := { name := "pointAlone", fn := fun _ => fun
  | [d] => { results := [.lit (.bool false)], args := [d] }
  | _ => none }
def PointAloneWrongFalsely : Prop := pointAloneRow.holds Tryz.pinned (OpenSpec.ofChange pointAloneWrong)

/-- 'bringuplaw21.PointSafe': WHATEVER THE INPUT: true; the input reads as it did. -/
def pointSafeSpec : ChangeSpec := { name := "pointSafe", fn := fun _ => fun
  | [d] => { results := [.lit (.bool true)], args := [d] }
  | _ => none }
def pointSafeRow : OpenClaim := { program := "ytlmhkjdkcoiioaagreatdoor", sum := "97cd7e525bf422640ccca1b58561a2f5929196b300089ad06511f5a9fe068e80", func := "bringup/bringuplaw21.PointSafe", spec := "pointSafe", unfollowed := true, recurses := true, named := ["bringup/clock.off"], apart := false, laid := [("bringup/clock.off", laid_bringup_clock_off)] }
def PointSafeSaid : Prop := pointSafeRow.holds Tryz.pinned (OpenSpec.ofChange pointSafeSpec)

/-- ITS FALSE NEIGHBOUR: 'it returns false'. Refute it at one input. -/
def pointSafeWrong : ChangeSpec := { name := "pointSafe", fn := fun _ => fun
  | [d] => { results := [.lit (.bool false)], args := [d] }
  | _ => none }
def PointSafeWrongFalsely : Prop := pointSafeRow.holds Tryz.pinned (OpenSpec.ofChange pointSafeWrong)

/-- 'bringuplaw21.PointBack': WHATEVER THE INPUT: true; the input reads as it did. -/
def pointBackSpec : ChangeSpec := { name := "pointBack", fn := fun _ => fun
  | [d] => { results := [.lit (.bool true)], args := [d] }
  | _ => none }
def pointBackRow : OpenClaim := { program := "ytlmhkjdkcoiioaagreatdoor", sum := "97cd7e525bf422640ccca1b58561a2f5929196b300089ad06511f5a9fe068e80", func := "bringup/bringuplaw21.PointBack", spec := "pointBack", unfollowed := true, recurses := true, named := ["bringup/clock.off"], apart := false, laid := [("bringup/clock.off", laid_bringup_clock_off)] }
def PointBackSaid : Prop := pointBackRow.holds Tryz.pinned (OpenSpec.ofChange pointBackSpec)

/-- ITS FALSE NEIGHBOUR: 'it returns false'. Refute it at one input. -/
def pointBackWrong : ChangeSpec := { name := "pointBack", fn := fun _ => fun
  | [d] => { results := [.lit (.bool false)], args := [d] }
  | _ => none }
def PointBackWrongFalsely : Prop := pointBackRow.holds Tryz.pinned (OpenSpec.ofChange pointBackWrong)

/-- 'bringuplaw21.PointAnswers': WHATEVER THE INPUT: true; the input reads as it did. -/
def pointAnswersSpec : ChangeSpec := { name := "pointAnswers", fn := fun _ => fun
  | [d1, d2, d3, d4, d5, d6, d7, d8] => { results := [.lit (.bool true)], args := [d1, d2, d3, d4, d5, d6, d7, d8] }
  | _ => none }
def pointAnswersRow : OpenClaim := { program := "ytlmhkjdkcoiioaagreatdoor", sum := "97cd7e525bf422640ccca1b58561a2f5929196b300089ad06511f5a9fe068e80", func := "bringup/bringuplaw21.PointAnswers", spec := "pointAnswers", unfollowed := true, recurses := true, named := ["bringup/clock.off"], apart := false, laid := [("bringup/clock.off", laid_bringup_clock_off)] }
def PointAnswersSaid : Prop := pointAnswersRow.holds Tryz.pinned (OpenSpec.ofChange pointAnswersSpec)

/-- ITS FALSE NEIGHBOUR: 'it returns false'. Refute it at one input. -/
def pointAnswersWrong : ChangeSpec := { name := "pointAnswers", fn := fun _ => fun
  | [d1, d2, d3, d4, d5, d6, d7, d8] => { results := [.lit (.bool false)], args := [d1, d2, d3, d4, d5, d6, d7, d8] }
  | _ => none }
def PointAnswersWrongFalsely : Prop := pointAnswersRow.holds Tryz.pinned (OpenSpec.ofChange pointAnswersWrong)

/- THE SECOND FORM. 'bulk': how many values and letters a reading holds, each counted each time it is reached (what is shared counts as often as it is met; a slice's spare places count too). A statement '..UptoSaid' is the law's where the arguments, and the package variables that the reading takes, are together of bulk at most 1048576: NARROWER than '..Said'. Prove '..Said' where nothing that the law and all that it calls make is longer than what came in: it says more and counts as full. Else prove '..UptoSaid'. A law counts once. -/
mutual
def uptoBulk {H : Type} : DataW H → Nat
  | .lit (.string bytes) => bytes.length + 1
  | .lit _ => 1
  | .nil => 1
  | .ptr d => uptoBulk d + 1
  | .slice elems spare => uptoBulkAll elems + uptoBulkAll spare + 1
  | .agg parts => uptoBulkAll parts + 1
  | .iface _ d => uptoBulk d + 1
  | .map entries => uptoBulkEntries entries + 1
  | .held _ => 1
def uptoBulkAll {H : Type} : List (DataW H) → Nat
  | [] => 0
  | d :: r => uptoBulk d + uptoBulkAll r
def uptoBulkEntries {H : Type} : List (Lit × DataW H) → Nat
  | [] => 0
  | x :: r => uptoBulkEntry x + uptoBulkEntries r
def uptoBulkEntry {H : Type} : Lit × DataW H → Nat
  | (.string bytes, d) => bytes.length + uptoBulk d + 1
  | (_, d) => uptoBulk d + 1
 end
def uptoSmall : (H : Type) → List (DataW H) → Bool := fun _ ds => decide (uptoBulkAll ds ≤ 1048576)
def OpenSpec.upto (s : _root_.Go.ChangeSpec) : _root_.Go.OpenSpec := { _root_.Go.OpenSpec.ofChange s with cond := some uptoSmall }

/-- 'bringuplaw21.PointStages', WHERE WHAT IT READS IS OF BULK AT MOST 1048576: true; the input reads as it did. -/
def pointStagesUptoRow : OpenClaim := { program := "ytlmhkjdkcoiioaagreatdoor", sum := "97cd7e525bf422640ccca1b58561a2f5929196b300089ad06511f5a9fe068e80", func := "bringup/bringuplaw21.PointStages", spec := "pointStages", unfollowed := true, recurses := true, named := ["bringup/clock.off"], apart := false, laid := [("bringup/clock.off", laid_bringup_clock_off)], narrowed := true }
def PointStagesUptoSaid : Prop := pointStagesUptoRow.holds Tryz.pinned (OpenSpec.upto pointStagesSpec)

/-- 'bringuplaw21.PointVoltages', WHERE WHAT IT READS IS OF BULK AT MOST 1048576: true; the input reads as it did. -/
def pointVoltagesUptoRow : OpenClaim := { program := "ytlmhkjdkcoiioaagreatdoor", sum := "97cd7e525bf422640ccca1b58561a2f5929196b300089ad06511f5a9fe068e80", func := "bringup/bringuplaw21.PointVoltages", spec := "pointVoltages", unfollowed := true, recurses := true, named := ["bringup/clock.off"], apart := false, laid := [("bringup/clock.off", laid_bringup_clock_off)], narrowed := true }
def PointVoltagesUptoSaid : Prop := pointVoltagesUptoRow.holds Tryz.pinned (OpenSpec.upto pointVoltagesSpec)

/-- 'bringuplaw21.PointAlone', WHERE WHAT IT READS IS OF BULK AT MOST 1048576: true; the input reads as it did. -/
def pointAloneUptoRow : OpenClaim := { program := "ytlmhkjdkcoiioaagreatdoor", sum := "97cd7e525bf422640ccca1b58561a2f5929196b300089ad06511f5a9fe068e80", func := "bringup/bringuplaw21.PointAlone", spec := "pointAlone", unfollowed := true, recurses := true, named := ["bringup/clock.off"], apart := false, laid := [("bringup/clock.off", laid_bringup_clock_off)], narrowed := true }
def PointAloneUptoSaid : Prop := pointAloneUptoRow.holds Tryz.pinned (OpenSpec.upto pointAloneSpec)

/-- 'bringuplaw21.PointSafe', WHERE WHAT IT READS IS OF BULK AT MOST 1048576: true; the input reads as it did. -/
def pointSafeUptoRow : OpenClaim := { program := "ytlmhkjdkcoiioaagreatdoor", sum := "97cd7e525bf422640ccca1b58561a2f5929196b300089ad06511f5a9fe068e80", func := "bringup/bringuplaw21.PointSafe", spec := "pointSafe", unfollowed := true, recurses := true, named := ["bringup/clock.off"], apart := false, laid := [("bringup/clock.off", laid_bringup_clock_off)], narrowed := true }
def PointSafeUptoSaid : Prop := pointSafeUptoRow.holds Tryz.pinned (OpenSpec.upto pointSafeSpec)

/-- 'bringuplaw21.PointBack', WHERE WHAT IT READS IS OF BULK AT MOST 1048576: true; the input reads as it did. -/
def pointBackUptoRow : OpenClaim := { program := "ytlmhkjdkcoiioaagreatdoor", sum := "97cd7e525bf422640ccca1b58561a2f5929196b300089ad06511f5a9fe068e80", func := "bringup/bringuplaw21.PointBack", spec := "pointBack", unfollowed := true, recurses := true, named := ["bringup/clock.off"], apart := false, laid := [("bringup/clock.off", laid_bringup_clock_off)], narrowed := true }
def PointBackUptoSaid : Prop := pointBackUptoRow.holds Tryz.pinned (OpenSpec.upto pointBackSpec)

/-- 'bringuplaw21.PointAnswers', WHERE WHAT IT READS IS OF BULK AT MOST 1048576: true; the input reads as it did. -/
def pointAnswersUptoRow : OpenClaim := { program := "ytlmhkjdkcoiioaagreatdoor", sum := "97cd7e525bf422640ccca1b58561a2f5929196b300089ad06511f5a9fe068e80", func := "bringup/bringuplaw21.PointAnswers", spec := "pointAnswers", unfollowed := true, recurses := true, named := ["bringup/clock.off"], apart := false, laid := [("bringup/clock.off", laid_bringup_clock_off)], narrowed := true }
def PointAnswersUptoSaid : Prop := pointAnswersUptoRow.holds Tryz.pinned (OpenSpec.upto pointAnswersSpec)

end Rows
end Go.Proofs.YtlmhkjdkcoiioaaGreatDoor
