/-
  NARROWER THAN 'FOR EVERY INPUT', by the rows' own cells (each row's printed sentence says how): TuningAnswers: laid · RetuneProves: laid · RetuneAnswers: laid.
  DERIVED. THE GIVEN ROWS OF THIS SEAT. 3 by the template 'for every input the law returns true; each argument reads behind the call as it read before'; 0 by the template 'total and deterministic' (their statements: YtenehghpmnajpaaGreatDoorTotals.lean).
  GIVEN WITH THE SEED: the statements are not yours to turn. If you find one false, say at which input.
  Laid BY PROGRAM, IN A SANDBOX (cutbox-rows.mjs): the forced cells as the released guide's own fill.sh prints them over the translation abc1023bb741bfe4… (all of the seat's roots in one cut). By AI agents, Wed Nov 11 2026. No macro, syntax, notation, axiom, sorry.
-/
import Derived.Test.YtenehghpmnajpaaGreatDoorChecked
import GoSem.Claim
import GoSem.ClaimJoined
import GoSem.ClaimMapViews
import Derived.JoinedTies
import Derived.KernelRfl
namespace Go.Proofs.YtenehghpmnajpaaGreatDoor
/- THE CELL 'sum', in the pinned program and in every row, IS THE sha256 OF THE DUMP (.gsa) THAT YtenehghpmnajpaaGreatDoorProg.lean LOADS. Nothing in Lean hashes anything: it is a label: what it is worth is what the hold of that sum in a sandbox is worth. -/
noncomputable def Tryz.pinned : Pinned := { name := "ytenehghpmnajpaagreatdoor", sum := "abc1023bb741bfe41e8495271f6c136cdc3d841a8017939c414e1cc63449bc8f", checked := Tryz.checked }
namespace Rows
def none {H : Type} : Left H := { results := [], args := [] }

/- WHAT THE LISTED PACKAGE-LEVEL VARIABLES READ AS WHEN THE CALL BEGINS. Each datum BY PROGRAM (the guide's laid-datum.mjs) off the statement by which the dump's own 'gosem.cut.vars' lays the variable. In a bare row this is a premise. The card (YtenehghpmnajpaaGreatDoorCards.lean) ties it to the program's text. -/
def laid_bringup_clock_off {H : Type} : DataW H := .agg [.lit (.int .i64 0), .lit (.int .i64 1)]

/-- 'bringuplaw17.TuningAnswers': WHATEVER THE INPUT: true; the input reads as it did. -/
def tuningAnswersSpec : ChangeSpec := { name := "tuningAnswers", fn := fun _ => fun
  | [d1, d2, d3, d4] => { results := [.lit (.bool true)], args := [d1, d2, d3, d4] }
  | _ => none }
def tuningAnswersRow : OpenClaim := { program := "ytenehghpmnajpaagreatdoor", sum := "abc1023bb741bfe41e8495271f6c136cdc3d841a8017939c414e1cc63449bc8f", func := "bringup/bringuplaw17.TuningAnswers", spec := "tuningAnswers", unfollowed := true, recurses := true, named := ["bringup/clock.off"], apart := false, laid := [("bringup/clock.off", laid_bringup_clock_off)] }
def TuningAnswersSaid : Prop := tuningAnswersRow.holds Tryz.pinned (OpenSpec.ofChange tuningAnswersSpec)

/-- ITS FALSE NEIGHBOUR: 'it returns false'. Refute it at one input. -/
def tuningAnswersWrong : ChangeSpec := { name := "tuningAnswers", fn := fun _ => fun
  | [d1, d2, d3, d4] => { results := [.lit (.bool false)], args := [d1, d2, d3, d4] }
  | _ => none }
def TuningAnswersWrongFalsely : Prop := tuningAnswersRow.holds Tryz.pinned (OpenSpec.ofChange tuningAnswersWrong)

/-- 'bringuplaw18.RetuneProves': WHATEVER THE INPUT: true; the input reads as it did. -/
def retuneProvesSpec : ChangeSpec := { name := "retuneProves", fn := fun _ => fun
  | [d] => { results := [.lit (.bool true)], args := [d] }
  | _ => none }
def retuneProvesRow : OpenClaim := { program := "ytenehghpmnajpaagreatdoor", sum := "abc1023bb741bfe41e8495271f6c136cdc3d841a8017939c414e1cc63449bc8f", func := "bringup/bringuplaw18.RetuneProves", spec := "retuneProves", unfollowed := true, recurses := true, named := ["bringup/clock.off"], apart := false, laid := [("bringup/clock.off", laid_bringup_clock_off)] }
def RetuneProvesSaid : Prop := retuneProvesRow.holds Tryz.pinned (OpenSpec.ofChange retuneProvesSpec)

/-- ITS FALSE NEIGHBOUR: 'it returns false'. Refute it at one input. -/
def retuneProvesWrong : ChangeSpec := { name := "retuneProves", fn := fun _ => fun
  | [d] => { results := [.lit (.bool false)], args := [d] }
  | _ => none }
def RetuneProvesWrongFalsely : Prop := retuneProvesRow.holds Tryz.pinned (OpenSpec.ofChange retuneProvesWrong)

/-- 'bringuplaw18.RetuneAnswers': WHATEVER THE INPUT: true; the input reads as it did. -/
def retuneAnswersSpec : ChangeSpec := { name := "retuneAnswers", fn := fun _ => fun
  | [d1, d2, d3, d4, d5, d6, d7] => { results := [.lit (.bool true)], args := [d1, d2, d3, d4, d5, d6, d7] }
  | _ => none }
def retuneAnswersRow : OpenClaim := { program := "ytenehghpmnajpaagreatdoor", sum := "abc1023bb741bfe41e8495271f6c136cdc3d841a8017939c414e1cc63449bc8f", func := "bringup/bringuplaw18.RetuneAnswers", spec := "retuneAnswers", unfollowed := true, recurses := true, named := ["bringup/clock.off"], apart := false, laid := [("bringup/clock.off", laid_bringup_clock_off)] }
def RetuneAnswersSaid : Prop := retuneAnswersRow.holds Tryz.pinned (OpenSpec.ofChange retuneAnswersSpec)

/-- ITS FALSE NEIGHBOUR: 'it returns false'. Refute it at one input. -/
def retuneAnswersWrong : ChangeSpec := { name := "retuneAnswers", fn := fun _ => fun
  | [d1, d2, d3, d4, d5, d6, d7] => { results := [.lit (.bool false)], args := [d1, d2, d3, d4, d5, d6, d7] }
  | _ => none }
def RetuneAnswersWrongFalsely : Prop := retuneAnswersRow.holds Tryz.pinned (OpenSpec.ofChange retuneAnswersWrong)

/- THE SECOND FORM. 'bulk': how many values and letters a reading holds, each counted each time it is reached (what is shared counts as often as it is met; a slice's spare places count too). A statement '..UptoSaid' is the law's where the arguments, and the package variables that the reading takes, are together of bulk at most 1048576: NARROWER than '..Said'. Prove '..Said' where nothing that the law and all that it calls make is longer than what came in: it says more and counts as full. Else prove '..UptoSaid'. A law counts once. -/
mutual
def uptoBulk {H : Type} : DataW H → Nat
  | .lit (.string bytes) => bytes.length + 1
  | .lit _ => 1
  | .nil => 1
  | .ptr d => uptoBulk d + 1
  | .slice elems spare => uptoBulkAll elems + uptoBulkAll spare + 1
  | .agg parts => uptoBulkAll parts + 1
  | .iface _ d => uptoBulk d + 1
  | .map entries => uptoBulkEntries entries + 1
  | .held _ => 1
def uptoBulkAll {H : Type} : List (DataW H) → Nat
  | [] => 0
  | d :: r => uptoBulk d + uptoBulkAll r
def uptoBulkEntries {H : Type} : List (Lit × DataW H) → Nat
  | [] => 0
  | x :: r => uptoBulkEntry x + uptoBulkEntries r
def uptoBulkEntry {H : Type} : Lit × DataW H → Nat
  | (.string bytes, d) => bytes.length + uptoBulk d + 1
  | (_, d) => uptoBulk d + 1
 end
def uptoSmall : (H : Type) → List (DataW H) → Bool := fun _ ds => decide (uptoBulkAll ds ≤ 1048576)
def OpenSpec.upto (s : _root_.Go.ChangeSpec) : _root_.Go.OpenSpec := { _root_.Go.OpenSpec.ofChange s with cond := some uptoSmall }

/-- 'bringuplaw17.TuningAnswers', WHERE WHAT IT READS IS OF BULK AT MOST 1048576: true; the input reads as it did. -/
def tuningAnswersUptoRow : OpenClaim := { program := "ytenehghpmnajpaagreatdoor", sum := "abc1023bb741bfe41e8495271f6c136cdc3d841a8017939c414e1cc63449bc8f", func := "bringup/bringuplaw17.TuningAnswers", spec := "tuningAnswers", unfollowed := true, recurses := true, named := ["bringup/clock.off"], apart := false, laid := [("bringup/clock.off", laid_bringup_clock_off)], narrowed := true }
def TuningAnswersUptoSaid : Prop := tuningAnswersUptoRow.holds Tryz.pinned (OpenSpec.upto tuningAnswersSpec)

/-- 'bringuplaw18.RetuneProves', WHERE WHAT IT READS IS OF BULK AT MOST 1048576: true; the input reads as it did. -/
def retuneProvesUptoRow : OpenClaim := { program := "ytenehghpmnajpaagreatdoor", sum := "abc1023bb741bfe41e8495271f6c136cdc3d841a8017939c414e1cc63449bc8f", func := "bringup/bringuplaw18.RetuneProves", spec := "retuneProves", unfollowed := true, recurses := true, named := ["bringup/clock.off"], apart := false, laid := [("bringup/clock.off", laid_bringup_clock_off)], narrowed := true }
def RetuneProvesUptoSaid : Prop := retuneProvesUptoRow.holds Tryz.pinned (OpenSpec.upto retuneProvesSpec)

/-- 'bringuplaw18.RetuneAnswers', WHERE WHAT IT READS IS OF BULK AT MOST 1048576: true; the input reads as it did. -/
def retuneAnswersUptoRow : OpenClaim := { program := "ytenehghpmnajpaagreatdoor", sum := "abc1023bb741bfe41e8495271f6c136cdc3d841a8017939c414e1cc63449bc8f", func := "bringup/bringuplaw18.RetuneAnswers", spec := "retuneAnswers", unfollowed := true, recurses := true, named := ["bringup/clock.off"], apart := false, laid := [("bringup/clock.off", laid_bringup_clock_off)], narrowed := true }
def RetuneAnswersUptoSaid : Prop := retuneAnswersUptoRow.holds Tryz.pinned (OpenSpec.upto retuneAnswersSpec)

end Rows
end Go.Proofs.YtenehghpmnajpaaGreatDoor
