/-
  NARROWER THAN 'FOR EVERY INPUT', by the rows' own cells (each row's printed sentence says how): ConformFinds: laid · ConformRepairs: laid · ConformOpen: laid · ConformUnknown: laid · ConformAnswers: laid.
  DERIVED. THE GIVEN ROWS OF THIS SEAT. 5 by the template 'for every input the law returns true; each argument reads behind the call as it read before'; 0 by the template 'total and deterministic' (their statements: YtbpkndiecomggaaGreatDoorTotals.lean).
  GIVEN WITH THE SEED: the statements are not yours to turn. If you find one false, say at which input.
  Laid BY PROGRAM, IN A SANDBOX (cutbox-rows.mjs): the forced cells as the released guide's own fill.sh prints them over the translation bbc6b4621bdcd679… (all of the seat's roots in one cut). By AI agents, Wed Nov 11 2026. No macro, syntax, notation, axiom, sorry.
-/
import Derived.Test.YtbpkndiecomggaaGreatDoorChecked
import GoSem.PinnedTables
import GoSem.Claim
import GoSem.ClaimJoined
import GoSem.ClaimMapViews
import Derived.JoinedTies
import Derived.KernelRfl
namespace Go.Proofs.YtbpkndiecomggaaGreatDoor
/- THE CELL 'sum', in the pinned program and in every row, IS THE sha256 OF THE DUMP (.gsa) THAT YtbpkndiecomggaaGreatDoorProg.lean LOADS. Nothing in Lean hashes anything: it is a label: what it is worth is what the hold of that sum in a sandbox is worth. -/
noncomputable def Tryz.pinned : Pinned := { name := "ytbpkndiecomggaagreatdoor", sum := "bbc6b4621bdcd679fe4d15ca87fb13a40afed7684dc84109a5d22dafb2e2571e", checked := Tryz.checked }
namespace Rows
def none {H : Type} : Left H := { results := [], args := [] }

/- WHAT THE LISTED PACKAGE-LEVEL VARIABLES READ AS WHEN THE CALL BEGINS. Each datum BY PROGRAM (the guide's laid-datum.mjs) off the statement by which the dump's own 'gosem.cut.vars' lays the variable. In a bare row this is a premise. The card (YtbpkndiecomggaaGreatDoorCards.lean) ties it to the program's text. -/
def laid_unicode_utf8_acceptRanges {H : Type} : DataW H := .agg [.agg [.lit (.int .u8 128), .lit (.int .u8 191)], .agg [.lit (.int .u8 160), .lit (.int .u8 191)], .agg [.lit (.int .u8 128), .lit (.int .u8 159)], .agg [.lit (.int .u8 144), .lit (.int .u8 191)], .agg [.lit (.int .u8 128), .lit (.int .u8 143)], .agg [.lit (.int .u8 0), .lit (.int .u8 0)], .agg [.lit (.int .u8 0), .lit (.int .u8 0)], .agg [.lit (.int .u8 0), .lit (.int .u8 0)], .agg [.lit (.int .u8 0), .lit (.int .u8 0)], .agg [.lit (.int .u8 0), .lit (.int .u8 0)], .agg [.lit (.int .u8 0), .lit (.int .u8 0)], .agg [.lit (.int .u8 0), .lit (.int .u8 0)], .agg [.lit (.int .u8 0), .lit (.int .u8 0)], .agg [.lit (.int .u8 0), .lit (.int .u8 0)], .agg [.lit (.int .u8 0), .lit (.int .u8 0)], .agg [.lit (.int .u8 0), .lit (.int .u8 0)]]
def laid_bringup_conform_standard {H : Type} : DataW H := .agg [.lit (.string [99, 111, 109, 112, 97, 116, 105, 98, 108, 101]), .lit (.string [112, 104, 97, 110, 100, 108, 101]), .lit (.string [115, 116, 97, 116, 117, 115]), .lit (.string [114, 101, 103]), .lit (.string [114, 97, 110, 103, 101, 115]), .lit (.string [35, 97, 100, 100, 114, 101, 115, 115, 45, 99, 101, 108, 108, 115]), .lit (.string [35, 115, 105, 122, 101, 45, 99, 101, 108, 108, 115])]
/-- One of Go's own tables, pinned by name: the form's constant. -/
def laid_unicode_utf8_first : DataW Unit := Go.Pinned.utf8First

/-- 'bringuplaw10.ConformFinds': WHATEVER THE INPUT: true; the input reads as it did. -/
def conformFindsSpec : ChangeSpec := { name := "conformFinds", fn := fun _ => fun
  | [d] => { results := [.lit (.bool true)], args := [d] }
  | _ => none }
def conformFindsRow : OpenClaim := { program := "ytbpkndiecomggaagreatdoor", sum := "bbc6b4621bdcd679fe4d15ca87fb13a40afed7684dc84109a5d22dafb2e2571e", func := "bringup/bringuplaw10.ConformFinds", spec := "conformFinds", inPlace := ["internal/bytealg.IndexByteString", "internal/bytealg.IndexString", "internal/bytealg.CountString"], unfollowed := true, recurses := true, named := ["internal/bytealg.MaxLen", "bringup/conform.standard", "unicode/utf8.first", "unicode/utf8.acceptRanges"], plainKeys := false, apart := false, laid := [("unicode/utf8.acceptRanges", laid_unicode_utf8_acceptRanges), ("bringup/conform.standard", laid_bringup_conform_standard), ("unicode/utf8.first", laid_unicode_utf8_first)] }
def ConformFindsSaid : Prop := conformFindsRow.holds Tryz.pinned (OpenSpec.ofChange conformFindsSpec)

/-- ITS FALSE NEIGHBOUR: 'it returns false'. Refute it at one input. -/
def conformFindsWrong : ChangeSpec := { name := "conformFinds", fn := fun _ => fun
  | [d] => { results := [.lit (.bool false)], args := [d] }
  | _ => none }
def ConformFindsWrongFalsely : Prop := conformFindsRow.holds Tryz.pinned (OpenSpec.ofChange conformFindsWrong)

/-- 'bringuplaw10.ConformRepairs': WHATEVER THE INPUT: true; the input reads as it did. -/
def conformRepairsSpec : ChangeSpec := { name := "conformRepairs", fn := fun _ => fun
  | [d] => { results := [.lit (.bool true)], args := [d] }
  | _ => none }
def conformRepairsRow : OpenClaim := { program := "ytbpkndiecomggaagreatdoor", sum := "bbc6b4621bdcd679fe4d15ca87fb13a40afed7684dc84109a5d22dafb2e2571e", func := "bringup/bringuplaw10.ConformRepairs", spec := "conformRepairs", inPlace := ["internal/bytealg.IndexByteString", "internal/bytealg.IndexString", "internal/bytealg.CountString"], unfollowed := true, recurses := true, named := ["internal/bytealg.MaxLen", "bringup/conform.standard", "unicode/utf8.first", "unicode/utf8.acceptRanges"], plainKeys := false, apart := false, laid := [("unicode/utf8.acceptRanges", laid_unicode_utf8_acceptRanges), ("bringup/conform.standard", laid_bringup_conform_standard), ("unicode/utf8.first", laid_unicode_utf8_first)] }
def ConformRepairsSaid : Prop := conformRepairsRow.holds Tryz.pinned (OpenSpec.ofChange conformRepairsSpec)

/-- ITS FALSE NEIGHBOUR: 'it returns false'. Refute it at one input. -/
def conformRepairsWrong : ChangeSpec := { name := "conformRepairs", fn := fun _ => fun
  | [d] => { results := [.lit (.bool false)], args := [d] }
  | _ => none }
def ConformRepairsWrongFalsely : Prop := conformRepairsRow.holds Tryz.pinned (OpenSpec.ofChange conformRepairsWrong)

/-- 'bringuplaw10.ConformOpen': WHATEVER THE INPUT: true; the input reads as it did. -/
def conformOpenSpec : ChangeSpec := { name := "conformOpen", fn := fun _ => fun
  | [d1, d2] => { results := [.lit (.bool true)], args := [d1, d2] }
  | _ => none }
def conformOpenRow : OpenClaim := { program := "ytbpkndiecomggaagreatdoor", sum := "bbc6b4621bdcd679fe4d15ca87fb13a40afed7684dc84109a5d22dafb2e2571e", func := "bringup/bringuplaw10.ConformOpen", spec := "conformOpen", inPlace := ["internal/bytealg.IndexByteString", "internal/bytealg.IndexString", "internal/bytealg.CountString"], unfollowed := true, recurses := true, named := ["internal/bytealg.MaxLen", "bringup/conform.standard", "unicode/utf8.first", "unicode/utf8.acceptRanges"], plainKeys := false, apart := false, laid := [("unicode/utf8.acceptRanges", laid_unicode_utf8_acceptRanges), ("bringup/conform.standard", laid_bringup_conform_standard), ("unicode/utf8.first", laid_unicode_utf8_first)] }
def ConformOpenSaid : Prop := conformOpenRow.holds Tryz.pinned (OpenSpec.ofChange conformOpenSpec)

/-- ITS FALSE NEIGHBOUR: 'it returns false'. Refute it at one input. -/
def conformOpenWrong : ChangeSpec := { name := "conformOpen", fn := fun _ => fun
  | [d1, d2] => { results := [.lit (.bool false)], args := [d1, d2] }
  | _ => none }
def ConformOpenWrongFalsely : Prop := conformOpenRow.holds Tryz.pinned (OpenSpec.ofChange conformOpenWrong)

/-- 'bringuplaw10.ConformUnknown': WHATEVER THE INPUT: true; the input reads as it did. -/
def conformUnknownSpec : ChangeSpec := { name := "conformUnknown", fn := fun _ => fun
  | [d] => { results := [.lit (.bool true)], args := [d] }
  | _ => none }
def conformUnknownRow : OpenClaim := { program := "ytbpkndiecomggaagreatdoor", sum := "bbc6b4621bdcd679fe4d15ca87fb13a40afed7684dc84109a5d22dafb2e2571e", func := "bringup/bringuplaw10.ConformUnknown", spec := "conformUnknown", inPlace := ["internal/bytealg.IndexByteString", "internal/bytealg.IndexString", "internal/bytealg.CountString"], unfollowed := true, recurses := true, named := ["internal/bytealg.MaxLen", "bringup/conform.standard", "unicode/utf8.first", "unicode/utf8.acceptRanges"], plainKeys := false, apart := false, laid := [("unicode/utf8.acceptRanges", laid_unicode_utf8_acceptRanges), ("bringup/conform.standard", laid_bringup_conform_standard), ("unicode/utf8.first", laid_unicode_utf8_first)] }
def ConformUnknownSaid : Prop := conformUnknownRow.holds Tryz.pinned (OpenSpec.ofChange conformUnknownSpec)

/-- ITS FALSE NEIGHBOUR: 'it returns false'. Refute it at one input. -/
def conformUnknownWrong : ChangeSpec := { name := "conformUnknown", fn := fun _ => fun
  | [d] => { results := [.lit (.bool false)], args := [d] }
  | _ => none }
def ConformUnknownWrongFalsely : Prop := conformUnknownRow.holds Tryz.pinned (OpenSpec.ofChange conformUnknownWrong)

/-- 'bringuplaw10.ConformAnswers': WHATEVER THE INPUT: true; the input reads as it did. -/
def conformAnswersSpec : ChangeSpec := { name := "conformAnswers", fn := fun _ => fun
  | [d1, d2, d3, d4, d5] => { results := [.lit (.bool true)], args := [d1, d2, d3, d4, d5] }
  | _ => none }
def conformAnswersRow : OpenClaim := { program := "ytbpkndiecomggaagreatdoor", sum := "bbc6b4621bdcd679fe4d15ca87fb13a40afed7684dc84109a5d22dafb2e2571e", func := "bringup/bringuplaw10.ConformAnswers", spec := "conformAnswers", inPlace := ["internal/bytealg.IndexByteString", "internal/bytealg.IndexString", "internal/bytealg.CountString"], unfollowed := true, recurses := true, named := ["internal/bytealg.MaxLen", "bringup/conform.standard", "unicode/utf8.first", "unicode/utf8.acceptRanges"], plainKeys := false, apart := false, laid := [("unicode/utf8.acceptRanges", laid_unicode_utf8_acceptRanges), ("bringup/conform.standard", laid_bringup_conform_standard), ("unicode/utf8.first", laid_unicode_utf8_first)] }
def ConformAnswersSaid : Prop := conformAnswersRow.holds Tryz.pinned (OpenSpec.ofChange conformAnswersSpec)

/-- ITS FALSE NEIGHBOUR: 'it returns false'. Refute it at one input. -/
def conformAnswersWrong : ChangeSpec := { name := "conformAnswers", fn := fun _ => fun
  | [d1, d2, d3, d4, d5] => { results := [.lit (.bool false)], args := [d1, d2, d3, d4, d5] }
  | _ => none }
def ConformAnswersWrongFalsely : Prop := conformAnswersRow.holds Tryz.pinned (OpenSpec.ofChange conformAnswersWrong)

/- THE SECOND FORM. 'bulk': how many values and letters a reading holds, each counted each time it is reached (what is shared counts as often as it is met; a slice's spare places count too). A statement '..UptoSaid' is the law's where the arguments, and the package variables that the reading takes, are together of bulk at most 1048576: NARROWER than '..Said'. Prove '..Said' where nothing that the law and all that it calls make is longer than what came in: it says more and counts as full. Else prove '..UptoSaid'. A law counts once. -/
mutual
def uptoBulk {H : Type} : DataW H → Nat
  | .lit (.string bytes) => bytes.length + 1
  | .lit _ => 1
  | .nil => 1
  | .ptr d => uptoBulk d + 1
  | .slice elems spare => uptoBulkAll elems + uptoBulkAll spare + 1
  | .agg parts => uptoBulkAll parts + 1
  | .iface _ d => uptoBulk d + 1
  | .map entries => uptoBulkEntries entries + 1
  | .held _ => 1
def uptoBulkAll {H : Type} : List (DataW H) → Nat
  | [] => 0
  | d :: r => uptoBulk d + uptoBulkAll r
def uptoBulkEntries {H : Type} : List (Lit × DataW H) → Nat
  | [] => 0
  | x :: r => uptoBulkEntry x + uptoBulkEntries r
def uptoBulkEntry {H : Type} : Lit × DataW H → Nat
  | (.string bytes, d) => bytes.length + uptoBulk d + 1
  | (_, d) => uptoBulk d + 1
 end
def uptoSmall : (H : Type) → List (DataW H) → Bool := fun _ ds => decide (uptoBulkAll ds ≤ 1048576)
def OpenSpec.upto (s : _root_.Go.ChangeSpec) : _root_.Go.OpenSpec := { _root_.Go.OpenSpec.ofChange s with cond := some uptoSmall }

/-- 'bringuplaw10.ConformFinds', WHERE WHAT IT READS IS OF BULK AT MOST 1048576: true; the input reads as it did. -/
def conformFindsUptoRow : OpenClaim := { program := "ytbpkndiecomggaagreatdoor", sum := "bbc6b4621bdcd679fe4d15ca87fb13a40afed7684dc84109a5d22dafb2e2571e", func := "bringup/bringuplaw10.ConformFinds", spec := "conformFinds", inPlace := ["internal/bytealg.IndexByteString", "internal/bytealg.IndexString", "internal/bytealg.CountString"], unfollowed := true, recurses := true, named := ["internal/bytealg.MaxLen", "bringup/conform.standard", "unicode/utf8.first", "unicode/utf8.acceptRanges"], plainKeys := false, apart := false, laid := [("unicode/utf8.acceptRanges", laid_unicode_utf8_acceptRanges), ("bringup/conform.standard", laid_bringup_conform_standard), ("unicode/utf8.first", laid_unicode_utf8_first)], narrowed := true }
def ConformFindsUptoSaid : Prop := conformFindsUptoRow.holds Tryz.pinned (OpenSpec.upto conformFindsSpec)

/-- 'bringuplaw10.ConformRepairs', WHERE WHAT IT READS IS OF BULK AT MOST 1048576: true; the input reads as it did. -/
def conformRepairsUptoRow : OpenClaim := { program := "ytbpkndiecomggaagreatdoor", sum := "bbc6b4621bdcd679fe4d15ca87fb13a40afed7684dc84109a5d22dafb2e2571e", func := "bringup/bringuplaw10.ConformRepairs", spec := "conformRepairs", inPlace := ["internal/bytealg.IndexByteString", "internal/bytealg.IndexString", "internal/bytealg.CountString"], unfollowed := true, recurses := true, named := ["internal/bytealg.MaxLen", "bringup/conform.standard", "unicode/utf8.first", "unicode/utf8.acceptRanges"], plainKeys := false, apart := false, laid := [("unicode/utf8.acceptRanges", laid_unicode_utf8_acceptRanges), ("bringup/conform.standard", laid_bringup_conform_standard), ("unicode/utf8.first", laid_unicode_utf8_first)], narrowed := true }
def ConformRepairsUptoSaid : Prop := conformRepairsUptoRow.holds Tryz.pinned (OpenSpec.upto conformRepairsSpec)

/-- 'bringuplaw10.ConformOpen', WHERE WHAT IT READS IS OF BULK AT MOST 1048576: true; the input reads as it did. -/
def conformOpenUptoRow : OpenClaim := { program := "ytbpkndiecomggaagreatdoor", sum := "bbc6b4621bdcd679fe4d15ca87fb13a40afed7684dc84109a5d22dafb2e2571e", func := "bringup/bringuplaw10.ConformOpen", spec := "conformOpen", inPlace := ["internal/bytealg.IndexByteString", "internal/bytealg.IndexString", "internal/bytealg.CountString"], unfollowed := true, recurses := true, named := ["internal/bytealg.MaxLen", "bringup/conform.standard", "unicode/utf8.first", "unicode/utf8.acceptRanges"], plainKeys := false, apart := false, laid := [("unicode/utf8.acceptRanges", laid_unicode_utf8_acceptRanges), ("bringup/conform.standard", laid_bringup_conform_standard), ("unicode/utf8.first", laid_unicode_utf8_first)], narrowed := true }
def ConformOpenUptoSaid : Prop := conformOpenUptoRow.holds Tryz.pinned (OpenSpec.upto conformOpenSpec)

/-- 'bringuplaw10.ConformUnknown', WHERE WHAT IT READS IS OF BULK AT MOST 1048576: true; the input reads as it did. -/
def conformUnknownUptoRow : OpenClaim := { program := "ytbpkndiecomggaagreatdoor", sum := "bbc6b4621bdcd679fe4d15ca87fb13a40afed7684dc84109a5d22dafb2e2571e", func := "bringup/bringuplaw10.ConformUnknown", spec := "conformUnknown", inPlace := ["internal/bytealg.IndexByteString", "internal/bytealg.IndexString", "internal/bytealg.CountString"], unfollowed := true, recurses := true, named := ["internal/bytealg.MaxLen", "bringup/conform.standard", "unicode/utf8.first", "unicode/utf8.acceptRanges"], plainKeys := false, apart := false, laid := [("unicode/utf8.acceptRanges", laid_unicode_utf8_acceptRanges), ("bringup/conform.standard", laid_bringup_conform_standard), ("unicode/utf8.first", laid_unicode_utf8_first)], narrowed := true }
def ConformUnknownUptoSaid : Prop := conformUnknownUptoRow.holds Tryz.pinned (OpenSpec.upto conformUnknownSpec)

/-- 'bringuplaw10.ConformAnswers', WHERE WHAT IT READS IS OF BULK AT MOST 1048576: true; the input reads as it did. -/
def conformAnswersUptoRow : OpenClaim := { program := "ytbpkndiecomggaagreatdoor", sum := "bbc6b4621bdcd679fe4d15ca87fb13a40afed7684dc84109a5d22dafb2e2571e", func := "bringup/bringuplaw10.ConformAnswers", spec := "conformAnswers", inPlace := ["internal/bytealg.IndexByteString", "internal/bytealg.IndexString", "internal/bytealg.CountString"], unfollowed := true, recurses := true, named := ["internal/bytealg.MaxLen", "bringup/conform.standard", "unicode/utf8.first", "unicode/utf8.acceptRanges"], plainKeys := false, apart := false, laid := [("unicode/utf8.acceptRanges", laid_unicode_utf8_acceptRanges), ("bringup/conform.standard", laid_bringup_conform_standard), ("unicode/utf8.first", laid_unicode_utf8_first)], narrowed := true }
def ConformAnswersUptoSaid : Prop := conformAnswersUptoRow.holds Tryz.pinned (OpenSpec.upto conformAnswersSpec)

end Rows
end Go.Proofs.YtbpkndiecomggaaGreatDoor
