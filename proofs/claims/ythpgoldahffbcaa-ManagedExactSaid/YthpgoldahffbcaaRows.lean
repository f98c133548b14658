/-
  No cell of these rows narrows 'for every input' (looked for: loops, veiled, ifaces, maps, wideKeys, modest, calm, conditions, laid).
  DERIVED. THE GIVEN ROWS OF THIS SEAT. 4 by the template 'for every input the law returns true; each argument reads behind the call as it read before'; 0 by the template 'total and deterministic' (their statements: YthpgoldahffbcaaTotals.lean).
  GIVEN WITH THE SEED: the statements are not yours to turn. If you find one false, say at which input.
  Laid BY PROGRAM, IN A SANDBOX (cutbox-rows.mjs): the forced cells as the released guide's own fill.sh prints them over the translation c0329a98846b5b90… (all of the seat's roots in one cut). By AI agents, Wed Nov 11 2026. No macro, syntax, notation, axiom, sorry.
-/
import Derived.Test.YthpgoldahffbcaaChecked
import GoSem.Claim
import GoSem.ClaimJoined
import GoSem.ClaimMapViews
import Derived.JoinedTies
import Derived.KernelRfl
namespace Go.Proofs.Ythpgoldahffbcaa
/- THE CELL 'sum', in the pinned program and in every row, IS THE sha256 OF THE DUMP (.gsa) THAT YthpgoldahffbcaaProg.lean LOADS. Nothing in Lean hashes anything: it is a label: what it is worth is what the hold of that sum in a sandbox is worth. -/
noncomputable def Try.pinned : Pinned := { name := "ythpgoldahffbcaa", sum := "c0329a98846b5b90419ed6b064acd99630b4ac9e4459b347e63db9164a89dc8b", checked := Try.checked }
namespace Rows
def none {H : Type} : Left H := { results := [], args := [] }

/-- 'bringuplaw36.ManagedReturns': WHATEVER THE INPUT: true; the input reads as it did. -/
def managedReturnsSpec : ChangeSpec := { name := "managedReturns", fn := fun _ => fun
  | [d1, d2] => { results := [.lit (.bool true)], args := [d1, d2] }
  | _ => none }
def managedReturnsRow : OpenClaim := { program := "ythpgoldahffbcaa", sum := "c0329a98846b5b90419ed6b064acd99630b4ac9e4459b347e63db9164a89dc8b", func := "bringup/bringuplaw36.ManagedReturns", spec := "managedReturns", unfollowed := true, recurses := true, apart := false }
def ManagedReturnsSaid : Prop := managedReturnsRow.holds Try.pinned (OpenSpec.ofChange managedReturnsSpec)

/-- ITS FALSE NEIGHBOUR: 'it returns false'. Refute it at one input. -/
def managedReturnsWrong : ChangeSpec := { name := "managedReturns", fn := fun _ => fun
  | [d1, d2] => { results := [.lit (.bool false)], args := [d1, d2] }
  | _ => none }
def ManagedReturnsWrongFalsely : Prop := managedReturnsRow.holds Try.pinned (OpenSpec.ofChange managedReturnsWrong)

/-- 'bringuplaw36.ManagedFull': WHATEVER THE INPUT: true; the input reads as it did. -/
def managedFullSpec : ChangeSpec := { name := "managedFull", fn := fun _ => fun
  | [d] => { results := [.lit (.bool true)], args := [d] }
  | _ => none }
def managedFullRow : OpenClaim := { program := "ythpgoldahffbcaa", sum := "c0329a98846b5b90419ed6b064acd99630b4ac9e4459b347e63db9164a89dc8b", func := "bringup/bringuplaw36.ManagedFull", spec := "managedFull", unfollowed := true, recurses := true, apart := false }
def ManagedFullSaid : Prop := managedFullRow.holds Try.pinned (OpenSpec.ofChange managedFullSpec)

/-- ITS FALSE NEIGHBOUR: 'it returns false'. Refute it at one input. -/
def managedFullWrong : ChangeSpec := { name := "managedFull", fn := fun _ => fun
  | [d] => { results := [.lit (.bool false)], args := [d] }
  | _ => none }
def ManagedFullWrongFalsely : Prop := managedFullRow.holds Try.pinned (OpenSpec.ofChange managedFullWrong)

/-- 'bringuplaw36.ManagedExact': WHATEVER THE INPUT: true; the input reads as it did. -/
def managedExactSpec : ChangeSpec := { name := "managedExact", fn := fun _ => fun
  | [d1, d2, d3, d4, d5] => { results := [.lit (.bool true)], args := [d1, d2, d3, d4, d5] }
  | _ => none }
def managedExactRow : OpenClaim := { program := "ythpgoldahffbcaa", sum := "c0329a98846b5b90419ed6b064acd99630b4ac9e4459b347e63db9164a89dc8b", func := "bringup/bringuplaw36.ManagedExact", spec := "managedExact", unfollowed := true, recurses := true, apart := false }
def ManagedExactSaid : Prop := managedExactRow.holds Try.pinned (OpenSpec.ofChange managedExactSpec)

/-- ITS FALSE NEIGHBOUR: 'it returns false'. Refute it at one input. -/
def managedExactWrong : ChangeSpec := { name := "managedExact", fn := fun _ => fun
  | [d1, d2, d3, d4, d5] => { results := [.lit (.bool false)], args := [d1, d2, d3, d4, d5] }
  | _ => none }
def ManagedExactWrongFalsely : Prop := managedExactRow.holds Try.pinned (OpenSpec.ofChange managedExactWrong)

/-- 'bringuplaw36.ManagedAlone': WHATEVER THE INPUT: true; the input reads as it did. -/
def managedAloneSpec : ChangeSpec := { name := "managedAlone", fn := fun _ => fun
  | [d] => { results := [.lit (.bool true)], args := [d] }
  | _ => none }
def managedAloneRow : OpenClaim := { program := "ythpgoldahffbcaa", sum := "c0329a98846b5b90419ed6b064acd99630b4ac9e4459b347e63db9164a89dc8b", func := "bringup/bringuplaw36.ManagedAlone", spec := "managedAlone", unfollowed := true, recurses := true, apart := false }
def ManagedAloneSaid : Prop := managedAloneRow.holds Try.pinned (OpenSpec.ofChange managedAloneSpec)

/-- ITS FALSE NEIGHBOUR: 'it returns false'. Refute it at one input. -/
def managedAloneWrong : ChangeSpec := { name := "managedAlone", fn := fun _ => fun
  | [d] => { results := [.lit (.bool false)], args := [d] }
  | _ => none }
def ManagedAloneWrongFalsely : Prop := managedAloneRow.holds Try.pinned (OpenSpec.ofChange managedAloneWrong)

/- THE SECOND FORM. 'bulk': how many values and letters a reading holds, each counted each time it is reached (what is shared counts as often as it is met; a slice's spare places count too). A statement '..UptoSaid' is the law's where the arguments, and the package variables that the reading takes, are together of bulk at most 1048576: NARROWER than '..Said'. Prove '..Said' where nothing that the law and all that it calls make is longer than what came in: it says more and counts as full. Else prove '..UptoSaid'. A law counts once. -/
mutual
def uptoBulk {H : Type} : DataW H → Nat
  | .lit (.string bytes) => bytes.length + 1
  | .lit _ => 1
  | .nil => 1
  | .ptr d => uptoBulk d + 1
  | .slice elems spare => uptoBulkAll elems + uptoBulkAll spare + 1
  | .agg parts => uptoBulkAll parts + 1
  | .iface _ d => uptoBulk d + 1
  | .map entries => uptoBulkEntries entries + 1
  | .held _ => 1
def uptoBulkAll {H : Type} : List (DataW H) → Nat
  | [] => 0
  | d :: r => uptoBulk d + uptoBulkAll r
def uptoBulkEntries {H : Type} : List (Lit × DataW H) → Nat
  | [] => 0
  | x :: r => uptoBulkEntry x + uptoBulkEntries r
def uptoBulkEntry {H : Type} : Lit × DataW H → Nat
  | (.string bytes, d) => bytes.length + uptoBulk d + 1
  | (_, d) => uptoBulk d + 1
 end
def uptoSmall : (H : Type) → List (DataW H) → Bool := fun _ ds => decide (uptoBulkAll ds ≤ 1048576)
def OpenSpec.upto (s : _root_.Go.ChangeSpec) : _root_.Go.OpenSpec := { _root_.Go.OpenSpec.ofChange s with cond := some uptoSmall }

/-- 'bringuplaw36.ManagedReturns', WHERE WHAT IT READS IS OF BULK AT MOST 1048576: true; the input reads as it did. -/
def managedReturnsUptoRow : OpenClaim := { program := "ythpgoldahffbcaa", sum := "c0329a98846b5b90419ed6b064acd99630b4ac9e4459b347e63db9164a89dc8b", func := "bringup/bringuplaw36.ManagedReturns", spec := "managedReturns", unfollowed := true, recurses := true, apart := false, narrowed := true }
def ManagedReturnsUptoSaid : Prop := managedReturnsUptoRow.holds Try.pinned (OpenSpec.upto managedReturnsSpec)

/-- 'bringuplaw36.ManagedFull', WHERE WHAT IT READS IS OF BULK AT MOST 1048576: true; the input reads as it did. -/
def managedFullUptoRow : OpenClaim := { program := "ythpgoldahffbcaa", sum := "c0329a98846b5b90419ed6b064acd99630b4ac9e4459b347e63db9164a89dc8b", func := "bringup/bringuplaw36.ManagedFull", spec := "managedFull", unfollowed := true, recurses := true, apart := false, narrowed := true }
def ManagedFullUptoSaid : Prop := managedFullUptoRow.holds Try.pinned (OpenSpec.upto managedFullSpec)

/-- 'bringuplaw36.ManagedExact', WHERE WHAT IT READS IS OF BULK AT MOST 1048576: true; the input reads as it did. -/
def managedExactUptoRow : OpenClaim := { program := "ythpgoldahffbcaa", sum := "c0329a98846b5b90419ed6b064acd99630b4ac9e4459b347e63db9164a89dc8b", func := "bringup/bringuplaw36.ManagedExact", spec := "managedExact", unfollowed := true, recurses := true, apart := false, narrowed := true }
def ManagedExactUptoSaid : Prop := managedExactUptoRow.holds Try.pinned (OpenSpec.upto managedExactSpec)

/-- 'bringuplaw36.ManagedAlone', WHERE WHAT IT READS IS OF BULK AT MOST 1048576: true; the input reads as it did. -/
def managedAloneUptoRow : OpenClaim := { program := "ythpgoldahffbcaa", sum := "c0329a98846b5b90419ed6b064acd99630b4ac9e4459b347e63db9164a89dc8b", func := "bringup/bringuplaw36.ManagedAlone", spec := "managedAlone", unfollowed := true, recurses := true, apart := false, narrowed := true }
def ManagedAloneUptoSaid : Prop := managedAloneUptoRow.holds Try.pinned (OpenSpec.upto managedAloneSpec)

end Rows
end Go.Proofs.Ythpgoldahffbcaa
