/-
  No cell of these rows narrows 'for every input' (looked for: loops, veiled, ifaces, maps, wideKeys, modest, calm, conditions, laid).
  DERIVED. THE GIVEN ROWS OF THIS SEAT. 2 by the template 'for every input the law returns true; each argument reads behind the call as it read before'; 0 by the template 'total and deterministic' (their statements: YtdbofdjjecoeeaaTotals.lean).
  GIVEN WITH THE SEED: the statements are not yours to turn. If you find one false, say at which input.
  Laid BY PROGRAM, IN A SANDBOX (cutbox-rows.mjs): the forced cells as the released guide's own fill.sh prints them over the translation dea7c44cc753ce38… (all of the seat's roots in one cut). By AI agents, Wed Nov 11 2026. No macro, syntax, notation, axiom, sorry.
-/
import Derived.Test.YtdbofdjjecoeeaaChecked
import GoSem.Claim
import GoSem.ClaimJoined
import GoSem.ClaimMapViews
import Derived.JoinedTies
import Derived.KernelRfl
namespace Go.Proofs.Ytdbofdjjecoeeaa
/- THE CELL 'sum', in the pinned program and in every row, IS THE sha256 OF THE DUMP (.gsa) THAT YtdbofdjjecoeeaaProg.lean LOADS. Nothing in Lean hashes anything: it is a label: what it is worth is what the hold of that sum in a sandbox is worth. -/
noncomputable def Try.pinned : Pinned := { name := "ytdbofdjjecoeeaa", sum := "dea7c44cc753ce385a442102f8046ee0e2f1c6d4c7b660e47df5015379c3348e", checked := Try.checked }
namespace Rows
def none {H : Type} : Left H := { results := [], args := [] }

/-- 'bringuplaw15.RateOrder': WHATEVER THE INPUT: true; the input reads as it did. -/
def rateOrderSpec : ChangeSpec := { name := "rateOrder", fn := fun _ => fun
  | [d] => { results := [.lit (.bool true)], args := [d] }
  | _ => none }
def rateOrderRow : OpenClaim := { program := "ytdbofdjjecoeeaa", sum := "dea7c44cc753ce385a442102f8046ee0e2f1c6d4c7b660e47df5015379c3348e", func := "bringup/bringuplaw15.RateOrder", spec := "rateOrder", unfollowed := true, recurses := true, apart := false }
def RateOrderSaid : Prop := rateOrderRow.holds Try.pinned (OpenSpec.ofChange rateOrderSpec)

/-- ITS FALSE NEIGHBOUR: 'it returns false'. Refute it at one input. -/
def rateOrderWrong : ChangeSpec := { name := "rateOrder", fn := fun _ => fun
  | [d] => { results := [.lit (.bool false)], args := [d] }
  | _ => none }
def RateOrderWrongFalsely : Prop := rateOrderRow.holds Try.pinned (OpenSpec.ofChange rateOrderWrong)

/-- 'bringuplaw15.RateScales': WHATEVER THE INPUT: true; the input reads as it did. -/
def rateScalesSpec : ChangeSpec := { name := "rateScales", fn := fun _ => fun
  | [d1, d2, d3, d4] => { results := [.lit (.bool true)], args := [d1, d2, d3, d4] }
  | _ => none }
def rateScalesRow : OpenClaim := { program := "ytdbofdjjecoeeaa", sum := "dea7c44cc753ce385a442102f8046ee0e2f1c6d4c7b660e47df5015379c3348e", func := "bringup/bringuplaw15.RateScales", spec := "rateScales", unfollowed := true, recurses := true, apart := false }
def RateScalesSaid : Prop := rateScalesRow.holds Try.pinned (OpenSpec.ofChange rateScalesSpec)

/-- ITS FALSE NEIGHBOUR: 'it returns false'. Refute it at one input. -/
def rateScalesWrong : ChangeSpec := { name := "rateScales", fn := fun _ => fun
  | [d1, d2, d3, d4] => { results := [.lit (.bool false)], args := [d1, d2, d3, d4] }
  | _ => none }
def RateScalesWrongFalsely : Prop := rateScalesRow.holds Try.pinned (OpenSpec.ofChange rateScalesWrong)

/- THE SECOND FORM. 'bulk': how many values and letters a reading holds, each counted each time it is reached (what is shared counts as often as it is met; a slice's spare places count too). A statement '..UptoSaid' is the law's where the arguments, and the package variables that the reading takes, are together of bulk at most 1048576: NARROWER than '..Said'. Prove '..Said' where nothing that the law and all that it calls make is longer than what came in: it says more and counts as full. Else prove '..UptoSaid'. A law counts once. -/
mutual
def uptoBulk {H : Type} : DataW H → Nat
  | .lit (.string bytes) => bytes.length + 1
  | .lit _ => 1
  | .nil => 1
  | .ptr d => uptoBulk d + 1
  | .slice elems spare => uptoBulkAll elems + uptoBulkAll spare + 1
  | .agg parts => uptoBulkAll parts + 1
  | .iface _ d => uptoBulk d + 1
  | .map entries => uptoBulkEntries entries + 1
  | .held _ => 1
def uptoBulkAll {H : Type} : List (DataW H) → Nat
  | [] => 0
  | d :: r => uptoBulk d + uptoBulkAll r
def uptoBulkEntries {H : Type} : List (Lit × DataW H) → Nat
  | [] => 0
  | x :: r => uptoBulkEntry x + uptoBulkEntries r
def uptoBulkEntry {H : Type} : Lit × DataW H → Nat
  | (.string bytes, d) => bytes.length + uptoBulk d + 1
  | (_, d) => uptoBulk d + 1
 end
def uptoSmall : (H : Type) → List (DataW H) → Bool := fun _ ds => decide (uptoBulkAll ds ≤ 1048576)
def OpenSpec.upto (s : _root_.Go.ChangeSpec) : _root_.Go.OpenSpec := { _root_.Go.OpenSpec.ofChange s with cond := some uptoSmall }

/-- 'bringuplaw15.RateOrder', WHERE WHAT IT READS IS OF BULK AT MOST 1048576: true; the input reads as it did. -/
def rateOrderUptoRow : OpenClaim := { program := "ytdbofdjjecoeeaa", sum := "dea7c44cc753ce385a442102f8046ee0e2f1c6d4c7b660e47df5015379c3348e", func := "bringup/bringuplaw15.RateOrder", spec := "rateOrder", unfollowed := true, recurses := true, apart := false, narrowed := true }
def RateOrderUptoSaid : Prop := rateOrderUptoRow.holds Try.pinned (OpenSpec.upto rateOrderSpec)

/-- 'bringuplaw15.RateScales', WHERE WHAT IT READS IS OF BULK AT MOST 1048576: true; the input reads as it did. -/
def rateScalesUptoRow : OpenClaim := { program := "ytdbofdjjecoeeaa", sum := "dea7c44cc753ce385a442102f8046ee0e2f1c6d4c7b660e47df5015379c3348e", func := "bringup/bringuplaw15.RateScales", spec := "rateScales", unfollowed := true, recurses := true, apart := false, narrowed := true }
def RateScalesUptoSaid : Prop := rateScalesUptoRow.holds Try.pinned (OpenSpec.upto rateScalesSpec)

end Rows
end Go.Proofs.Ytdbofdjjecoeeaa
