/-
  No cell of these rows narrows 'for every input' (looked for: loops, veiled, ifaces, maps, wideKeys, modest, calm, conditions, laid).
  DERIVED. THE GIVEN ROWS OF THIS SEAT. 5 by the template 'for every input the law returns true; each argument reads behind the call as it read before'; 0 by the template 'total and deterministic' (their statements: YtoenkcojfogmmaaTotals.lean).
  GIVEN WITH THE SEED: the statements are not yours to turn. If you find one false, say at which input.
  Laid BY PROGRAM, IN A SANDBOX (cutbox-rows.mjs): the forced cells as the released guide's own fill.sh prints them over the translation 47dd467b43c97826… (all of the seat's roots in one cut). By AI agents, Wed Nov 11 2026. No macro, syntax, notation, axiom, sorry.
-/
import Derived.Test.YtoenkcojfogmmaaChecked
import GoSem.Claim
import GoSem.ClaimJoined
import GoSem.ClaimMapViews
import Derived.JoinedTies
import Derived.KernelRfl
namespace Go.Proofs.Ytoenkcojfogmmaa
/- THE CELL 'sum', in the pinned program and in every row, IS THE sha256 OF THE DUMP (.gsa) THAT YtoenkcojfogmmaaProg.lean LOADS. Nothing in Lean hashes anything: it is a label: what it is worth is what the hold of that sum in a sandbox is worth. -/
noncomputable def Try.pinned : Pinned := { name := "ytoenkcojfogmmaa", sum := "47dd467b43c97826be1513e666bb62e8d1cd859235ce11db781af28b53e6ceab", checked := Try.checked }
namespace Rows
def none {H : Type} : Left H := { results := [], args := [] }

/-- 'bringuplaw20.RampGrows': WHATEVER THE INPUT: true; the input reads as it did. -/
def rampGrowsSpec : ChangeSpec := { name := "rampGrows", fn := fun _ => fun
  | [d] => { results := [.lit (.bool true)], args := [d] }
  | _ => none }
def rampGrowsRow : OpenClaim := { program := "ytoenkcojfogmmaa", sum := "47dd467b43c97826be1513e666bb62e8d1cd859235ce11db781af28b53e6ceab", func := "bringup/bringuplaw20.RampGrows", spec := "rampGrows", unfollowed := true, recurses := true, apart := false }
def RampGrowsSaid : Prop := rampGrowsRow.holds Try.pinned (OpenSpec.ofChange rampGrowsSpec)

/-- ITS FALSE NEIGHBOUR: 'it returns false'. Refute it at one input. -/
def rampGrowsWrong : ChangeSpec := { name := "rampGrows", fn := fun _ => fun
  | [d] => { results := [.lit (.bool false)], args := [d] }
  | _ => none }
def RampGrowsWrongFalsely : Prop := rampGrowsRow.holds Try.pinned (OpenSpec.ofChange rampGrowsWrong)

/-- 'bringuplaw20.RampJoins': WHATEVER THE INPUT: true; the input reads as it did. -/
def rampJoinsSpec : ChangeSpec := { name := "rampJoins", fn := fun _ => fun
  | [d] => { results := [.lit (.bool true)], args := [d] }
  | _ => none }
def rampJoinsRow : OpenClaim := { program := "ytoenkcojfogmmaa", sum := "47dd467b43c97826be1513e666bb62e8d1cd859235ce11db781af28b53e6ceab", func := "bringup/bringuplaw20.RampJoins", spec := "rampJoins", unfollowed := true, recurses := true, apart := false }
def RampJoinsSaid : Prop := rampJoinsRow.holds Try.pinned (OpenSpec.ofChange rampJoinsSpec)

/-- ITS FALSE NEIGHBOUR: 'it returns false'. Refute it at one input. -/
def rampJoinsWrong : ChangeSpec := { name := "rampJoins", fn := fun _ => fun
  | [d] => { results := [.lit (.bool false)], args := [d] }
  | _ => none }
def RampJoinsWrongFalsely : Prop := rampJoinsRow.holds Try.pinned (OpenSpec.ofChange rampJoinsWrong)

/-- 'bringuplaw20.RampBack': WHATEVER THE INPUT: true; the input reads as it did. -/
def rampBackSpec : ChangeSpec := { name := "rampBack", fn := fun _ => fun
  | [d] => { results := [.lit (.bool true)], args := [d] }
  | _ => none }
def rampBackRow : OpenClaim := { program := "ytoenkcojfogmmaa", sum := "47dd467b43c97826be1513e666bb62e8d1cd859235ce11db781af28b53e6ceab", func := "bringup/bringuplaw20.RampBack", spec := "rampBack", unfollowed := true, recurses := true, apart := false }
def RampBackSaid : Prop := rampBackRow.holds Try.pinned (OpenSpec.ofChange rampBackSpec)

/-- ITS FALSE NEIGHBOUR: 'it returns false'. Refute it at one input. -/
def rampBackWrong : ChangeSpec := { name := "rampBack", fn := fun _ => fun
  | [d] => { results := [.lit (.bool false)], args := [d] }
  | _ => none }
def RampBackWrongFalsely : Prop := rampBackRow.holds Try.pinned (OpenSpec.ofChange rampBackWrong)

/-- 'bringuplaw20.RampSafe': WHATEVER THE INPUT: true; the input reads as it did. -/
def rampSafeSpec : ChangeSpec := { name := "rampSafe", fn := fun _ => fun
  | [d] => { results := [.lit (.bool true)], args := [d] }
  | _ => none }
def rampSafeRow : OpenClaim := { program := "ytoenkcojfogmmaa", sum := "47dd467b43c97826be1513e666bb62e8d1cd859235ce11db781af28b53e6ceab", func := "bringup/bringuplaw20.RampSafe", spec := "rampSafe", unfollowed := true, recurses := true, apart := false }
def RampSafeSaid : Prop := rampSafeRow.holds Try.pinned (OpenSpec.ofChange rampSafeSpec)

/-- ITS FALSE NEIGHBOUR: 'it returns false'. Refute it at one input. -/
def rampSafeWrong : ChangeSpec := { name := "rampSafe", fn := fun _ => fun
  | [d] => { results := [.lit (.bool false)], args := [d] }
  | _ => none }
def RampSafeWrongFalsely : Prop := rampSafeRow.holds Try.pinned (OpenSpec.ofChange rampSafeWrong)

/-- 'bringuplaw20.RampAnswers': WHATEVER THE INPUT: true; the input reads as it did. -/
def rampAnswersSpec : ChangeSpec := { name := "rampAnswers", fn := fun _ => fun
  | [d1, d2, d3, d4, d5] => { results := [.lit (.bool true)], args := [d1, d2, d3, d4, d5] }
  | _ => none }
def rampAnswersRow : OpenClaim := { program := "ytoenkcojfogmmaa", sum := "47dd467b43c97826be1513e666bb62e8d1cd859235ce11db781af28b53e6ceab", func := "bringup/bringuplaw20.RampAnswers", spec := "rampAnswers", unfollowed := true, recurses := true, apart := false }
def RampAnswersSaid : Prop := rampAnswersRow.holds Try.pinned (OpenSpec.ofChange rampAnswersSpec)

/-- ITS FALSE NEIGHBOUR: 'it returns false'. Refute it at one input. -/
def rampAnswersWrong : ChangeSpec := { name := "rampAnswers", fn := fun _ => fun
  | [d1, d2, d3, d4, d5] => { results := [.lit (.bool false)], args := [d1, d2, d3, d4, d5] }
  | _ => none }
def RampAnswersWrongFalsely : Prop := rampAnswersRow.holds Try.pinned (OpenSpec.ofChange rampAnswersWrong)

/- THE SECOND FORM. 'bulk': how many values and letters a reading holds, each counted each time it is reached (what is shared counts as often as it is met; a slice's spare places count too). A statement '..UptoSaid' is the law's where the arguments, and the package variables that the reading takes, are together of bulk at most 1048576: NARROWER than '..Said'. Prove '..Said' where nothing that the law and all that it calls make is longer than what came in: it says more and counts as full. Else prove '..UptoSaid'. A law counts once. -/
mutual
def uptoBulk {H : Type} : DataW H → Nat
  | .lit (.string bytes) => bytes.length + 1
  | .lit _ => 1
  | .nil => 1
  | .ptr d => uptoBulk d + 1
  | .slice elems spare => uptoBulkAll elems + uptoBulkAll spare + 1
  | .agg parts => uptoBulkAll parts + 1
  | .iface _ d => uptoBulk d + 1
  | .map entries => uptoBulkEntries entries + 1
  | .held _ => 1
def uptoBulkAll {H : Type} : List (DataW H) → Nat
  | [] => 0
  | d :: r => uptoBulk d + uptoBulkAll r
def uptoBulkEntries {H : Type} : List (Lit × DataW H) → Nat
  | [] => 0
  | x :: r => uptoBulkEntry x + uptoBulkEntries r
def uptoBulkEntry {H : Type} : Lit × DataW H → Nat
  | (.string bytes, d) => bytes.length + uptoBulk d + 1
  | (_, d) => uptoBulk d + 1
 end
def uptoSmall : (H : Type) → List (DataW H) → Bool := fun _ ds => decide (uptoBulkAll ds ≤ 1048576)
def OpenSpec.upto (s : _root_.Go.ChangeSpec) : _root_.Go.OpenSpec := { _root_.Go.OpenSpec.ofChange s with cond := some uptoSmall }

/-- 'bringuplaw20.RampGrows', WHERE WHAT IT READS IS OF BULK AT MOST 1048576: true; the input reads as it did. -/
def rampGrowsUptoRow : OpenClaim := { program := "ytoenkcojfogmmaa", sum := "47dd467b43c97826be1513e666bb62e8d1cd859235ce11db781af28b53e6ceab", func := "bringup/bringuplaw20.RampGrows", spec := "rampGrows", unfollowed := true, recurses := true, apart := false, narrowed := true }
def RampGrowsUptoSaid : Prop := rampGrowsUptoRow.holds Try.pinned (OpenSpec.upto rampGrowsSpec)

/-- 'bringuplaw20.RampJoins', WHERE WHAT IT READS IS OF BULK AT MOST 1048576: true; the input reads as it did. -/
def rampJoinsUptoRow : OpenClaim := { program := "ytoenkcojfogmmaa", sum := "47dd467b43c97826be1513e666bb62e8d1cd859235ce11db781af28b53e6ceab", func := "bringup/bringuplaw20.RampJoins", spec := "rampJoins", unfollowed := true, recurses := true, apart := false, narrowed := true }
def RampJoinsUptoSaid : Prop := rampJoinsUptoRow.holds Try.pinned (OpenSpec.upto rampJoinsSpec)

/-- 'bringuplaw20.RampBack', WHERE WHAT IT READS IS OF BULK AT MOST 1048576: true; the input reads as it did. -/
def rampBackUptoRow : OpenClaim := { program := "ytoenkcojfogmmaa", sum := "47dd467b43c97826be1513e666bb62e8d1cd859235ce11db781af28b53e6ceab", func := "bringup/bringuplaw20.RampBack", spec := "rampBack", unfollowed := true, recurses := true, apart := false, narrowed := true }
def RampBackUptoSaid : Prop := rampBackUptoRow.holds Try.pinned (OpenSpec.upto rampBackSpec)

/-- 'bringuplaw20.RampSafe', WHERE WHAT IT READS IS OF BULK AT MOST 1048576: true; the input reads as it did. -/
def rampSafeUptoRow : OpenClaim := { program := "ytoenkcojfogmmaa", sum := "47dd467b43c97826be1513e666bb62e8d1cd859235ce11db781af28b53e6ceab", func := "bringup/bringuplaw20.RampSafe", spec := "rampSafe", unfollowed := true, recurses := true, apart := false, narrowed := true }
def RampSafeUptoSaid : Prop := rampSafeUptoRow.holds Try.pinned (OpenSpec.upto rampSafeSpec)

/-- 'bringuplaw20.RampAnswers', WHERE WHAT IT READS IS OF BULK AT MOST 1048576: true; the input reads as it did. -/
def rampAnswersUptoRow : OpenClaim := { program := "ytoenkcojfogmmaa", sum := "47dd467b43c97826be1513e666bb62e8d1cd859235ce11db781af28b53e6ceab", func := "bringup/bringuplaw20.RampAnswers", spec := "rampAnswers", unfollowed := true, recurses := true, apart := false, narrowed := true }
def RampAnswersUptoSaid : Prop := rampAnswersUptoRow.holds Try.pinned (OpenSpec.upto rampAnswersSpec)

end Rows
end Go.Proofs.Ytoenkcojfogmmaa
