/- The operations of one region of a function, found by its number. -/
import Derived.Test.YtdbofdjjecoeeaaDoorTail
set_option linter.unusedVariables false
set_option linter.unusedSimpArgs false
namespace Go.Proofs.YtdbofdjjecoeeaaDoor
open Go.RowKit
/-- The operations of region id. -/
def regOps (id : Nat) : Code → Option (Array Oper)
  | .region i ops _ => bif Nat.beq i id then some ops else none
  | .seq a b => match regOps id a with | some o => some o | none => regOps id b
  | .cond _ a b => match regOps id a with | some o => some o | none => regOps id b
  | .block _ c => regOps id c
  | .loop c => regOps id c
  | .scope c => regOps id c
  | .rangeFunc _ _ a b => match regOps id a with | some o => some o | none => regOps id b
  | _ => none
def regIn (id : Nat) (f : Func) : Array Oper := ((f.body.bind (regOps id))).getD #[]
theorem wp_code_eq {P : Program} {c c' : Code} {Q : Exit → Act → World → Prop} {a : Act} {w : World} (h : c = c') (hw : c.wp P Q a w) : c'.wp P Q a w := h ▸ hw
end Go.Proofs.YtdbofdjjecoeeaaDoor
