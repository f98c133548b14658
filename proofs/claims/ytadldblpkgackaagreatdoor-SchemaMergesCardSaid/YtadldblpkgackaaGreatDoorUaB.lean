/- SchemaLimits in plain lists. -/
import Derived.Test.YtadldblpkgackaaGreatDoorUaA
set_option linter.unusedVariables false
namespace Go.Proofs.YtadldblpkgackaaGreatDoor
set_option maxRecDepth 100000
theorem exOk : parseP exText = ([exSch], 0, 0) := by kernel_rfl
def slAll : Bool := (List.range 5).all (fun i => slOk (14 + i))
theorem slAll_true : slAll = true := by kernel_rfl
theorem slOk_of {k : Nat} (h1 : 14 ≤ k) (h2 : k ≤ 18) : slOk k = true := by
  have h := slAll_true
  unfold slAll at h
  have := List.all_eq_true.1 h (k - 14) (by simp; omega)
  rwa [show 14 + (k - 14) = k by omega] at this
end Go.Proofs.YtadldblpkgackaaGreatDoor
