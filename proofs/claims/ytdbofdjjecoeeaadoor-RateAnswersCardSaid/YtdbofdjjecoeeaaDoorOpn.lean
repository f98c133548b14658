/- A rate that came in, opened. -/
import Derived.Test.YtdbofdjjecoeeaaDoorMade
import Derived.ChangeSame
import Derived.WalkKit
import Derived.ProofKit
import Derived.OpenShut
set_option linter.unusedVariables false
set_option linter.unusedSimpArgs false
namespace Go.Proofs.YtdbofdjjecoeeaaDoor
open Go.RowKit Go.ChangeShapes Go.WideShapes
set_option maxRecDepth 100000 in
theorem open_rate {H : Type} {enc : TypeId × Value → H} {W : World} {n : Nat} {cs : List Value} {x : DataW H × List MemPlace} (h : DataW.trod enc Tryd.prog W 0 (fun _ => true) true n 27 cs = some x) :
    ∃ a b : Int, cs = [.int .i64 a, .int .i64 b] ∧ Wide a ∧ Wide b := by
  obtain ⟨y0, y1, m, -, hl, g0, g1⟩ := trod_struct2 Tryd.underlying27 h
  have hl3 : cs.length = 2 := hl
  match cs, hl3 with
  | [v0, v1], _ =>
    obtain ⟨n0, e0, -, w0⟩ := DataW.trod_int Tryd.underlying3 g0
    obtain ⟨n1, e1, -, w1⟩ := DataW.trod_int Tryd.underlying3 g1
    have e0' : v0 = .int .i64 n0 := by
      have : ([v0] : List Value) = [.int .i64 n0] := e0
      simpa using this
    have e1' : v1 = .int .i64 n1 := by
      have : ([v1] : List Value) = [.int .i64 n1] := e1
      simpa using this
    have b0 := bounds_i64 w0
    have b1 := bounds_i64 w1
    refine ⟨n0, n1, by rw [e0', e1'], ?_, ?_⟩
    · unfold Wide; omega
    · unfold Wide; omega
end Go.Proofs.YtdbofdjjecoeeaaDoor
