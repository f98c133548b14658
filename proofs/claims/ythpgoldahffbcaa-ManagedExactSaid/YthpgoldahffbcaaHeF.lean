/- The arguments of ManagedExact opened: a slice of holds, a hold. -/
import Derived.Test.YthpgoldahffbcaaHdH
import Derived.Deep.Slices
import Derived.Deep.Strs
import Derived.WalkKit
import Derived.ProofKit
set_option linter.unusedVariables false
set_option linter.unusedSimpArgs false
namespace Go.Proofs.Ythpgoldahffbcaa
open Go.RowKit Go.ChangeShapes Go.WideShapes
theorem add_of {a : Addr} {w : World} {v : Value} {n : Nat} (h0 : a = ⟨a.block, a.off, none⟩) (h : w.cell? (a.add n) = some v) : w.cell? ⟨a.block, a.off + n, none⟩ = some v := by
  simp only [Addr.add] at h
  split at h
  · rename_i e; subst e; rw [h0] at h; simpa using h
  · exact h
theorem open_hold {H : Type} {enc : TypeId × Value → H} {W : World} {n : Nat} {cs : List Value} {x : DataW H × List MemPlace} (h : DataW.trod enc Try.prog W 0 (fun _ => true) true n 34 cs = some x) :
    ∃ p : Hld, cs = encH p ∧ HWide p := by
  obtain ⟨y0, y1, y2, m, -, hl, g0, g1, g2⟩ := Go.Deep.trod_struct3 Try.underlying34 h
  have hl3 : cs.length = 3 := hl
  match cs, hl3 with
  | [v0, v1, v2], _ =>
    obtain ⟨n0, e0, -, w0⟩ := DataW.trod_int Try.underlying3 g0
    obtain ⟨n1, e1, -, w1⟩ := DataW.trod_int Try.underlying3 g1
    obtain ⟨n2, e2, -, w2⟩ := DataW.trod_int Try.underlying3 g2
    have e0' : v0 = .int .i64 n0 := by
      have : ([v0] : List Value) = [.int .i64 n0] := e0
      simpa using this
    have e1' : v1 = .int .i64 n1 := by
      have : ([v1] : List Value) = [.int .i64 n1] := e1
      simpa using this
    have e2' : v2 = .int .i64 n2 := by
      have : ([v2] : List Value) = [.int .i64 n2] := e2
      simpa using this
    have b0 := bounds_i64 w0
    have b1 := bounds_i64 w1
    have b2 := bounds_i64 w2
    refine ⟨⟨n0, n1, n2⟩, by rw [e0', e1', e2']; rfl, ?_⟩
    unfold HWide Wide
    simp only
    omega
instance : Inhabited Hld := ⟨⟨0, 0, 0⟩⟩
theorem open_holds {H : Type} {enc : TypeId × Value → H} {W : World} {fuel : Nat} {cs : List Value} {x : DataW H × List MemPlace} (h : DataW.trod enc Try.prog W 0 (fun _ => true) true fuel 24 cs = some x) :
    ∃ (a : Option Addr) (raw : List Hld) (cap : Nat), cs = [.slice a raw.length cap] ∧ raw.length ≤ cap ∧ SlOf 3 RHld W a raw := by
  rcases Go.Deep.open_slice Try.underlying24 h with ⟨rfl, -⟩ | ⟨a, len, cap, m, n, D, Pl, rfl, hb, hl, hm, hmm, rfl, hx⟩
  · exact ⟨none, [], 0, rfl, Nat.le_refl _, fun k hk => absurd hk (by simp)⟩
  · have hmc : m = cap := by simpa using hmm
    have each : ∀ i, i < len → ∃ p : Hld, HWide p ∧ ∀ j, j < 3 → W.cell? ((a.add (i * 3)).add j) = (encH p)[j]? := by
      intro i hi
      obtain ⟨cs', h1, h2⟩ := hx i (by omega)
      obtain ⟨p, rfl, hp⟩ := open_hold h2
      have h1' : W.cells? 0 (a.add (i * 3)) 3 = some (encH p) := h1
      obtain ⟨_, -, hc⟩ := World.cells?_some h1'
      exact ⟨p, hp, hc⟩
    obtain ⟨f, hf⟩ := Go.Deep.choose_lt each
    refine ⟨some a, (List.range len).map f, cap, by simp, by simpa using hl, fun k hk => ?_⟩
    have hk' : k < len := by simpa using hk
    obtain ⟨⟨w0, w1, w2⟩, hc⟩ := hf k hk'
    have c0 := hc 0 (by omega)
    have c1 := hc 1 (by omega)
    have c2 := hc 2 (by omega)
    rw [Go.Deep.add_add] at c0 c1 c2
    have z : a = ⟨a.block, a.off, none⟩ := by
      have q := (hf 0 (by omega)).2 0 (by omega)
      rw [Go.Deep.add_add] at q
      have q' : W.cell? a = some (.int .i64 (f 0).device) := by simpa [Addr.add, encH] using q
      exact addr_of_cell q'
    refine ⟨a.block, a.off, by rw [← z], ?_⟩
    rw [List.getElem_map, List.getElem_range]
    refine ⟨⟨?_, w0⟩, ⟨?_, w1⟩, ⟨?_, w2⟩⟩
    · exact add_of z (by simpa [encH] using c0)
    · exact add_of z (by simpa [encH] using c1)
    · exact add_of z (by simpa [encH] using c2)
end Go.Proofs.Ythpgoldahffbcaa
