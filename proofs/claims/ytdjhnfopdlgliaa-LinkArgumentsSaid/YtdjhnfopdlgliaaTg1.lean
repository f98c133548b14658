/- A []uint16 that came in. -/
import Derived.Test.YtdjhnfopdlgliaaTeZ
import Derived.OpenShut
set_option linter.unusedVariables false
namespace Go.Proofs.Ytdjhnfopdlgliaa
open Go.RowKit Go.ChangeShapes Go.WideShapes
open Classical

theorem u16_row {w : World} {a : Option Addr} {len cap : Nat} {zs : List Int}
    (h : (a = none ∧ len = 0 ∧ cap = 0 ∧ zs = []) ∨ ∃ x, a = some x ∧ len ≤ cap ∧ cap ≤ maxLen ∧ zs.length = cap ∧ (∀ i, i < zs.length → w.cell? (x.add i) = some (.int .u16 (zs.getD i 0))) ∧ ∀ n ∈ zs, (Lit.int .u16 n).wf = true) :
    ∃ l : List Nat, len = l.length ∧ l.length ≤ 9223372036854775807 ∧ SlOf 1 RU w a l := by
  rcases h with ⟨rfl, rfl, rfl, rfl⟩ | ⟨x, rfl, hl, hm, hz, hc, hw⟩
  · exact ⟨[], rfl, by simp, fun k hk => absurd hk (by simp)⟩
  · unfold maxLen at hm
    refine ⟨(zs.take len).map Int.toNat, by simp; omega, by simp; omega, fun k hk => ?_⟩
    have hk2 : k < len := by simpa [hz, Nat.min_eq_left hl] using hk
    have hkz : k < zs.length := by omega
    have z : x = ⟨x.block, x.off, none⟩ := by
      have q := hc 0 (by omega)
      have q' : w.cell? x = some (.int .u16 (zs.getD 0 0)) := by simpa [Addr.add] using q
      exact addr_of_cell q'
    have c := hc k hkz
    rw [z] at c
    have hb := bounds_u16 (hw zs[k] (List.getElem_mem hkz))
    refine ⟨x.block, x.off, by rw [← z], ?_, ?_⟩
    · have e : ((((zs.take len).map Int.toNat)[k]'hk : Nat) : Int) = zs.getD k 0 := by
        simp only [List.getElem_map, List.getElem_take, List.getD_eq_getElem?_getD, List.getElem?_eq_getElem hkz, Option.getD_some]
        omega
      rw [e, Nat.mul_one]
      rwa [Addr.add_lit] at c
    · simp only [List.getElem_map, List.getElem_take]
      omega
end Go.Proofs.Ytdjhnfopdlgliaa
