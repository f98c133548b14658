/- Words that lie in a row of strings. -/
import Derived.Test.YtadldblpkgackaaGreatDoorUbE
import Derived.Test.YtadldblpkgackaaGreatDoorUbK
set_option linter.unusedVariables false
set_option linter.unusedSimpArgs false
namespace Go.Proofs.YtadldblpkgackaaGreatDoor
open Go.RowKit
open Classical

/-- Words that lie in a row of strings. -/
def WAt (w : World) (a : Option Addr) (l : List St) : Prop := l = [] ∨ ∃ B o vs, a = some ⟨B, o, none⟩ ∧ Row w B 9 vs ∧ ∀ j (h : j < l.length), vs[o + j]? = some (.string (bs l[j])) ∧ l[j].length ≤ 1000000
theorem WAt.gr {w w' : World} {a : Option Addr} {l : List St} (h : WAt w a l) (hg : Gr w w') : WAt w' a l := h.imp id (fun ⟨B, o, vs, h1, h2, h3⟩ => ⟨B, o, vs, h1, h2.gr hg, h3⟩)
theorem WAt.sl {w : World} {a : Option Addr} {l : List St} (h : WAt w a l) : SlOf 1 RS w a l := fun k hk => by
  rcases h with rfl | ⟨B, o, vs, h1, h2, h3⟩
  · exact absurd hk (by simp)
  · obtain ⟨c1, c2⟩ := h3 k hk
    obtain ⟨hj, e⟩ := List.getElem?_eq_some_iff.1 c1
    refine ⟨B, o, h1, ?_, by omega⟩
    rw [Nat.mul_one, h2.cell _ hj, e]
theorem trim_le (l p : St) : (Lib.trimPrefix l p).length ≤ l.length := by
  unfold Lib.trimPrefix
  split
  · rw [List.length_drop]; omega
  · exact Nat.le_refl _
theorem strV_at {a b : St} {l : List St} {j : Nat} (h : j < l.length) : (strV (a :: b :: l))[2 + j]? = (strV l)[j]? := by rw [Nat.add_comm]; rfl
/-- Words from the o-th on in a row of strings. -/
theorem wat_row {w : World} {B o : Nat} {all l : List St} (h : Row w B 9 (strV all)) (ho : all.drop o = l) (hl : ∀ s ∈ all, s.length ≤ 1000000) : WAt w (some ⟨B, o, none⟩) l := .inr ⟨B, o, _, rfl, h, fun j hj => by
  subst ho
  rw [List.length_drop] at hj
  have hj2 : o + j < all.length := by omega
  refine ⟨?_, ?_⟩
  · rw [List.getElem_drop]; unfold strV; rw [List.getElem?_map, List.getElem?_eq_getElem hj2]; rfl
  · rw [List.getElem_drop]; exact hl _ (List.getElem_mem hj2)⟩
end Go.Proofs.YtadldblpkgackaaGreatDoor
