/- Plain: the reference's table of a closed list, and its check by all choices. No program in sight. -/
import Derived.Test.YtenehghpmnajpaaGreatDoorCsP
import Derived.Test.YtenehghpmnajpaaGreatDoorKd
set_option linter.unusedVariables false
set_option linter.unusedSimpArgs false
namespace Go.Proofs.YtenehghpmnajpaaGreatDoor
open Go.RowKit
open Classical

/-- Which numbers are those of the list's first settings. -/
noncomputable def inV (l : List Clk) (cs : List (List Int)) (n k : Nat) : List Bool := (List.range n).map fun (i : Nat) => decide (∃ s ∈ cs.take k, num l s = (i : Int))
section
variable {l : List Clk} {cal : List Int → Bool} {cs : List (List Int)} {n k : Nat} {f t : List Int}
theorem inV_len : (inV l cs n k).length = n := by simp [inV]
theorem inV_zero : inV l cs n 0 = List.replicate n false := by
  apply List.ext_getElem
  · simp [inV]
  · intro i h1 h2
    simp [inV]
theorem inV_at (i : Nat) (h : i < (inV l cs n k).length) : (inV l cs n k)[i] = decide (∃ s ∈ cs.take k, num l s = (i : Int)) := by simp [inV]
theorem inV_step (hk : k < cs.length) {m : Nat} (hm : num l cs[k] = (m : Int)) : (inV l cs n k).set m true = inV l cs n (k + 1) := by
  apply List.ext_getElem
  · simp [inV]
  · intro i h1 h2
    rw [List.getElem_set]
    have ht : cs.take (k + 1) = cs.take k ++ [cs[k]] := by rw [List.take_add_one, List.getElem?_eq_getElem hk]; rfl
    rw [inV_at i h2, ht]
    split
    · rename_i e
      subst e
      exact (decide_eq_true ⟨cs[k], List.mem_append_right _ (by simp), hm⟩).symm
    · rename_i e
      rw [inV_at i (by rw [inV_len]; rw [inV_len] at h2; exact h2)]
      rw [Bool.eq_iff_iff, decide_eq_true_iff, decide_eq_true_iff]
      constructor
      · rintro ⟨s, hs, q⟩; exact ⟨s, List.mem_append_left _ hs, q⟩
      · rintro ⟨s, hs, q⟩
        rcases List.mem_append.1 hs with hs | hs
        · exact ⟨s, hs, q⟩
        · have : s = cs[k] := by simpa using hs
          subst this
          rw [hm] at q
          exact absurd (Int.ofNat.inj q) e
theorem inV_all (ho : SetsOk l cs) {s : List Int} (hs : SetOk l s) {m : Nat} (hm : num l s = (m : Int)) (h : m < (inV l cs n cs.length).length) : (inV l cs n cs.length)[m] = decide (s ∈ cs) := by
  rw [inV_at m h, List.take_length, Bool.eq_iff_iff, decide_eq_true_iff, decide_eq_true_iff]
  constructor
  · rintro ⟨u, hu, e⟩
    rw [← hm] at e
    rw [← num_inj (ho u hu) hs e]; exact hu
  · intro h; exact ⟨s, h, hm⟩
/-- This choice leads to a calm setting that is not on the list. -/
def badS (cal : List Int → Bool) (cs : List (List Int)) (s : List Int) (u v : Nat) : Prop := s.set u (v : Int) ∉ cs ∧ cal (s.set u (v : Int)) = true
theorem badS_not {s : List Int} {u v : Nat} (ho : SetsOk l cs) (hs : s ∈ cs) (hu : u < l.length) (hv : (v : Int) < kOf l u) (h : badS cal cs s u v) : ¬ ClosedS l cal cs := by
  intro hc
  have hsl := (ho s hs).1
  have hne : (v : Int) ≠ sOf s u := by
    intro e
    have : s.set u (v : Int) = s := by rw [e, sOf_at (by omega)]; simp
    exact h.1 (by rw [this]; exact hs)
  exact h.1 (hc s hs _ (mem_nbS.2 ⟨u, v, hu, hv, hne, h.2, rfl⟩))
theorem closed_of (h : ∀ i (hi : i < cs.length), ∀ u v : Nat, u < l.length → (v : Int) < kOf l u → ¬ badS cal cs cs[i] u v) : ClosedS l cal cs := by
  intro s hs q hq
  obtain ⟨i, hi, rfl⟩ := List.mem_iff_getElem.1 hs
  obtain ⟨u, v, hu, hv, hne, hc, rfl⟩ := mem_nbS.1 hq
  exact Classical.byContradiction fun hn => h i hi u v hu hv ⟨hn, hc⟩
end
end Go.Proofs.YtenehghpmnajpaaGreatDoor
