/- Which supplies are used, and their loads, as the document defines them, and how a loop from the last supply to the first finds them. No program in sight. No conditions. -/
import Derived.Test.YtoenkcojfogmmaaSupA
set_option linter.unusedVariables false
set_option linter.unusedSimpArgs false
namespace Go.Proofs.Ytoenkcojfogmmaa
open Classical

def UsedF (l : List Sup) (d : List Drw) : Nat → Nat → Prop
  | 0, _ => False
  | f + 1, i => ∃ h : i < l.length, l[i].always = true ∨ (∃ x ∈ d, x.supply = (i : Int)) ∨ ∃ c, i < c ∧ ∃ hc : c < l.length, l[c].parent = (i : Int) ∧ UsedF l d f c
/-- Supply i is used. -/
def Used (l : List Sup) (d : List Drw) (i : Nat) : Prop := ∃ f, UsedF l d f i
theorem used_iff (l : List Sup) (d : List Drw) (i : Nat) (hi : i < l.length) :
    Used l d i ↔ l[i].always = true ∨ (∃ x ∈ d, x.supply = (i : Int)) ∨ ∃ c, i < c ∧ ∃ hc : c < l.length, l[c].parent = (i : Int) ∧ Used l d c := by
  constructor
  · rintro ⟨f, hf⟩
    cases f with
    | zero => exact hf.elim
    | succ f =>
      obtain ⟨_, h | h | ⟨c, h1, h2, h3, h4⟩⟩ := hf
      · exact .inl h
      · exact .inr (.inl h)
      · exact .inr (.inr ⟨c, h1, h2, h3, f, h4⟩)
  · rintro (h | h | ⟨c, h1, h2, h3, f, h4⟩)
    · exact ⟨1, hi, .inl h⟩
    · exact ⟨1, hi, .inr (.inl h)⟩
    · exact ⟨f + 1, hi, .inr (.inr ⟨c, h1, h2, h3, h4⟩)⟩
noncomputable def usedL (l : List Sup) (d : List Drw) : List Bool := (List.range l.length).map fun i => decide (Used l d i)
theorem usedL_len (l : List Sup) (d : List Drw) : (usedL l d).length = l.length := by simp [usedL]
theorem usedL_at (l : List Sup) (d : List Drw) (i : Nat) (h : i < (usedL l d).length) : (usedL l d)[i] = decide (Used l d i) := by simp [usedL]

/-- Some supply from n on, which is used, has the parent j. -/
def FromUp (l : List Sup) (d : List Drw) (n j : Nat) : Prop := ∃ c, n ≤ c ∧ ∃ hc : c < l.length, l[c].parent = (j : Int) ∧ Used l d c
/-- The list behind the rounds of the supplies from n on. -/
def UInv (l : List Sup) (d : List Drw) (pre : Nat → Prop) (n : Nat) (vs : List Bool) : Prop :=
  vs.length = l.length ∧ ∀ j (h : j < vs.length), (n ≤ j → (vs[j] = true ↔ Used l d j)) ∧ (j < n → (vs[j] = true ↔ pre j ∨ FromUp l d n j))
theorem UInv.start (l : List Sup) (d : List Drw) : UInv l d (fun _ => False) l.length (List.replicate l.length false) := by
  refine ⟨by simp, fun j h => ⟨fun h1 => ?_, fun _ => ?_⟩⟩
  · simp at h; omega
  · simp only [List.getElem_replicate, Bool.false_eq_true, false_or, false_iff]
    rintro ⟨c, h1, h2, _⟩; omega
theorem fromUp_step {l : List Sup} {d : List Drw} {i j : Nat} (hi : i < l.length) : FromUp l d i j ↔ FromUp l d (i + 1) j ∨ (l[i].parent = (j : Int) ∧ Used l d i) := by
  constructor
  · rintro ⟨c, h1, h2, h3, h4⟩
    by_cases e : c = i
    · subst e; exact .inr ⟨h3, h4⟩
    · exact .inl ⟨c, by omega, h2, h3, h4⟩
  · rintro (⟨c, h1, h2, h3, h4⟩ | ⟨h3, h4⟩)
    · exact ⟨c, by omega, h2, h3, h4⟩
    · exact ⟨i, Nat.le_refl _, hi, h3, h4⟩
theorem used_here {l : List Sup} {d : List Drw} {i : Nat} (hi : i < l.length) : Used l d i ↔ (l[i].always = true ∨ (∃ x ∈ d, x.supply = (i : Int)) ∨ FromUp l d (i + 1) i) := by
  rw [used_iff l d i hi]; rfl
/-- A round at supply i without a mark on its parent. -/
theorem UInv.step0 {l : List Sup} {d : List Drw} {pre : Nat → Prop} {i : Nat} {vs : List Bool} (h : UInv l d pre (i + 1) vs) (hi : i < l.length) (b : Bool) (hb : b = true ↔ Used l d i)
    (hp : ¬ (b = true ∧ 0 ≤ l[i].parent)) : UInv l d pre i (vs.set i b) := by
  obtain ⟨h1, h2⟩ := h
  refine ⟨by simpa using h1, fun j hj => ?_⟩
  simp only [List.length_set] at hj
  have hj2 := h2 j hj
  refine ⟨fun hij => ?_, fun hij => ?_⟩
  · by_cases e : i = j
    · subst e; simpa using hb
    · rw [List.getElem_set_ne e]; exact hj2.1 (by omega)
  · rw [List.getElem_set_ne (by omega), hj2.2 (by omega), fromUp_step hi]
    constructor
    · rintro (h | h)
      · exact .inl h
      · exact .inr (.inl h)
    · rintro (h | h | ⟨h3, h4⟩)
      · exact .inl h
      · exact .inr h
      · exact absurd ⟨hb.2 h4, by omega⟩ hp
/-- A round at supply i that marks its parent p. -/
theorem UInv.step1 {l : List Sup} {d : List Drw} {pre : Nat → Prop} {i : Nat} {vs : List Bool} (h : UInv l d pre (i + 1) vs) (hi : i < l.length) (b : Bool) (hb : b = true ↔ Used l d i) (ht : b = true) (p : Nat) (hp : l[i].parent = (p : Int)) (hpi : p < i) :
    UInv l d pre i ((vs.set i b).set p true) := by
  obtain ⟨h1, h2⟩ := h
  refine ⟨by simpa using h1, fun j hj => ?_⟩
  simp only [List.length_set] at hj
  have hj2 := h2 j hj
  refine ⟨fun hij => ?_, fun hij => ?_⟩
  · rw [List.getElem_set_ne (by omega)]
    by_cases e : i = j
    · subst e; simpa using hb
    · rw [List.getElem_set_ne e]; exact hj2.1 (by omega)
  · by_cases e : p = j
    · subst e
      simp only [List.getElem_set_self, true_iff]
      exact .inr ((fromUp_step hi).2 (.inr ⟨hp, hb.1 ht⟩))
    · rw [List.getElem_set_ne e, List.getElem_set_ne (by omega), hj2.2 (by omega), fromUp_step hi]
      constructor
      · rintro (h | h)
        · exact .inl h
        · exact .inr (.inl h)
      · rintro (h | h | ⟨h3, h4⟩)
        · exact .inl h
        · exact .inr h
        · omega
theorem UInv.done {l : List Sup} {d : List Drw} {pre : Nat → Prop} {vs : List Bool} (h : UInv l d pre 0 vs) : vs = usedL l d := by
  obtain ⟨h1, h2⟩ := h
  refine List.ext_getElem (by rw [h1, usedL_len]) fun i q1 q2 => ?_
  rw [usedL_at]
  have := (h2 i q1).1 (Nat.zero_le _)
  rw [Bool.eq_iff_iff, this]; simp
end Go.Proofs.Ytoenkcojfogmmaa
