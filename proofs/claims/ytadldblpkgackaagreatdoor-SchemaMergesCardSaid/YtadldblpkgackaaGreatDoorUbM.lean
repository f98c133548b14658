/- Bounds on the words of a rule and on their join. -/
import Derived.Test.YtadldblpkgackaaGreatDoorUbL
set_option linter.unusedVariables false
set_option linter.unusedSimpArgs false
namespace Go.Proofs.YtadldblpkgackaaGreatDoor
open Go.RowKit

theorem join_le (M : Nat) : ∀ l : List St, (∀ s ∈ l, s.length ≤ M) → (Lib.join l [32]).length ≤ l.length * (M + 1)
  | [], _ => by simp [Lib.join]
  | [a], h => by
    have := h a (by simp)
    simp [Lib.join]; omega
  | a :: b :: l, h => by
    have h1 := h a (by simp)
    have h2 := join_le M (b :: l) (fun s hs => h s (List.mem_cons_of_mem _ hs))
    have e : Lib.join (a :: b :: l) [32] = a ++ ([32] ++ Lib.join (b :: l) [32]) := by
      unfold Lib.join
      simp [List.intercalate, List.intersperse]
    rw [e, List.length_append, List.length_append]
    simp only [List.length_cons, List.length_nil] at h2 ⊢
    rw [Nat.add_mul (l.length + 1) 1 (M + 1), Nat.one_mul]
    omega
theorem kindsS_le (k : Nat) : (kindsS.getD k []).length ≤ 6 := by
  unfold kindsS
  match k with
  | 0 => simp
  | 1 => simp
  | 2 => simp
  | 3 => simp
  | 4 => simp
  | 5 => simp
  | 6 => simp
  | k + 7 => simp
theorem words_bnd {r : Rul} (hr : ruleP r = true) {M : Nat} (hM : 50 ≤ M) (hn : r.name.length ≤ M) (hw : ∀ s ∈ r.words, s.length ≤ M) :
    0 < (wordsP r).length ∧ (wordsP r).length ≤ 21 ∧ ∀ s ∈ wordsP r, s.length ≤ M := by
  have h1 := words_len hr
  have h2 := count_range hr
  have h3 := fun q => cells_range hr q
  unfold wordsP
  refine ⟨by simp, ?_, ?_⟩
  · simp only [List.length_append, List.length_cons, List.length_nil]
    split <;> split <;> split <;> simp <;> omega
  · intro s hs
    simp only [List.mem_append, List.mem_singleton] at hs
    rcases hs with ((((hs | hs) | hs) | hs) | hs) | hs
    · rw [hs]; exact hn
    · split at hs
      · rw [List.mem_singleton.1 hs]; simp [reqS]; omega
      · cases hs
    · rw [hs]; exact Nat.le_trans (kindsS_le _) (by omega)
    · split at hs
      · rename_i q
        obtain ⟨a1, a2, a3, a4⟩ := h3 q
        have b1 := itoa_len a1 a2
        have b2 := itoa_len a3 a4
        rw [List.mem_singleton.1 hs]
        simp only [List.length_append, List.length_cons, List.length_nil]
        omega
      · cases hs
    · split at hs
      · cases hs
      · have b1 := itoa_len h2.1 (by omega : r.count ≤ 4294967295)
        rw [List.mem_singleton.1 hs]
        simp only [List.length_cons]
        omega
    · exact hw s hs
theorem words_hl {r : Rul} (hr : ruleP r = true) (hn : r.name.length ≤ 20000) (hw : ∀ s ∈ r.words, s.length ≤ 20000) :
    0 < (wordsP r).length ∧ (wordsP r).length ≤ 1000 ∧ (Lib.join (wordsP r) [32]).length ≤ 1000000 := by
  obtain ⟨h1, h2, h3⟩ := words_bnd hr (M := 20000) (by omega) hn hw
  refine ⟨h1, by omega, Nat.le_trans (join_le 20000 _ h3) ?_⟩
  exact Nat.le_trans (Nat.mul_le_mul_right _ h2) (by omega)
theorem ruleL_ne {name x : St} {req : Bool} {l : List St} (hx : x ≠ []) : ruleL name req (x :: l) = some (ruleW name req (idxS x 0 kindsS) l) := by
  cases x with
  | nil => exact absurd rfl hx
  | cons a b => rfl
theorem readRule_plain {line name x : St} {l : List St} (hL : Lib.split (Lib.trimPrefix line [9]) [32] = name :: x :: l) (hq : x ≠ reqS) (hx : x ≠ []) (hp : Lib.hasPrefix line [9] = true) :
    readRuleP line = (ruleW name false (idxS x 0 kindsS) l, ruleP (ruleW name false (idxS x 0 kindsS) l) && decide (9 :: Lib.join (wordsP (ruleW name false (idxS x 0 kindsS) l)) [32] = line)) := by
  unfold readRuleP
  rw [hL]
  change (match (if (x :: l).head? = some reqS then ruleL name true (x :: l).tail else ruleL name false (x :: l)) with | none => ((default : Rul), false) | some r => if Lib.hasPrefix line [9] = true then (r, ruleP r && decide (9 :: Lib.join (wordsP r) [32] = line)) else (default, false)) = _
  rw [if_neg (show ¬ (x :: l).head? = some reqS from fun q => hq (Option.some.inj q)), ruleL_ne hx]
  change (if Lib.hasPrefix line [9] = true then _ else _) = _
  rw [if_pos hp]
theorem readRule_req {line name x : St} {l : List St} (hL : Lib.split (Lib.trimPrefix line [9]) [32] = name :: reqS :: x :: l) (hx : x ≠ []) (hp : Lib.hasPrefix line [9] = true) :
    readRuleP line = (ruleW name true (idxS x 0 kindsS) l, ruleP (ruleW name true (idxS x 0 kindsS) l) && decide (9 :: Lib.join (wordsP (ruleW name true (idxS x 0 kindsS) l)) [32] = line)) := by
  unfold readRuleP
  rw [hL]
  change (match (if (reqS :: (x :: l)).head? = some reqS then ruleL name true (reqS :: (x :: l)).tail else ruleL name false (reqS :: (x :: l))) with | none => ((default : Rul), false) | some r => if Lib.hasPrefix line [9] = true then (r, ruleP r && decide (9 :: Lib.join (wordsP r) [32] = line)) else (default, false)) = _
  rw [if_pos (show (reqS :: x :: l).head? = some reqS from rfl), List.tail_cons, ruleL_ne hx]
  change (if Lib.hasPrefix line [9] = true then _ else _) = _
  rw [if_pos hp]
end Go.Proofs.YtadldblpkgackaaGreatDoor
