/- What schema.Parse sees of its parts; facts about its plain form. -/
import Derived.Test.YtadldblpkgackaaGreatDoorUbQ
import Derived.Test.YtadldblpkgackaaGreatDoorUdB
import Derived.Test.YtadldblpkgackaaGreatDoorUdC
set_option linter.unusedVariables false
set_option linter.unusedSimpArgs false
namespace Go.Proofs.YtadldblpkgackaaGreatDoor
open Go.RowKit
open Classical

theorem readHead_all (line : St) (w : World) (hl : line.length ≤ 100000) (h : Libs w) :
    Calls Tryz.prog 30 #[.string (bs line)] w fun e w' => ∃ s b a n c, e = .returned (.tuple #[.agg #[.string s, .bool b, .slice a n c], .bool (readHeadP line).2]) ∧ ((readHeadP line).2 = true → s = bs (readHeadP line).1.comp ∧ b = (readHeadP line).1.closed ∧ a = none ∧ n = 0 ∧ c = 0) ∧ Gr w w' := by
  refine (readHead_any line w hl h).mono ?_
  rintro e w' ⟨hg, hr⟩
  by_cases q : (readHeadP line).2 = true
  · rw [if_pos q] at hr
    exact ⟨_, _, _, _, _, by rw [hr, q], fun _ => ⟨rfl, rfl, rfl, rfl, rfl⟩, hg⟩
  · rw [if_neg q] at hr
    obtain ⟨s, b, a, n, c, rfl⟩ := hr
    rw [Bool.not_eq_true] at q
    exact ⟨s, b, a, n, c, by rw [q], fun z => absurd (q.symm.trans z) (by decide), hg⟩
theorem rrP_ok {line name : St} {req hp : Bool} {l : List St} (h : (rrP line name req hp l).2 = true) : ruleP (rrP line name req hp l).1 = true ∧ 9 :: Lib.join (wordsP (rrP line name req hp l).1) [32] = line := by
  unfold rrP at h ⊢
  cases hz : ruleL name req l with
  | none => rw [hz] at h; cases h
  | some r =>
    rw [hz] at h
    simp only at h ⊢
    by_cases q : hp = true
    · rw [if_pos q] at h ⊢
      simp only [Bool.and_eq_true, decide_eq_true_eq] at h
      exact h
    · rw [if_neg q] at h
      cases h
theorem readRule_ok {line : St} (h : (readRuleP line).2 = true) : ruleP (readRuleP line).1 = true ∧ 9 :: Lib.join (wordsP (readRuleP line).1) [32] = line := by
  cases hz : Lib.split (Lib.trimPrefix line [9]) [32] with
  | nil => unfold readRuleP at h; rw [hz] at h; cases h
  | cons name l =>
    rw [readRule_rrP hz] at h ⊢
    by_cases q : l.head? = some reqS
    · rw [if_pos q] at h ⊢; exact rrP_ok h
    · rw [if_neg q] at h ⊢; exact rrP_ok h
theorem readRule_all (line : St) (w : World) (hl : line.length ≤ 20000) (h : Libs w) :
    Calls Tryz.prog 31 #[.string (bs line)] w fun e w' => ∃ s b k lo hi ct a n c, e = .returned (.tuple #[.agg #[.string s, .bool b, .int .i64 k, .int .i64 lo, .int .i64 hi, .int .i64 ct, .slice a n c], .bool (readRuleP line).2]) ∧
      ((readRuleP line).2 = true → s = bs (readRuleP line).1.name ∧ b = (readRuleP line).1.req ∧ k = (readRuleP line).1.kind ∧ lo = (readRuleP line).1.low ∧ hi = (readRuleP line).1.high ∧ ct = (readRuleP line).1.count ∧ n = (readRuleP line).1.words.length ∧ n ≤ c ∧ WAt w' a (readRuleP line).1.words) ∧ Gr w w' := by
  refine (readRule_any line w hl h).mono ?_
  rintro e w' ⟨hg, hr⟩
  by_cases q : (readRuleP line).2 = true
  · rw [if_pos q] at hr
    obtain ⟨a, c, rfl, h1, h2⟩ := hr
    exact ⟨_, _, _, _, _, _, a, _, c, by rw [q], fun _ => ⟨rfl, rfl, rfl, rfl, rfl, rfl, rfl, h1, h2⟩, hg⟩
  · rw [if_neg q] at hr
    obtain ⟨s, b, k, lo, hi, ct, a, n, c, rfl⟩ := hr
    rw [Bool.not_eq_true] at q
    exact ⟨s, b, k, lo, hi, ct, a, n, c, by rw [q], fun z => absurd (q.symm.trans z) (by decide), hg⟩
theorem cut_lt (s : St) (h : s ≠ []) : (Lib.cut s [10]).2.1.length < s.length := by
  have : 0 < s.length := List.length_pos_iff.2 h
  unfold Lib.cut
  split
  · simp only [List.length_drop, List.length_cons, List.length_nil]; omega
  · simp; omega
theorem prop_len {s : St} (h : propOk s = true) : s.length ≤ 100 := by
  unfold propOk nameOk at h
  simp only [Bool.and_eq_true, decide_eq_true_eq] at h
  have : (undr s).length = s.length := by
    unfold undr
    split
    · cases s with
      | nil => simp at *
      | cons a b => rfl
    · rfl
  omega
theorem rule_name {r : Rul} (h : ruleP r = true) : r.name.length ≤ 100 := by
  unfold ruleP at h
  simp only [Bool.and_eq_true] at h
  exact prop_len h.1.1.1.1.1.1
theorem vis_len {s : St} (h : visP s = true) : s.length ≤ 31 := by
  unfold visP at h
  simp only [Bool.and_eq_true, decide_eq_true_eq] at h
  exact h.2
theorem readHead_ok {line : St} (h : (readHeadP line).2 = true) : visP (readHeadP line).1.comp = true ∧ (readHeadP line).1.rules = [] := by
  unfold readHeadP at h ⊢
  split at h
  · cases h
  · rename_i q
    rw [if_neg q]
    simp only [Bool.and_eq_true] at h
    exact ⟨h.1, rfl⟩
/-- One line of a text. -/
theorem parseF_nil (f : Nat) (n : Nat) (out : List Sch) : parseF f [] n out = (out, 0, 0) := by
  cases f with
  | zero => rfl
  | succ f => rw [parseF, if_pos rfl]
end Go.Proofs.YtadldblpkgackaaGreatDoor
