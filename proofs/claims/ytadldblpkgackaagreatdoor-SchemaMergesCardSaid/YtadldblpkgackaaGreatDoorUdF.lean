/- The steps of Parse's plain form. -/
import Derived.Test.YtadldblpkgackaaGreatDoorUaA
set_option linter.unusedVariables false
set_option linter.unusedSimpArgs false
namespace Go.Proofs.YtadldblpkgackaaGreatDoor
open Go.RowKit

section
variable {f : Nat} {text ln rs : St} {n : Nat} {out : List Sch} {hd : Sch} {ru : Rul} {en : Bool}
theorem pf_go (hne : text ≠ []) (hc : Lib.cut text [10] = (ln, rs, true)) (hh : readHeadP ln = (hd, true)) (hl : ¬ (0 < out.length ∧ ltS (out.getLastD default).comp hd.comp = false)) (h24 : out.length ≠ 24) :
    parseF (f + 1) text n out = parseF f rs (n + 1) (out ++ [hd]) := by
  rw [parseF, if_neg hne, hc]
  show (if true = true ∧ (readHeadP ln).2 = true then _ else _) = _
  rw [hh, if_pos ⟨rfl, rfl⟩, if_neg hl, if_neg h24]
theorem pf_ord (hne : text ≠ []) (hc : Lib.cut text [10] = (ln, rs, true)) (hh : readHeadP ln = (hd, true)) (hl : 0 < out.length ∧ ltS (out.getLastD default).comp hd.comp = false) :
    parseF (f + 1) text n out = ([], (n : Int), 12) := by
  rw [parseF, if_neg hne, hc]
  show (if true = true ∧ (readHeadP ln).2 = true then _ else _) = _
  rw [hh, if_pos ⟨rfl, rfl⟩, if_pos hl]
theorem pf_lim (hne : text ≠ []) (hc : Lib.cut text [10] = (ln, rs, true)) (hh : readHeadP ln = (hd, true)) (hl : ¬ (0 < out.length ∧ ltS (out.getLastD default).comp hd.comp = false)) (h24 : out.length = 24) :
    parseF (f + 1) text n out = ([], (n : Int), 3) := by
  rw [parseF, if_neg hne, hc]
  show (if true = true ∧ (readHeadP ln).2 = true then _ else _) = _
  rw [hh, if_pos ⟨rfl, rfl⟩, if_neg hl, if_pos h24]
theorem pr_syn (hne : text ≠ []) (hc : Lib.cut text [10] = (ln, rs, en)) (hA : ¬ (en = true ∧ (readHeadP ln).2 = true)) (hr : en = false ∨ (readRuleP ln).2 = false ∨ out.length = 0) :
    parseF (f + 1) text n out = ([], (n : Int), 6) := by
  rw [parseF, if_neg hne, hc]
  show (if en = true ∧ (readHeadP ln).2 = true then _ else _) = _
  rw [if_neg hA]
  show (if en = false ∨ (readRuleP ln).2 = false ∨ out.length = 0 then _ else _) = _
  rw [if_pos hr]
theorem pr_ord (hne : text ≠ []) (hc : Lib.cut text [10] = (ln, rs, true)) (hA : (readHeadP ln).2 = false) (hr : readRuleP ln = (ru, true)) (ho : 0 < out.length) (hl : 0 < (out.getLastD default).rules.length ∧ ltS ((out.getLastD default).rules.getLastD default).name ru.name = false) :
    parseF (f + 1) text n out = ([], (n : Int), 12) := by
  rw [parseF, if_neg hne, hc]
  show (if true = true ∧ (readHeadP ln).2 = true then _ else _) = _
  rw [hA, if_neg (by simp)]
  show (if true = false ∨ (readRuleP ln).2 = false ∨ out.length = 0 then _ else if 0 < (out.getLastD default).rules.length ∧ ltS ((out.getLastD default).rules.getLastD default).name (readRuleP ln).1.name = false then _ else _) = _
  rw [hr, if_neg (by simp; intro q; subst q; simp at ho), if_pos hl]
theorem pr_lim (hne : text ≠ []) (hc : Lib.cut text [10] = (ln, rs, true)) (hA : (readHeadP ln).2 = false) (hr : readRuleP ln = (ru, true)) (ho : 0 < out.length) (hl : ¬ (0 < (out.getLastD default).rules.length ∧ ltS ((out.getLastD default).rules.getLastD default).name ru.name = false)) (h16 : (out.getLastD default).rules.length = 16) :
    parseF (f + 1) text n out = ([], (n : Int), 3) := by
  rw [parseF, if_neg hne, hc]
  show (if true = true ∧ (readHeadP ln).2 = true then _ else _) = _
  rw [hA, if_neg (by simp)]
  show (if true = false ∨ (readRuleP ln).2 = false ∨ out.length = 0 then _ else if 0 < (out.getLastD default).rules.length ∧ ltS ((out.getLastD default).rules.getLastD default).name (readRuleP ln).1.name = false then _ else _) = _
  rw [hr, if_neg (by simp; intro q; subst q; simp at ho), if_neg hl, if_pos h16]
theorem pr_go (hne : text ≠ []) (hc : Lib.cut text [10] = (ln, rs, true)) (hA : (readHeadP ln).2 = false) (hr : readRuleP ln = (ru, true)) (ho : 0 < out.length) (hl : ¬ (0 < (out.getLastD default).rules.length ∧ ltS ((out.getLastD default).rules.getLastD default).name ru.name = false)) (h16 : (out.getLastD default).rules.length ≠ 16) :
    parseF (f + 1) text n out = parseF f rs (n + 1) (out.dropLast ++ [⟨(out.getLastD default).comp, (out.getLastD default).closed, (out.getLastD default).rules ++ [ru]⟩]) := by
  rw [parseF, if_neg hne, hc]
  show (if true = true ∧ (readHeadP ln).2 = true then _ else _) = _
  rw [hA, if_neg (by simp)]
  show (if true = false ∨ (readRuleP ln).2 = false ∨ out.length = 0 then _ else if 0 < (out.getLastD default).rules.length ∧ ltS ((out.getLastD default).rules.getLastD default).name (readRuleP ln).1.name = false then _ else _) = _
  rw [hr, if_neg (by simp; intro q; subst q; simp at ho), if_neg hl, if_neg h16]
end
end Go.Proofs.YtadldblpkgackaaGreatDoor
