/- Helpers of the walk of RateAnswers (printed by wip/tools/ans2.py). -/
import Derived.Test.YtdbofdjjecoeeaaDoorMkR
import Derived.Test.YtdbofdjjecoeeaaDoorRfD
import Derived.Test.YtdbofdjjecoeeaaDoorRfE
import Derived.Test.YtdbofdjjecoeeaaDoorSpoil
import Derived.Test.YtdbofdjjecoeeaaDoorNewTape
import Derived.Test.YtdbofdjjecoeeaaDoorFind
import Derived.Deep.RegionHeld3
import Derived.Deep.DeepCutAuto
set_option linter.unusedVariables false
set_option linter.unusedSimpArgs false
namespace Go.Proofs.YtdbofdjjecoeeaaDoor
open Go.RowKit
theorem RowIn.gr {w w' : World} {a : Option Addr} {len cap : Nat} {zs : List Int} (h : RowIn w a len cap zs) (hg : Gr w w') : RowIn w' a len cap zs := by
  rcases h with h | ⟨x, h0, h1, h2, h3, h4, h5⟩
  · exact .inl h
  · exact .inr ⟨x, h0, h1, h2, h3, fun i hi => cell_gr hg (h4 i hi), h5⟩
theorem madeM_any (w : World) (b nn : Nat) (h : Tp w b nn) : Calls Tryd.prog 7 #[.pointer (some ⟨b, 0, none⟩)] w fun e w' => ∃ n d, e = .returned (.agg #[.int .i64 n, .int .i64 d]) ∧ validB n d = true ∧ Mv b nn w w' :=
  h.elim fun p h => (made_any w b nn p h).mono fun e w' ⟨n, d, p', he, hv, h0, h1, hg⟩ => ⟨n, d, he, hv, p', h0, h1, hg⟩
theorem spoilM_any (w : World) (b nn : Nat) (l : List UInt8) (hl : l.length ≤ 900) (h : Tp w b nn) : Calls Tryd.prog 27 #[.pointer (some ⟨b, 0, none⟩), .string ⟨l.toArray⟩] w fun e w' => ∃ l' : List UInt8, e = .returned (.string ⟨l'.toArray⟩) ∧ l'.length ≤ 921 ∧ Mv b nn w w' := by
  obtain ⟨p, h⟩ := h
  have e1 : (ByteArray.mk l.toArray).size = l.length := by show l.toArray.size = _; simp
  refine (spoil_any w b nn p ⟨l.toArray⟩ (by omega) h).mono ?_
  rintro e w' ⟨s, p', he, hs, h0, h1, hg⟩
  have e2 : s.data.toList.length = s.size := by rw [Array.length_toList]; rfl
  exact ⟨s.data.toList, by rw [he, Array.toArray_toList], by omega, p', h0, h1, hg⟩
theorem fmt_len' (n d : Int) : (fmtL n d).length ≤ 43 := by
  by_cases h : validB n d = true
  · exact fmt_len n d h
  · rw [fmtL, if_neg h]; simp
theorem readR_eq {l : List UInt8} {n d r n' d' r' : Int} (h : (validB n d = true ∧ fmtL n d = l ∧ r = 0) ∨ ((∀ n d, validB n d = true → fmtL n d ≠ l) ∧ n = 0 ∧ d = 0 ∧ r = 6)) (k : (validB n' d' = true ∧ fmtL n' d' = l ∧ r' = 0) ∨ ((∀ n d, validB n d = true → fmtL n d ≠ l) ∧ n' = 0 ∧ d' = 0 ∧ r' = 6)) : n' = n ∧ d' = d ∧ r' = r := by
  rcases h with ⟨h1, h2, rfl⟩ | ⟨h1, rfl, rfl, rfl⟩ <;> rcases k with ⟨k1, k2, rfl⟩ | ⟨k1, rfl, rfl, rfl⟩
  · obtain ⟨rfl, rfl⟩ := fmt_inj n' d' n d k1 h1 (k2.trans h2.symm)
    exact ⟨rfl, rfl, rfl⟩
  · exact absurd h2 (k1 n d h1)
  · exact absurd k2 (h1 n' d' k1)
  · exact ⟨rfl, rfl, rfl⟩
/-- The code of block id. -/
def codeOf (id : Nat) : Code → Option Code
  | .block i c => bif Nat.beq i id then some c else codeOf id c
  | .seq a b => match codeOf id a with | some o => some o | none => codeOf id b
  | .cond _ a b => match codeOf id a with | some o => some o | none => codeOf id b
  | .loop c => codeOf id c
  | .scope c => codeOf id c
  | .rangeFunc _ _ a b => match codeOf id a with | some o => some o | none => codeOf id b
  | _ => none
theorem wp_then_of {P : Program} {c : Code} {K : Act → World → Prop} {Q : Exit → Act → World → Prop} {a : Act} {w : World} (h : c.wp P (Exit.then K fun _ _ _ => False) a w) : c.wp P (Exit.then K Q) a w :=
  Code.wp_mono (fun e a w q => by cases e <;> first | exact q | exact q.elim) h
def codeIn (id : Nat) (f : Func) : Code := ((f.body.bind (codeOf id))).getD .skip
end Go.Proofs.YtdbofdjjecoeeaaDoor
