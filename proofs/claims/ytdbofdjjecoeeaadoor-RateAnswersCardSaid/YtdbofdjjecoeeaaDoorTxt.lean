/- Numerals and texts of rates in plain lists: what Cut and Atoi make of the text of a valid rate; a text has one rate. No program in sight. -/
import Derived.Test.YtdbofdjjecoeeaaDoorFmt
import Derived.Lib.AtoiAll
import Derived.Lib.IndexMore
set_option linter.unusedVariables false
set_option linter.unusedSimpArgs false
namespace Go.Proofs.YtdbofdjjecoeeaaDoor
open Go.RowKit

theorem digit_toNat (k : Nat) (h : k < 10) : (UInt8.ofNat (48 + k)).toNat = 48 + k := by
  have : 48 + k < 256 := by omega
  simp [UInt8.toNat_ofNat]; omega
theorem decDigits_digit (u : Nat) : ∀ c ∈ Lib.decDigits u, 48 ≤ c.toNat ∧ c.toNat ≤ 57 := by
  induction u using Nat.strongRecOn with
  | ind u ih =>
    intro c hc
    rw [Lib.decDigits] at hc
    split at hc
    · rename_i h
      rw [List.mem_singleton] at hc
      subst hc
      have := digit_toNat u h
      omega
    · rename_i h
      rcases List.mem_append.1 hc with hc | hc
      · exact ih _ (by omega) c hc
      · rw [List.mem_singleton] at hc
        subst hc
        have := digit_toNat (u % 10) (by omega)
        omega
theorem decDigits_ne (u : Nat) : Lib.decDigits u ≠ [] := fun h => by
  have h1 := Lib.decDigits_length u
  have h2 := Lib.nDigits_pos u
  rw [h] at h1
  simp at h1
  omega
theorem parse_digits (u : Nat) (hu : u < 18446744073709551616) : ∀ r, Lib.parseUint10 0 (Lib.decDigits u ++ r) = Lib.parseUint10 u r := by
  induction u using Nat.strongRecOn with
  | ind u ih =>
    intro r
    rw [Lib.decDigits]
    split
    · rename_i h
      have := digit_toNat u h
      simp only [List.cons_append, List.nil_append, Lib.parseUint10]
      rw [if_pos (by omega), if_neg (by omega), if_neg (by omega)]
      congr 1
      omega
    · rename_i h
      have := digit_toNat (u % 10) (by omega)
      rw [List.append_assoc, ih (u / 10) (by omega) (by omega)]
      simp only [List.cons_append, List.nil_append, Lib.parseUint10]
      rw [if_pos (by omega), if_neg (by omega), if_neg (by omega)]
      congr 1
      omega
theorem itoa_digit (n : Int) (h : 0 ≤ n) : ∀ c ∈ Lib.itoa n, 48 ≤ c.toNat ∧ c.toNat ≤ 57 := by
  rw [Lib.itoa, if_neg (by omega)]
  exact decDigits_digit _
theorem itoa_ne (n : Int) : Lib.itoa n ≠ [] := by
  unfold Lib.itoa
  split
  · simp
  · exact decDigits_ne _
theorem atoi_itoa (n : Int) (h0 : 0 ≤ n) (h1 : n ≤ 9223372036854775807) : Lib.atoiAll (Lib.itoa n) = .ok n := by
  have hp := parse_digits n.toNat (by omega) []
  rw [List.append_nil] at hp
  have hd := itoa_digit n h0
  have he : Lib.itoa n = Lib.decDigits n.toNat := by rw [Lib.itoa, if_neg (by omega)]
  rw [← he] at hp
  cases hl : Lib.itoa n with
  | nil => exact absurd hl (itoa_ne n)
  | cons c r =>
    rw [hl] at hp hd
    have hc := hd c (List.mem_cons_self ..)
    unfold Lib.atoiAll
    have e1 : ¬ (c.toNat = 43 ∨ c.toNat = 45) := by omega
    have e2 : ¬ c.toNat = 45 := by omega
    simp only [if_neg e1, Lib.parseMag, hp, Lib.parseUint10]
    have e3 : ¬ 9223372036854775808 ≤ n.toNat := by omega
    simp [e2, e3]
    omega
theorem index_none (l : List UInt8) (h : ∀ c ∈ l, 48 ≤ c.toNat) : Lib.index l [47] = -1 := by
  induction l with
  | nil => rfl
  | cons b l ih =>
    have hb := h b (List.mem_cons_self ..)
    have : (47 == b) = false := by
      rw [beq_eq_false_iff_ne]
      intro e
      subst e
      simp at hb
    simp [Lib.index, List.isPrefixOf, this, ih (fun c hc => h c (List.mem_cons_of_mem _ hc))]
theorem index_mid (l r : List UInt8) (h : ∀ c ∈ l, 48 ≤ c.toNat) : Lib.index (l ++ 47 :: r) [47] = l.length := by
  induction l with
  | nil => simp [Lib.index, List.isPrefixOf]
  | cons b l ih =>
    have hb := h b (List.mem_cons_self ..)
    have hne : (47 == b) = false := by
      rw [beq_eq_false_iff_ne]
      intro e
      subst e
      simp at hb
    have i := ih (fun c hc => h c (List.mem_cons_of_mem _ hc))
    have i2 : ((l.length : Int) == -1) = false := by simp
    simp [Lib.index, List.isPrefixOf, hne, i, i2]
theorem cut_none (l : List UInt8) (h : ∀ c ∈ l, 48 ≤ c.toNat) : Lib.cut l [47] = (l, [], false) := by
  rw [Lib.cut, index_none l h, if_neg (by omega)]
theorem cut_mid (l r : List UInt8) (h : ∀ c ∈ l, 48 ≤ c.toNat) : Lib.cut (l ++ 47 :: r) [47] = (l, r, true) := by
  rw [Lib.cut, index_mid l r h, if_pos (by omega)]
  have e : ((l.length : Int)).toNat = l.length := by omega
  rw [e]
  simp
/-- What Read makes of a text, piece by piece. -/
def den (s : List UInt8) : List UInt8 := if (Lib.cut s [47]).2.2 = true then (Lib.cut s [47]).2.1 else [49]
theorem itoa_one : Lib.itoa 1 = [49] := by
  rw [Lib.itoa, if_neg (by omega)]
  rw [Lib.decDigits_one (by decide)]
  rfl
theorem fmt_parts (n d : Int) (h : validB n d = true) : (Lib.cut (fmtL n d) [47]).1 = Lib.itoa n ∧ den (fmtL n d) = Lib.itoa d := by
  obtain ⟨v1, v2, v3, v4, -⟩ := valid_parts h
  have hn : ∀ c ∈ Lib.itoa n, 48 ≤ c.toNat := fun c hc => (itoa_digit n v1 c hc).1
  rw [fmtL, if_pos h]
  by_cases hd : d = 1
  · subst hd
    rw [if_pos rfl, den, cut_none _ hn, itoa_one]
    simp
  · rw [if_neg hd, den, cut_mid _ _ hn]
    simp
/-- A text has one rate. -/
theorem fmt_inj (n d m e : Int) (h : validB n d = true) (k : validB m e = true) (he : fmtL n d = fmtL m e) : n = m ∧ d = e := by
  obtain ⟨v1, v2, v3, v4, -⟩ := valid_parts h
  obtain ⟨u1, u2, u3, u4, -⟩ := valid_parts k
  have p := fmt_parts n d h
  have q := fmt_parts m e k
  rw [he] at p
  have a1 : Lib.itoa n = Lib.itoa m := p.1.symm.trans q.1
  have a2 : Lib.itoa d = Lib.itoa e := p.2.symm.trans q.2
  have b1 := atoi_itoa n (by omega) (by omega)
  have b2 := atoi_itoa d (by omega) (by omega)
  rw [a1, atoi_itoa m (by omega) (by omega)] at b1
  rw [a2, atoi_itoa e (by omega) (by omega)] at b2
  injection b1 with b1
  injection b2 with b2
  exact ⟨b1.symm, b2.symm⟩
theorem fmt_len (n d : Int) (h : validB n d = true) : (fmtL n d).length ≤ 43 := by
  obtain ⟨v1, v2, v3, v4, -⟩ := valid_parts h
  have l1 := Lib.itoa_length_le n (by omega) (by omega)
  have l2 := Lib.itoa_length_le d (by omega) (by omega)
  rw [fmtL, if_pos h]
  split
  · omega
  · simp; omega
end Go.Proofs.YtdbofdjjecoeeaaDoor
