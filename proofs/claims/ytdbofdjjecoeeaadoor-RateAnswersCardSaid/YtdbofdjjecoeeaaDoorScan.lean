/- How the reference reads a text, byte by byte, in plain lists: the text of a valid rate leads to this rate. No program in sight. -/
import Derived.Test.YtdbofdjjecoeeaaDoorTxt
set_option linter.unusedVariables false
set_option linter.unusedSimpArgs false
namespace Go.Proofs.YtdbofdjjecoeeaaDoor
open Go.RowKit

/-- One byte: numerator, denominator, and whether it is the denominator that is read. -/
def stp (s : Int × Int × Bool) (c : UInt8) : Option (Int × Int × Bool) :=
  if c.toNat = 47 ∧ s.2.2 = false then some (s.1, 0, true)
  else if 48 ≤ c.toNat ∧ c.toNat ≤ 57 ∧ (if s.2.2 = true then s.2.1 else s.1) ≤ 144115188075855872 then
    some (if s.2.2 = true then (s.1, s.2.1 * 10 + ((c.toNat : Int) - 48), true) else (s.1 * 10 + ((c.toNat : Int) - 48), s.2.1, false))
  else none
def scanL (l : List UInt8) : Option (Int × Int × Bool) := l.foldlM stp (0, 1, false)
theorem scan_num (u : Nat) (hu : u ≤ 144115188075855872) (d : Int) : (Lib.decDigits u).foldlM stp ((0 : Int), d, false) = some ((u : Int), d, false) := by
  induction u using Nat.strongRecOn with
  | ind u ih =>
    rw [Lib.decDigits]
    split
    · rename_i h
      have := digit_toNat u h
      simp only [List.foldlM_cons, List.foldlM_nil, stp]
      rw [if_neg (by omega), if_pos (by simp; omega)]
      simp
      omega
    · rename_i h
      have := digit_toNat (u % 10) (by omega)
      rw [List.foldlM_append, ih (u / 10) (by omega) (by omega)]
      simp only [Option.bind_eq_bind, Option.bind_some, List.foldlM_cons, List.foldlM_nil, stp]
      rw [if_neg (by omega), if_pos (by simp; omega)]
      simp
      omega
theorem scan_den (u : Nat) (hu : u ≤ 144115188075855872) (n : Int) : (Lib.decDigits u).foldlM stp (n, (0 : Int), true) = some (n, (u : Int), true) := by
  induction u using Nat.strongRecOn with
  | ind u ih =>
    rw [Lib.decDigits]
    split
    · rename_i h
      have := digit_toNat u h
      simp only [List.foldlM_cons, List.foldlM_nil, stp]
      rw [if_neg (by simp), if_pos (by simp; omega)]
      simp
      omega
    · rename_i h
      have := digit_toNat (u % 10) (by omega)
      rw [List.foldlM_append, ih (u / 10) (by omega) (by omega)]
      simp only [Option.bind_eq_bind, Option.bind_some, List.foldlM_cons, List.foldlM_nil, stp]
      rw [if_neg (by simp), if_pos (by simp; omega)]
      simp
      omega
theorem scan_fmt (n d : Int) (h : validB n d = true) : ∃ wh, scanL (fmtL n d) = some (n, d, wh) := by
  obtain ⟨v1, v2, v3, v4, -⟩ := valid_parts h
  have en : Lib.itoa n = Lib.decDigits n.toNat := by rw [Lib.itoa, if_neg (by omega)]
  have ed : Lib.itoa d = Lib.decDigits d.toNat := by rw [Lib.itoa, if_neg (by omega)]
  have cn : ((n.toNat : Nat) : Int) = n := by omega
  have cd : ((d.toNat : Nat) : Int) = d := by omega
  rw [fmtL, if_pos h]
  by_cases hd : d = 1
  · rw [if_pos hd, en, scanL, scan_num _ (by omega), cn, hd]
    exact ⟨_, rfl⟩
  · rw [if_neg hd, en, ed, scanL, List.foldlM_append, scan_num _ (by omega), cn]
    simp only [Option.bind_eq_bind, Option.bind_some, List.foldlM_cons]
    have : stp (n, 1, false) 47 = some (n, 0, true) := by simp [stp]
    rw [this]
    simp only [Option.bind_some]
    rw [scan_den _ (by omega), cd]
    exact ⟨_, rfl⟩
theorem scan_take (l : List UInt8) (k : Nat) (h : scanL (l.take k) = none) : scanL l = none := by
  have e : l = l.take k ++ l.drop k := (List.take_append_drop k l).symm
  rw [scanL, e, List.foldlM_append]
  unfold scanL at h
  rw [h]
  rfl
theorem scan_snoc (l : List UInt8) (k : Nat) (hk : k < l.length) : scanL (l.take (k + 1)) = (scanL (l.take k)).bind fun s => stp s l[k] := by
  rw [scanL, List.take_succ_eq_append_getElem hk, List.foldlM_append]
  cases h : scanL (l.take k) with
  | none => unfold scanL at h; rw [h]; rfl
  | some s => unfold scanL at h; rw [h]; simp
end Go.Proofs.YtdbofdjjecoeeaaDoor
