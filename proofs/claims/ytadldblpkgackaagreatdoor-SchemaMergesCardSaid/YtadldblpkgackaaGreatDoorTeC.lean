/- Contracts of token.letter, digit, word, name, all, Name; tree.Property. -/
import Derived.Test.YtadldblpkgackaaGreatDoorTeA
import Derived.Test.YtadldblpkgackaaGreatDoorShelf
import Derived.Lib.IndexAny
set_option linter.unusedVariables false
set_option linter.unusedSimpArgs false
namespace Go.Proofs.YtadldblpkgackaaGreatDoor
open Go.RowKit
open Classical

theorem letter_any (c : Int) (w : World) :
    Calls Tryz.prog 133 #[.int .u8 c] w fun e w' => e = .returned (.bool (letC c)) ∧ w = w' := by
  go_enter Tryz.func133, Tryz.ntmps133
  go_wp2
  all_goals go_ret
  all_goals exact ⟨ret_bool (by unfold letC; rw [Bool.eq_iff_iff]; simp; try omega), rfl⟩
theorem digit_any (c : Int) (w : World) :
    Calls Tryz.prog 168 #[.int .u8 c] w fun e w' => e = .returned (.bool (digC c)) ∧ w = w' := by
  go_enter Tryz.func168, Tryz.ntmps168
  go_wp2
  all_goals go_ret
  all_goals exact ⟨ret_bool (by unfold digC; rw [Bool.eq_iff_iff]; simp; try omega), rfl⟩
theorem word_any (c : Int) (w : World) :
    Calls Tryz.prog 155 #[.int .u8 c] w fun e w' => e = .returned (.bool (wrdC c)) ∧ w = w' := by
  go_enter Tryz.func155, Tryz.ntmps155
  go_wp2_with (first
    | (go_at_call 133; refine (letter_any _ _).mono ?_; rintro e w' ⟨rfl, rfl⟩)
    | (go_at_call 168; refine (digit_any _ _).mono ?_; rintro e w' ⟨rfl, rfl⟩))
  all_goals go_ret
  all_goals exact ⟨ret_bool (by unfold wrdC; simp_all), rfl⟩
theorem name_any (c : UInt8) (w : World) :
    Calls Tryz.prog 135 #[.int .u8 (c.toNat : Int)] w fun e w' => e = .returned (.bool (namC c)) ∧ w = w' := by
  go_enter Tryz.func135, Tryz.ntmps135
  go_wp2_with (first
    | (go_at_call 155; refine (word_any _ _).mono ?_; rintro e w' ⟨rfl, rfl⟩)
    | (go_at_call 156; refine (Tryz.strings_IndexByte _ _ _).mono ?_; rintro e w' ⟨rfl, rfl⟩))
  all_goals go_ret
  all_goals exact ⟨ret_bool (by unfold namC sgnS; rw [Lib.contains_iff_indexByte]; simp_all), rfl⟩
theorem tokenAll_any (s : St) (w : World) (hf : s.length ≤ 1000000) :
    Calls Tryz.prog 134 #[.string (bs s), .func (.func 135) #[] #[]] w fun e w' => e = .returned (.bool (s.all namC)) ∧ w = w' := by
  go_enter Tryz.func134, Tryz.ntmps134
  go_wp2_with fail
  go_loop [8] (fun i => ∃ k : Nat, k ≤ s.length ∧ i = .int .i64 k ∧ (s.take k).all namC = true) (fun i => s.length - (intOf i).toNat)
  case atStart => exact ⟨0, Nat.zero_le _, rfl, rfl⟩
  case round =>
    obtain ⟨k, hk, rfl, hall⟩ := hrel
    have HA := Lib.hid hall
    clear hall
    by_cases hlt : k < s.length
    · by_cases hq : namC s[k] = true
      · go_wp2_with (go_at_call 135; refine (name_any _ _).mono ?_; rintro e w' ⟨rfl, rfl⟩)
        go_round
        case rel => exact ⟨k + 1, by omega, by go_num, by rw [List.take_succ_eq_append_getElem hlt, List.all_append, HA.out]; simp [hq]⟩
        case measure => simp [intOf]; omega
      · rw [Bool.not_eq_true] at hq
        go_wp2_with (go_at_call 135; refine (name_any _ _).mono ?_; rintro e w' ⟨rfl, rfl⟩)
        go_ret
        exact ⟨ret_bool (by symm; rw [List.all_eq_false]; exact ⟨_, List.getElem_mem hlt, by simp [hq]⟩), rfl⟩
    · go_wp2_with fail
      go_ret
      exact ⟨ret_bool (by rw [← HA.out, List.take_of_length_le (by omega)]), rfl⟩
theorem chr0 {s : St} (h : 1 ≤ s.length) : chr s 0 = (s[0].toNat : Int) := by
  unfold chr; rw [List.getD_eq_getElem?_getD, List.getElem?_eq_getElem h]; rfl
theorem tokenName_any (s : St) (w : World) :
    Calls Tryz.prog 106 #[.string (bs s)] w fun e w' => e = .returned (.bool (nameOk s)) ∧ w = w' := by
  by_cases h1 : 1 ≤ s.length
  · by_cases h2 : s.length ≤ 31
    · have e0 : (bs s).size = s.length := bs_size s
      go_enter Tryz.func106, Tryz.ntmps106
      go_wp2_with (first
        | (go_at_call 133; refine (letter_any _ _).mono ?_; rintro e w' ⟨rfl, rfl⟩)
        | (go_at_call 134; refine (tokenAll_any _ _ (by omega)).mono ?_; rintro e w' ⟨rfl, rfl⟩))
      all_goals go_ret
      all_goals exact ⟨ret_bool (by unfold nameOk; rw [chr0 h1]; simp_all), rfl⟩
    · have e0 : (bs s).size = s.length := bs_size s
      go_enter Tryz.func106, Tryz.ntmps106
      go_wp2_with fail
      go_ret
      exact ⟨ret_bool (by unfold nameOk; simp [h1, h2]), rfl⟩
  · go_enter Tryz.func106, Tryz.ntmps106
    go_wp2_with fail
    go_ret
    exact ⟨ret_bool (by unfold nameOk; simp [h1]), rfl⟩
theorem hasPre35 (s : St) : Lib.hasPrefix s [35] = decide (s.head? = some 35) := by
  cases s with
  | nil => rfl
  | cons a l =>
    by_cases h : a = 35
    · subst h; simp [Lib.hasPrefix, List.isPrefixOf]
    · have h2 : ¬ 35 = a := fun e => h e.symm
      simp [Lib.hasPrefix, List.isPrefixOf, h, h2]
theorem tokenProp_any (s : St) (w : World) (hf : s.length ≤ 9223372036854775807) :
    Calls Tryz.prog 81 #[.string (bs s)] w fun e w' => e = .returned (.bool (propOk s)) ∧ w = w' := by
  by_cases hp : s.head? = some 35
  · have hl : Lib.hasPrefix s [35] = true := by rw [hasPre35]; simp [hp]
    have hs : 1 ≤ s.length := by cases s with | nil => simp at hp | cons a l => simp
    have ht : List.take (s.length - 1) s.tail = s.tail := List.take_of_length_le (by simp)
    have hu : undr s = 95 :: s.tail := by unfold undr; rw [if_pos hp]
    go_enter Tryz.func81, Tryz.ntmps81
    go_wp2_with (first
      | (go_at_call 105; refine (Tryz.strings_HasPrefix _ _ _).mono ?_; rintro e w' ⟨rfl, rfl⟩)
      | (go_at_call 106; refine (tokenName_any _ _).mono ?_; rintro e w' ⟨rfl, rfl⟩)
      | (go_at_call 107; refine (Tryz.strings_Contains_one _ _ _).mono ?_; rintro e w' ⟨rfl, rfl⟩))
    all_goals go_ret
    all_goals exact ⟨ret_bool (by unfold propOk; rw [hu, Lib.contains_iff_indexByte]; simp_all), rfl⟩
  · have hl : Lib.hasPrefix s [35] = false := by rw [hasPre35]; simp [hp]
    have hu : undr s = s := by unfold undr; rw [if_neg hp]
    go_enter Tryz.func81, Tryz.ntmps81
    go_wp2_with (first
      | (go_at_call 105; refine (Tryz.strings_HasPrefix _ _ _).mono ?_; rintro e w' ⟨rfl, rfl⟩)
      | (go_at_call 106; refine (tokenName_any _ _).mono ?_; rintro e w' ⟨rfl, rfl⟩)
      | (go_at_call 107; refine (Tryz.strings_Contains_one _ _ _).mono ?_; rintro e w' ⟨rfl, rfl⟩))
    all_goals go_ret
    all_goals exact ⟨ret_bool (by unfold propOk; rw [hu, Lib.contains_iff_indexByte]; simp_all), rfl⟩
end Go.Proofs.YtadldblpkgackaaGreatDoor
