/- schema.within, visible. -/
import Derived.Test.YtadldblpkgackaaGreatDoorKd
import Derived.Test.YtadldblpkgackaaGreatDoorUaA
set_option linter.unusedVariables false
set_option linter.unusedSimpArgs false
namespace Go.Proofs.YtadldblpkgackaaGreatDoor
open Go.RowKit
open Classical

theorem within_any (n lo hi : Int) (w : World) :
    Calls Tryz.prog 79 #[.int .i64 n, .int .i64 lo, .int .i64 hi] w fun e w' => e = .returned (.bool (decide (lo ≤ n) && decide (n ≤ hi))) ∧ w = w' := by
  by_cases h1 : lo ≤ n
  · have h2 : decide (lo ≤ n) = true := decide_eq_true h1
    go_enter Tryz.func79, Tryz.ntmps79
    go_wp2
    all_goals go_ret
    all_goals exact ⟨ret_bool (by rw [h2]; simp), rfl⟩
  · have h2 : decide (lo ≤ n) = false := decide_eq_false h1
    go_enter Tryz.func79, Tryz.ntmps79
    go_wp2
    all_goals go_ret
    all_goals exact ⟨ret_bool (by simp [h2]), rfl⟩
def visC (c : UInt8) : Bool := decide (33 ≤ c.toNat) && decide (c.toNat ≤ 126)
theorem vis_any (s : St) (w : World) (hf : s.length ≤ 1000000) :
    Calls Tryz.prog 35 #[.string (bs s)] w fun e w' => e = .returned (.bool (visP s)) ∧ w = w' := by
  have hv : visP s = (s.all visC && decide (1 ≤ s.length) && decide (s.length ≤ 31)) := rfl
  have HV := Lib.hid hv
  clear hv
  go_enter Tryz.func35, Tryz.ntmps35
  go_wp2_with fail
  go_loop [6] (fun i => ∃ k : Nat, k ≤ s.length ∧ i = .int .i64 k ∧ (s.take k).all visC = true) (fun i => s.length - (intOf i).toNat)
  case atStart => exact ⟨0, Nat.zero_le _, rfl, rfl⟩
  case round =>
    obtain ⟨k, hk, rfl, hall⟩ := hrel
    have HA := Lib.hid hall
    clear hall
    by_cases hlt : k < s.length
    · obtain ⟨c, hc⟩ : ∃ c, s[k] = c := ⟨_, rfl⟩
      have HC := Lib.hid hc
      have hw : (decide ((33 : Int) ≤ ((s[k].toNat : Nat) : Int)) && decide (((s[k].toNat : Nat) : Int) ≤ 126)) = visC c := by
        rw [hc]; unfold visC
        congr 1 <;> apply decide_eq_decide.2 <;> omega
      have hwr : wrap64 ((s[k].toNat : Nat) : Int) = ((s[k].toNat : Nat) : Int) := by have := s[k].toNat_lt; unfold wrap64; omega
      have HW : Hid (∀ W, Calls Tryz.prog 79 #[.int .i64 ((s[k].toNat : Nat) : Int), .int .i64 33, .int .i64 126] W fun e w' => e = .returned (.bool (visC c)) ∧ W = w') := Lib.hid (fun W => by rw [← hw]; exact within_any _ _ _ _)
      clear hc hw
      by_cases hq : visC c = true
      · go_wp2_with (go_at_call 79; refine (HW.out _).mono ?_; rw [hq]; rintro e w' ⟨rfl, rfl⟩)
        go_round
        case rel => exact ⟨k + 1, by omega, by go_num, by rw [List.take_succ_eq_append_getElem hlt, List.all_append, HA.out, HC.out]; simp [hq]⟩
        case measure => simp [intOf]; omega
      · rw [Bool.not_eq_true] at hq
        go_wp2_with (go_at_call 79; refine (HW.out _).mono ?_; rw [hq]; rintro e w' ⟨rfl, rfl⟩)
        go_ret
        have e : s.all visC = false := by rw [List.all_eq_false]; exact ⟨_, List.getElem_mem hlt, by rw [HC.out]; simp [hq]⟩
        exact ⟨ret_bool (by rw [HV.out, e]; rfl), rfl⟩
    · have e : s.all visC = true := by rw [← HA.out, List.take_of_length_le (by omega)]
      have E := Lib.hid e
      clear e
      go_wp2_with (go_at_call 79; refine (within_any _ _ _ _).mono ?_; rintro e w' ⟨rfl, rfl⟩)
      go_ret
      exact ⟨ret_bool (by
        rw [HV.out, E.out, Bool.true_and]
        congr 1 <;> apply decide_eq_decide.2 <;> omega), rfl⟩
end Go.Proofs.YtadldblpkgackaaGreatDoor
