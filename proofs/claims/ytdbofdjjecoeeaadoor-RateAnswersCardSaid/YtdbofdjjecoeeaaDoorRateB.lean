/- Contracts of the functions common, Valid and New of package rate: what they return for all numbers of 64 bits, and that memory only grows. -/
import Derived.Test.YtdbofdjjecoeeaaDoorRateA
set_option linter.unusedVariables false
set_option linter.unusedSimpArgs false
namespace Go.Proofs.YtdbofdjjecoeeaaDoor
open Go.RowKit

set_option maxHeartbeats 400000 in
theorem common_any (a b : Int) (w : World) (ha0 : 0 ≤ a) (ha : a ≤ 9223372036854775807) (hb0 : 0 ≤ b) (hb : b ≤ 9223372036854775807) :
    Calls Tryd.prog 31 #[.int .i64 a, .int .i64 b] w (Grows w (.int .i64 (Int.gcd a b))) := by
  go_enter Tryd.func31, Tryd.ntmps31
  go_wp2
  go_loopw [0, 1] (fun t u wr => ∃ x y : Int, 0 ≤ x ∧ x ≤ 9223372036854775807 ∧ 0 ≤ y ∧ y ≤ 9223372036854775807 ∧ t = .int .i64 x ∧ u = .int .i64 y ∧ Int.gcd x y = Int.gcd a b ∧ ∃ n, wr = w.drewN n) (fun _ u _ => (intOf u).toNat)
  case atStart => exact ⟨a, b, ha0, ha, hb0, hb, rfl, rfl, rfl, 0, rfl⟩
  case round =>
    obtain ⟨x, y, hx0, hx, hy0, hy, rfl, rfl, hg, n, rfl⟩ := hrel
    have HG := Lib.hid hg; clear hg
    by_cases h0 : y = 0
    · subst h0
      go_wp2
      go_ret
      refine ⟨?_, ⟨#[], w.drawn + n, ?_⟩⟩
      · rw [← HG.out]; simp; omega
      · simp [xt, World.drewN]
    · have hy1 : 1 ≤ y := by omega
      have hyn : (y != 0) = true := by simp; omega
      go_wp2
      go_quiet (fail)
      go_wp2
      go_roundw
      case rel =>
        have h1 := Int.emod_nonneg x (show y ≠ 0 by omega)
        have h2 := Int.emod_lt_of_pos x (show 0 < y by omega)
        exact ⟨y, x % y, by omega, by omega, by omega, by omega, rfl, rfl, by rw [gcd_step x y hx0 hy1]; exact HG.out, n + nq, by simp⟩
      case measure =>
        have h1 := Int.emod_nonneg x (show y ≠ 0 by omega)
        have h2 := Int.emod_lt_of_pos x (show 0 < y by omega)
        simp [intOf]; omega


set_option maxHeartbeats 400000 in
theorem valid_any (n d : Int) (w : World) (hn0 : -9223372036854775808 ≤ n) (hn1 : n ≤ 9223372036854775807) (hd0 : -9223372036854775808 ≤ d) (hd1 : d ≤ 9223372036854775807) :
    Calls Tryd.prog 16 #[.agg #[.int .i64 n, .int .i64 d]] w (Grows w (.bool (validB n d))) := by
  go_enter Tryd.func16, Tryd.ntmps16
  go_wp2_with (go_at_call 31; refine (common_any _ _ _ (by omega) (by omega) (by omega) (by omega)).mono ?_; rintro e w' ⟨rfl, O, dd, rfl⟩)
  all_goals go_ret
  all_goals refine ⟨ret_bool ?_, by repeat (first | exact Gr.refl _ | refine Gr.xt _ _ ?_ | refine Gr.alloc _ ?_)⟩
  all_goals first | (simp [validB, *]; done) | (simp [validB]; omega)
set_option maxHeartbeats 400000 in
theorem new_core (n d g : Int) (w : World) (hn0 : 0 ≤ n) (hn1 : n ≤ 9223372036854775807) (hd0 : 1 ≤ d) (hd1 : d ≤ 9223372036854775807) (hg : Hid (g = (Int.gcd n d : Int))) (hg1 : 1 ≤ g)
    (hq0 : 0 ≤ n / g) (hq1 : n / g ≤ 9223372036854775807) (hr0 : 0 ≤ d / g) (hr1 : d / g ≤ 9223372036854775807) :
    Calls Tryd.prog 9 #[.int .i64 n, .int .i64 d] w (Grows w (if validB (n / g) (d / g) = true then .tuple #[.agg #[.int .i64 (n / g), .int .i64 (d / g)], .int .i64 0] else .tuple #[.agg #[.int .i64 0, .int .i64 0], .int .i64 2])) := by
  by_cases hv : validB (n / g) (d / g) = true
  · rw [if_pos hv]
    go_enter Tryd.func9, Tryd.ntmps9
    go_wp2_with (go_at_call 31; refine (common_any _ _ _ (by omega) (by omega) (by omega) (by omega)).mono ?_; rw [← hg.out]; rintro e w' ⟨rfl, O, dd, rfl⟩)
    go_region
    all_goals go_wp2_with (go_at_call 16; refine (valid_any _ _ _ (by omega) (by omega) (by omega) (by omega)).mono ?_; rintro e w' ⟨rfl, O', dd', rfl⟩)
    exact bodyPost_ret (v := .tuple #[.agg #[.int .i64 (n / g), .int .i64 (d / g)], .int .i64 0]) (by simp [results, Tryd.results9, go_sem]) rfl
      ⟨rfl, by repeat (first | exact Gr.refl _ | refine Gr.xt _ _ ?_ | refine Gr.alloc _ ?_)⟩
  · rw [if_neg hv]
    go_enter Tryd.func9, Tryd.ntmps9
    go_wp2_with (go_at_call 31; refine (common_any _ _ _ (by omega) (by omega) (by omega) (by omega)).mono ?_; rw [← hg.out]; rintro e w' ⟨rfl, O, dd, rfl⟩)
    go_region
    all_goals go_wp2_with (go_at_call 16; refine (valid_any _ _ _ (by omega) (by omega) (by omega) (by omega)).mono ?_; rintro e w' ⟨rfl, O', dd', rfl⟩)
    exact bodyPost_ret (v := .tuple #[.agg #[.int .i64 0, .int .i64 0], .int .i64 2]) (by simp [results, Tryd.results9, go_sem]) rfl
      ⟨rfl, by repeat (first | exact Gr.refl _ | refine Gr.xt _ _ ?_ | refine Gr.alloc _ ?_)⟩

set_option maxHeartbeats 400000 in
theorem new_any (n d : Int) (w : World) (hn0 : -9223372036854775808 ≤ n) (hn1 : n ≤ 9223372036854775807) (hd0 : -9223372036854775808 ≤ d) (hd1 : d ≤ 9223372036854775807) :
    Calls Tryd.prog 9 #[.int .i64 n, .int .i64 d] w (Grows w (.tuple #[.agg #[.int .i64 (newN n d), .int .i64 (newD n d)], .int .i64 (newE n d)])) := by
  by_cases h : 0 ≤ n ∧ 1 ≤ d
  · have hg := gcd_bounds n d h.2
    have h1 := ediv_bounds n (Int.gcd n d) h.1 hg.1
    have h2 := ediv_bounds d (Int.gcd n d) (by omega) hg.1
    have := new_core n d (Int.gcd n d) w h.1 hn1 h.2 hd1 (Lib.hid rfl) hg.1 h1.1 (by omega) h2.1 (by omega)
    have e : okNew n d = validB (n / Int.gcd n d) (d / Int.gcd n d) := by simp [okNew, h.1, h.2]
    by_cases hv : validB (n / Int.gcd n d) (d / Int.gcd n d) = true
    · rw [if_pos hv] at this
      simp only [newN, newD, newE, e, if_pos hv]; exact this
    · rw [if_neg hv] at this
      simp only [newN, newD, newE, e, if_neg hv]; exact this
  · have e : okNew n d = false := by
      have : decide (0 ≤ n) = false ∨ decide (1 ≤ d) = false := by simp; omega
      rcases this with h | h <;> simp [okNew, h]
    simp only [newN, newD, newE, e, Bool.false_eq_true, if_false]
    clear e
    by_cases h1 : n < 0
    all_goals
      go_enter Tryd.func9, Tryd.ntmps9
      go_wp2_with fail
      exact bodyPost_ret (v := .tuple #[.agg #[.int .i64 0, .int .i64 0], .int .i64 2]) (by simp [results, Tryd.results9, go_sem]) rfl
        ⟨rfl, by repeat (first | exact Gr.refl _ | refine Gr.xt _ _ ?_ | refine Gr.alloc _ ?_)⟩
end Go.Proofs.YtdbofdjjecoeeaaDoor
