/- The reference's Times. -/
import Derived.Test.YtdbofdjjecoeeaaDoorRfB
set_option linter.unusedVariables false
set_option linter.unusedSimpArgs false
namespace Go.Proofs.YtdbofdjjecoeeaaDoor
open Go.RowKit

set_option maxHeartbeats 800000 in
theorem refTimes_core (n d k c : Int) (w : World) (v1 : 0 ≤ n) (v2 : n ≤ 144115188075855872) (v3 : 1 ≤ d) (v4 : d ≤ 16777216) (hk0 : 1 ≤ k) (hk1 : k ≤ 64) (hv : validB n d = true) (hc : Hid ((Int.gcd k d : Int) = c)) (c0 : 1 ≤ c) (c1 : c ≤ k)
    (k0 : 1 ≤ k / c) (k1 : k / c ≤ k) (d0 : 1 ≤ d / c) (d1 : d / c ≤ d) (fk : (decide (1 ≤ k) && decide (k ≤ 64)) = true) (q0 : 0 ≤ 144115188075855872 / (k / c)) :
    Calls Tryd.prog 22 #[.agg #[.int .i64 n, .int .i64 d], .int .i64 k] w (Grows w (if 144115188075855872 / (k / c) < n then .tuple #[.agg #[.int .i64 0, .int .i64 0], .int .i64 2] else .tuple #[.agg #[.int .i64 (newN (n * (k / c)) (d / c)), .int .i64 (newD (n * (k / c)) (d / c))], .int .i64 (newE (n * (k / c)) (d / c))])) := by
  by_cases hb : 144115188075855872 / (k / c) < n
  · rw [if_pos hb]
    go_enter Tryd.func22, Tryd.ntmps22
    go_wp2_with (first
      | (go_at_call 17; refine (ref_valid_any _ _ _ (by omega) (by omega) (by omega) (by omega)).mono ?_; rintro e w' ⟨rfl, O1, d1, rfl⟩)
      | (go_at_call 42; refine (refFactor_any _ _).mono ?_; rw [fk]; rintro e w' ⟨rfl, O2, d2, rfl⟩)
      | (go_at_call 38; refine (ref_common_any _ _ _ (by omega) (by omega) (by omega) (by omega)).mono ?_; rw [hc.out]; rintro e w' ⟨rfl, O3, d3, rfl⟩))
    go_quiet (fail)
    go_wp2_with fail
    exact bodyPost_ret (v := .tuple #[.agg #[.int .i64 0, .int .i64 0], .int .i64 2]) (by simp [results, Tryd.results22, go_sem]) rfl
      ⟨rfl, by repeat (first | with_reducible exact Gr.refl _ | with_reducible refine Gr.xt _ _ ?_ | with_reducible refine Gr.alloc _ ?_ | with_reducible refine Gr.drewN _ ?_ | with_reducible refine Gr.setCell (Nat.le_succ _) _ ?_)⟩
  · rw [if_neg hb]
    obtain ⟨m0, m1⟩ := div_ge _ _ n k0 v1 hb
    go_enter Tryd.func22, Tryd.ntmps22
    go_wp2_with (first
      | (go_at_call 17; refine (ref_valid_any _ _ _ (by omega) (by omega) (by omega) (by omega)).mono ?_; rintro e w' ⟨rfl, O1, d1, rfl⟩)
      | (go_at_call 42; refine (refFactor_any _ _).mono ?_; rw [fk]; rintro e w' ⟨rfl, O2, d2, rfl⟩)
      | (go_at_call 38; refine (ref_common_any _ _ _ (by omega) (by omega) (by omega) (by omega)).mono ?_; rw [hc.out]; rintro e w' ⟨rfl, O3, d3, rfl⟩))
    go_quiet (fail)
    go_wp2_with fail
    first
      | refine wp_region_grows_tailx 13 (by kernel_rfl) (by kernel_rfl) ?_
      | refine wp_region_grows_tail 13 (by kernel_rfl) (by kernel_rfl) ?_
    simp only [List.take_succ_cons, List.take_zero, List.drop_succ_cons, List.drop_zero]
    repeat (go_big_quiet_step (first | (go_at_call 29; exact calls_grows (ref_new_any _ _ _ (by omega) (by omega) (by omega) (by omega)))))
    refine wpQuiet_nil ?_
    rintro _ ⟨⟨O5, d5⟩, rfl⟩
    go_wp2_with fail
    exact bodyPost_ret (v := .tuple #[.agg #[.int .i64 (newN (n * (k / c)) (d / c)), .int .i64 (newD (n * (k / c)) (d / c))], .int .i64 (newE (n * (k / c)) (d / c))]) (by simp [results, Tryd.results22, go_sem]) rfl
      ⟨rfl, by repeat (first | with_reducible exact Gr.refl _ | with_reducible refine Gr.xt _ _ ?_ | with_reducible refine Gr.alloc _ ?_ | with_reducible refine Gr.drewN _ ?_ | with_reducible refine Gr.setCell (Nat.le_succ _) _ ?_)⟩
set_option maxHeartbeats 800000 in
theorem refTimes_any (n d k : Int) (w : World) (hn0 : -9223372036854775808 ≤ n) (hn1 : n ≤ 9223372036854775807) (hd0 : -9223372036854775808 ≤ d) (hd1 : d ≤ 9223372036854775807) :
    Calls Tryd.prog 22 #[.agg #[.int .i64 n, .int .i64 d], .int .i64 k] w (Grows w (.tuple #[.agg #[.int .i64 (tN n d k), .int .i64 (tD n d k)], .int .i64 (tE n d k)])) := by
  by_cases hv : validB n d = true
  · by_cases hk : 1 ≤ k ∧ k ≤ 64
    · have hk0 := hk.1
      have hk1 := hk.2
      have e : okFac n d k = true := by simp [okFac, hv, hk0, hk1]
      have fk : (decide (1 ≤ k) && decide (k ≤ 64)) = true := by simp [hk0, hk1]
      simp only [tN, tD, tE, if_pos e]
      obtain ⟨v1, v2, v3, v4, -⟩ := valid_parts hv
      have b1 := gcd_bounds_left k d hk0
      have b2 := div_gcd_left k d hk0
      have b4 := gcd_bounds k d v3
      have b3 : 1 ≤ d / (Int.gcd k d : Int) := (Int.le_ediv_iff_mul_le (by omega)).2 (by omega)
      have b5 := ediv_bounds d (Int.gcd k d) (by omega) b1.1
      have q0 : 0 ≤ 144115188075855872 / (k / (Int.gcd k d : Int)) := Int.ediv_nonneg (by omega) (by omega)
      refine (refTimes_core n d k _ w v1 v2 v3 v4 hk0 hk1 hv (Lib.hid rfl) b1.1 b1.2 b2.1 b2.2 b3 b5.2 fk q0).mono ?_
      rintro e w' ⟨rfl, hg⟩
      refine ⟨?_, hg⟩
      by_cases hb : tmBig n d k
      · have hb' := hb
        unfold tmBig at hb'
        rw [if_pos hb']
        simp only [tmN, tmD, if_pos hb]
        rfl
      · have hb' := hb
        unfold tmBig at hb'
        rw [if_neg hb']
        simp only [tmN, tmD, if_neg hb]
    · have e : okFac n d k = false := by
        have : decide (1 ≤ k) = false ∨ decide (k ≤ 64) = false := by simp; omega
        rcases this with h | h <;> simp [okFac, h]
      have fk : (decide (1 ≤ k) && decide (k ≤ 64)) = false := by
        have : decide (1 ≤ k) = false ∨ decide (k ≤ 64) = false := by simp; omega
        rcases this with h | h <;> simp [h]
      simp only [tN, tD, tE, e, hv, Bool.false_eq_true, if_false, if_true]
      clear e
      go_enter Tryd.func22, Tryd.ntmps22
      go_wp2_with (first
        | (go_at_call 17; refine (ref_valid_any _ _ _ (by omega) (by omega) (by omega) (by omega)).mono ?_; rintro e w' ⟨rfl, O1, d1, rfl⟩)
        | (go_at_call 42; refine (refFactor_any _ _).mono ?_; rw [fk]; rintro e w' ⟨rfl, O2, d2, rfl⟩))
      exact bodyPost_ret (v := .tuple #[.agg #[.int .i64 0, .int .i64 0], .int .i64 2]) (by simp [results, Tryd.results22, go_sem]) rfl
        ⟨rfl, by repeat (first | exact Gr.refl _ | refine Gr.xt _ _ ?_ | refine Gr.alloc _ ?_ | refine Gr.drewN _ ?_)⟩
  · have e : okFac n d k = false := by simp [okFac, hv]
    simp only [tN, tD, tE, e, hv, Bool.false_eq_true, if_false]
    clear e
    go_enter Tryd.func22, Tryd.ntmps22
    go_wp2_with (go_at_call 17; refine (ref_valid_any _ _ _ (by omega) (by omega) (by omega) (by omega)).mono ?_; rintro e w' ⟨rfl, O1, d1, rfl⟩)
    exact bodyPost_ret (v := .tuple #[.agg #[.int .i64 0, .int .i64 0], .int .i64 1]) (by simp [results, Tryd.results22, go_sem]) rfl
      ⟨rfl, by repeat (first | exact Gr.refl _ | refine Gr.xt _ _ ?_ | refine Gr.alloc _ ?_ | refine Gr.drewN _ ?_)⟩
end Go.Proofs.YtdbofdjjecoeeaaDoor
