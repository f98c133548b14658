/- The reference's Floor, Within, Times, Over, Compare: they return what the program's functions return. -/
import Derived.Test.YtdbofdjjecoeeaaDoorUnd
import Derived.Test.YtdbofdjjecoeeaaDoorRateC
import Derived.Test.YtdbofdjjecoeeaaDoorFmt
set_option linter.unusedVariables false
set_option linter.unusedSimpArgs false
namespace Go.Proofs.YtdbofdjjecoeeaaDoor
open Go.RowKit

theorem refFloor_any (n d : Int) (w : World) (hn0 : -9223372036854775808 ≤ n) (hn1 : n ≤ 9223372036854775807) (hd0 : -9223372036854775808 ≤ d) (hd1 : d ≤ 9223372036854775807) :
    Calls Tryd.prog 18 #[.agg #[.int .i64 n, .int .i64 d]] w (Grows w (.int .i64 (floorI n d))) := by
  by_cases hv : validB n d = true
  · obtain ⟨v1, v2, v3, v4, v5⟩ := valid_parts hv
    clear v5
    have a1 := ediv_bounds n d v1 v3
    go_enter Tryd.func18, Tryd.ntmps18
    go_wp2_with (go_at_call 17; refine (ref_valid_any _ _ _ (by omega) (by omega) (by omega) (by omega)).mono ?_; rintro e w' ⟨rfl, O1, D1, rfl⟩)
    go_ret
    exact ⟨ret_int (by rw [floorI, if_pos hv]), by repeat (first | exact Gr.refl _ | refine Gr.xt _ _ ?_ | refine Gr.alloc _ ?_ | refine Gr.drewN _ ?_)⟩
  · go_enter Tryd.func18, Tryd.ntmps18
    go_wp2_with (go_at_call 17; refine (ref_valid_any _ _ _ (by omega) (by omega) (by omega) (by omega)).mono ?_; rintro e w' ⟨rfl, O1, D1, rfl⟩)
    go_ret
    exact ⟨ret_int (by rw [floorI, if_neg hv]), by repeat (first | exact Gr.refl _ | refine Gr.xt _ _ ?_ | refine Gr.alloc _ ?_ | refine Gr.drewN _ ?_)⟩

set_option maxHeartbeats 400000 in
theorem refWithin_any (n d lo hi : Int) (w : World) (hn0 : -9223372036854775808 ≤ n) (hn1 : n ≤ 9223372036854775807) (hd0 : -9223372036854775808 ≤ d) (hd1 : d ≤ 9223372036854775807) :
    Calls Tryd.prog 26 #[.agg #[.int .i64 n, .int .i64 d], .int .i64 lo, .int .i64 hi] w (Grows w (.bool (withinB n d lo hi))) := by
  by_cases hv : validB n d = true
  · obtain ⟨v1, v2, v3, v4, v5⟩ := valid_parts hv
    clear v5
    go_enter Tryd.func26, Tryd.ntmps26
    go_wp2_with (go_at_call 17; refine (ref_valid_any _ _ _ (by omega) (by omega) (by omega) (by omega)).mono ?_; rintro e w' ⟨rfl, O1, D1, rfl⟩)
    all_goals go_ret
    all_goals refine ⟨ret_bool ?_, by repeat (first | exact Gr.refl _ | refine Gr.xt _ _ ?_ | refine Gr.alloc _ ?_ | refine Gr.drewN _ ?_)⟩
    all_goals (rw [Bool.eq_iff_iff]; simp [withinB, hv]; try omega)
  · go_enter Tryd.func26, Tryd.ntmps26
    go_wp2_with (go_at_call 17; refine (ref_valid_any _ _ _ (by omega) (by omega) (by omega) (by omega)).mono ?_; rintro e w' ⟨rfl, O1, D1, rfl⟩)
    go_ret
    exact ⟨ret_bool (by simp [withinB, hv]), by repeat (first | exact Gr.refl _ | refine Gr.xt _ _ ?_ | refine Gr.alloc _ ?_ | refine Gr.drewN _ ?_)⟩

theorem new_scale (a b c : Int) (ha : 0 ≤ a) (hb : 1 ≤ b) (hc : 1 ≤ c) : newE (a * c) (b * c) = newE a b ∧ newN (a * c) (b * c) = newN a b ∧ newD (a * c) (b * c) = newD a b := by
  have hg : (Int.gcd (a * c) (b * c) : Int) = Int.gcd a b * c := by
    rw [Int.gcd_mul_right]
    have : ((c.natAbs : Nat) : Int) = c := by omega
    rw [Int.natCast_mul, this]
  have hg0 := gcd_bounds a b hb
  have e1 : a * c / (Int.gcd a b * c) = a / Int.gcd a b := Int.mul_ediv_mul_of_pos_left a (Int.gcd a b) (by omega)
  have e2 : b * c / (Int.gcd a b * c) = b / Int.gcd a b := Int.mul_ediv_mul_of_pos_left b (Int.gcd a b) (by omega)
  have a0 : 0 ≤ a * c := Int.mul_nonneg ha (by omega)
  have b0 : 1 ≤ b * c := Int.mul_pos (by omega) (by omega)
  have ok : okNew (a * c) (b * c) = okNew a b := by
    rw [Bool.eq_iff_iff, okNew_iff _ _ a0 b0, okNew_iff a b ha hb, hg, e1, e2]
  simp [newE, newN, newD, ok, hg, e1, e2]
theorem over_new (n d k : Int) (h0 : 0 ≤ n) (hd : 1 ≤ d) (hk : 1 ≤ k) : newE n (d * k) = newE (ovN n k) (ovD n d k) ∧ newN n (d * k) = newN (ovN n k) (ovD n d k) ∧ newD n (d * k) = newD (ovN n k) (ovD n d k) := by
  have hc := gcd_bounds n k hk
  have g1 := div_mul_self k _ (Int.gcd_dvd_right n k)
  have g2 := div_mul_self n _ (Int.gcd_dvd_left n k)
  have g5 : 1 ≤ k / (Int.gcd n k : Int) := (Int.le_ediv_iff_mul_le (by omega)).2 (by omega)
  have s := new_scale (ovN n k) (ovD n d k) (Int.gcd n k) (ediv_bounds n _ h0 hc.1).1 (Int.mul_pos (by omega) (by omega)) hc.1
  have e1 : ovN n k * (Int.gcd n k : Int) = n := g2
  have e2 : ovD n d k * (Int.gcd n k : Int) = d * k := by unfold ovD; rw [Int.mul_assoc, g1]
  rw [e1, e2] at s
  exact s
theorem refFactor_any (k : Int) (w : World) : Calls Tryd.prog 42 #[.int .i64 k] w (Grows w (.bool (decide (1 ≤ k) && decide (k ≤ 64)))) := by
  go_enter Tryd.func42, Tryd.ntmps42
  go_wp2_with fail
  all_goals go_ret
  all_goals refine ⟨ret_bool ?_, Gr.refl _⟩
  all_goals (rw [Bool.eq_iff_iff]; simp; try omega)
set_option maxHeartbeats 800000 in
theorem refOver_any (n d k : Int) (w : World) (hn0 : -9223372036854775808 ≤ n) (hn1 : n ≤ 9223372036854775807) (hd0 : -9223372036854775808 ≤ d) (hd1 : d ≤ 9223372036854775807) :
    Calls Tryd.prog 23 #[.agg #[.int .i64 n, .int .i64 d], .int .i64 k] w (Grows w (.tuple #[.agg #[.int .i64 (oN n d k), .int .i64 (oD n d k)], .int .i64 (oE n d k)])) := by
  by_cases hv : validB n d = true
  · by_cases hk : 1 ≤ k ∧ k ≤ 64
    · have hk0 := hk.1
      have hk1 := hk.2
      have e : okFac n d k = true := by simp [okFac, hv, hk0, hk1]
      have fk : (decide (1 ≤ k) && decide (k ≤ 64)) = true := by simp [hk0, hk1]
      simp only [oN, oD, oE, if_pos e]
      obtain ⟨v1, v2, v3, v4, -⟩ := valid_parts hv
      obtain ⟨o1, o2, o3⟩ := over_new n d k v1 v3 hk0
      rw [← o1, ← o2, ← o3]
      have m0 : 1 ≤ d * k := Int.mul_pos (by omega) (by omega)
      have m1 : d * k ≤ 16777216 * 64 := Int.mul_le_mul v4 hk1 (by omega) (by omega)
      clear e hk o1 o2 o3
      go_enter Tryd.func23, Tryd.ntmps23
      go_wp2_with (first
        | (go_at_call 17; refine (ref_valid_any _ _ _ (by omega) (by omega) (by omega) (by omega)).mono ?_; rintro e w' ⟨rfl, O1, d1, rfl⟩)
        | (go_at_call 42; refine (refFactor_any _ _).mono ?_; rw [fk]; rintro e w' ⟨rfl, O2, d2, rfl⟩)
        | (go_at_call 29; refine (ref_new_any _ _ _ (by omega) (by omega) (by omega) (by omega)).mono ?_; rintro e w' ⟨rfl, O3, d3, rfl⟩))
      exact bodyPost_ret (v := .tuple #[.agg #[.int .i64 (newN n (d * k)), .int .i64 (newD n (d * k))], .int .i64 (newE n (d * k))]) (by simp [results, Tryd.results23, go_sem]) rfl
        ⟨rfl, by repeat (first | exact Gr.refl _ | refine Gr.xt _ _ ?_ | refine Gr.alloc _ ?_ | refine Gr.drewN _ ?_)⟩
    · have e : okFac n d k = false := by
        have : decide (1 ≤ k) = false ∨ decide (k ≤ 64) = false := by simp; omega
        rcases this with h | h <;> simp [okFac, h]
      have fk : (decide (1 ≤ k) && decide (k ≤ 64)) = false := by
        have : decide (1 ≤ k) = false ∨ decide (k ≤ 64) = false := by simp; omega
        rcases this with h | h <;> simp [h]
      simp only [oN, oD, oE, e, hv, Bool.false_eq_true, if_false, if_true]
      clear e
      go_enter Tryd.func23, Tryd.ntmps23
      go_wp2_with (first
        | (go_at_call 17; refine (ref_valid_any _ _ _ (by omega) (by omega) (by omega) (by omega)).mono ?_; rintro e w' ⟨rfl, O1, d1, rfl⟩)
        | (go_at_call 42; refine (refFactor_any _ _).mono ?_; rw [fk]; rintro e w' ⟨rfl, O2, d2, rfl⟩))
      exact bodyPost_ret (v := .tuple #[.agg #[.int .i64 0, .int .i64 0], .int .i64 2]) (by simp [results, Tryd.results23, go_sem]) rfl
        ⟨rfl, by repeat (first | exact Gr.refl _ | refine Gr.xt _ _ ?_ | refine Gr.alloc _ ?_ | refine Gr.drewN _ ?_)⟩
  · have e : okFac n d k = false := by simp [okFac, hv]
    simp only [oN, oD, oE, e, hv, Bool.false_eq_true, if_false]
    clear e
    go_enter Tryd.func23, Tryd.ntmps23
    go_wp2_with (go_at_call 17; refine (ref_valid_any _ _ _ (by omega) (by omega) (by omega) (by omega)).mono ?_; rintro e w' ⟨rfl, O1, d1, rfl⟩)
    exact bodyPost_ret (v := .tuple #[.agg #[.int .i64 0, .int .i64 0], .int .i64 1]) (by simp [results, Tryd.results23, go_sem]) rfl
      ⟨rfl, by repeat (first | exact Gr.refl _ | refine Gr.xt _ _ ?_ | refine Gr.alloc _ ?_ | refine Gr.drewN _ ?_)⟩
end Go.Proofs.YtdbofdjjecoeeaaDoor
