/- Contracts of the functions Compare and Within of package rate, and of cmp's functions beneath: what they return for all numbers of 64 bits, and that memory only grows. -/
import Derived.Test.YtdbofdjjecoeeaaDoorRateD
import Derived.Test.YtdbofdjjecoeeaaDoorTail
set_option linter.unusedVariables false
set_option linter.unusedSimpArgs false
namespace Go.Proofs.YtdbofdjjecoeeaaDoor
open Go.RowKit

def cmpI (x y : Int) : Int := if x < y then -1 else if y < x then 1 else 0
def orI (x y : Int) : Int := if x = 0 then y else x

set_option maxHeartbeats 400000 in
theorem cmpCompare_any (x y : Int) (w : World) :
    Calls Tryd.prog 41 #[.int .i64 x, .int .i64 y] w fun e w' => e = .returned (.int .i64 (cmpI x y)) ∧ w = w' := by
  go_enter Tryd.func41, Tryd.ntmps41
  go_wp2
  all_goals go_ret
  all_goals refine ⟨ret_int ?_, rfl⟩
  all_goals (unfold cmpI; repeat (first | rfl | rw [if_pos (by omega)] | rw [if_neg (by omega)]))

set_option maxHeartbeats 400000 in
theorem cmpOr_any (x y : Int) (b : Nat) (w : World) (hx : w.cell? ⟨b, 0, none⟩ = some (.int .i64 x)) (hy : w.cell? ⟨b, 1, none⟩ = some (.int .i64 y)) :
    Calls Tryd.prog 40 #[.slice (some ⟨b, 0, none⟩) 2 2] w fun e w' => e = .returned (.int .i64 (orI x y)) ∧ w = w' := by
  by_cases h1 : x = 0
  · subst h1
    have e0 : orI 0 y = y := rfl
    rw [e0]
    clear e0
    by_cases h2 : y = 0
    · subst h2
      go_enter Tryd.func40, Tryd.ntmps40
      go_wp2
      refine wp_loop_rounds 3 ?_
      rw [rounds_succ]
      go_wp2
      rw [rounds_succ]
      go_wp2
      rw [rounds_succ]
      go_wp2
      go_ret
      exact ⟨rfl, rfl⟩
    · have hy0 : (y != 0) = true := by simp; omega
      go_enter Tryd.func40, Tryd.ntmps40
      go_wp2
      refine wp_loop_rounds 2 ?_
      rw [rounds_succ]
      go_wp2
      rw [rounds_succ]
      go_wp2
      go_ret
      exact ⟨rfl, rfl⟩
  · have hx0 : (x != 0) = true := by simp; omega
    have e0 : orI x y = x := if_neg h1
    rw [e0]
    clear e0
    go_enter Tryd.func40, Tryd.ntmps40
    go_wp2
    refine wp_loop_rounds 1 ?_
    rw [rounds_succ]
    go_wp2
    go_ret
    exact ⟨rfl, rfl⟩

theorem cmpCompare_still (x y : Int) (w : World) :
    Calls Tryd.prog 41 #[.int .i64 x, .int .i64 y] w fun e w' => e = .returned (.int .i64 (cmpI x y)) ∧ w' = w := (cmpCompare_any x y w).mono fun _ _ h => ⟨h.1, h.2.symm⟩

/-- What Compare returns for valid rates. -/
def cmpR (n d m e : Int) : Int := orI (cmpI (n / d) (m / e)) (cmpI (n % d * e) (m % e * d))

set_option maxHeartbeats 800000 in
theorem compare_ok (n d m e : Int) (w : World) (hv : validB n d = true) (hu : validB m e = true) (n0 : 0 ≤ n) (n1 : n ≤ 144115188075855872) (d0 : 1 ≤ d) (d1 : d ≤ 16777216) (m0 : 0 ≤ m) (m1 : m ≤ 144115188075855872) (e0 : 1 ≤ e) (e1 : e ≤ 16777216)
    (_p0 : 0 ≤ n / d) (_p1 : n / d ≤ n) (_q0 : 0 ≤ m / e) (_q1 : m / e ≤ m) (_r0 : 0 ≤ n % d) (_s0 : 0 ≤ m % e) (t0 : 0 ≤ n % d * e) (t1 : n % d * e ≤ 281474976710656) (u0 : 0 ≤ m % e * d) (u1 : m % e * d ≤ 281474976710656) :
    Calls Tryd.prog 20 #[.agg #[.int .i64 n, .int .i64 d], .agg #[.int .i64 m, .int .i64 e]] w (Grows w (.int .i64 (cmpR n d m e))) := by
  go_enter Tryd.func20, Tryd.ntmps20
  go_wp2_with (go_at_call 16; refine (valid_any _ _ _ (by omega) (by omega) (by omega) (by omega)).mono ?_; rintro e w' ⟨rfl, O1, D1, rfl⟩)
  refine wp_region_grows_tailx 28 (by kernel_rfl) (by kernel_rfl) ?_
  simp only [List.take_succ_cons, List.take_zero, List.drop_succ_cons, List.drop_zero]
  repeat (go_big_quiet_step (exact calls_same (cmpCompare_any _ _ _)))
  refine wpQuiet_nil ?_
  rintro _ ⟨⟨O2, D2⟩, rfl⟩
  go_wp2_with (go_at_call 40; refine (cmpOr_any (cmpI (n / d) (m / e)) (cmpI (n % d * e) (m % e * d)) _ _ ?_ ?_).mono ?_; (simp [go_sem]); (simp [go_sem]); rintro e w' ⟨rfl, rfl⟩)
  go_ret
  exact ⟨rfl, by repeat (first | exact Gr.refl _ | refine Gr.xt _ _ ?_ | refine Gr.alloc _ ?_ | refine Gr.drewN _ ?_)⟩

def cmpV (n d m e : Int) : Int := if validB n d = true ∧ validB m e = true then cmpR n d m e else 0

theorem mod_mul_bounds (n d e : Int) (hd : 1 ≤ d) (hd1 : d ≤ 16777216) (he : 1 ≤ e) (he1 : e ≤ 16777216) : 0 ≤ n % d ∧ 0 ≤ n % d * e ∧ n % d * e ≤ 281474976710656 := by
  have h1 := Int.emod_nonneg n (show d ≠ 0 by omega)
  have h2 := Int.emod_lt_of_pos n (show 0 < d by omega)
  have h3 : n % d * e ≤ 16777216 * 16777216 := Int.mul_le_mul (by omega) he1 (by omega) (by omega)
  exact ⟨h1, Int.mul_nonneg h1 (by omega), by omega⟩

set_option maxHeartbeats 400000 in
theorem compare_any (n d m e : Int) (w : World) (hn0 : -9223372036854775808 ≤ n) (hn1 : n ≤ 9223372036854775807) (hd0 : -9223372036854775808 ≤ d) (hd1 : d ≤ 9223372036854775807) (hm0 : -9223372036854775808 ≤ m) (hm1 : m ≤ 9223372036854775807) (he0 : -9223372036854775808 ≤ e) (he1 : e ≤ 9223372036854775807) :
    Calls Tryd.prog 20 #[.agg #[.int .i64 n, .int .i64 d], .agg #[.int .i64 m, .int .i64 e]] w (Grows w (.int .i64 (cmpV n d m e))) := by
  by_cases hv : validB n d = true
  · by_cases hu : validB m e = true
    · obtain ⟨v1, v2, v3, v4, _⟩ := valid_parts hv
      obtain ⟨u1, u2, u3, u4, _⟩ := valid_parts hu
      have a1 := ediv_bounds n d v1 v3
      have a2 := ediv_bounds m e u1 u3
      have a3 := mod_mul_bounds n d e v3 v4 u3 u4
      have a4 := mod_mul_bounds m e d u3 u4 v3 v4
      have := compare_ok n d m e w hv hu v1 v2 v3 v4 u1 u2 u3 u4 a1.1 a1.2 a2.1 a2.2 a3.1 a4.1 a3.2.1 a3.2.2 a4.2.1 a4.2.2
      rw [cmpV, if_pos ⟨hv, hu⟩]
      exact this
    · rw [cmpV, if_neg (fun h => hu h.2)]
      go_enter Tryd.func20, Tryd.ntmps20
      go_wp2_with (go_at_call 16; refine (valid_any _ _ _ (by omega) (by omega) (by omega) (by omega)).mono ?_; rintro e w' ⟨rfl, O1, D1, rfl⟩)
      go_ret
      exact ⟨rfl, by repeat (first | exact Gr.refl _ | refine Gr.xt _ _ ?_ | refine Gr.alloc _ ?_ | refine Gr.drewN _ ?_)⟩
  · rw [cmpV, if_neg (fun h => hv h.1)]
    go_enter Tryd.func20, Tryd.ntmps20
    go_wp2_with (go_at_call 16; refine (valid_any _ _ _ (by omega) (by omega) (by omega) (by omega)).mono ?_; rintro e w' ⟨rfl, O1, D1, rfl⟩)
    go_ret
    exact ⟨rfl, by repeat (first | exact Gr.refl _ | refine Gr.xt _ _ ?_ | refine Gr.alloc _ ?_ | refine Gr.drewN _ ?_)⟩

/-- What Within returns. -/
def withinB (n d lo hi : Int) : Bool := validB n d && (decide (lo ≤ n / d) && (decide (n / d < hi) || decide (n / d = hi) && decide (n % d = 0)))

set_option maxHeartbeats 400000 in
theorem within_any (n d lo hi : Int) (w : World) (hn0 : -9223372036854775808 ≤ n) (hn1 : n ≤ 9223372036854775807) (hd0 : -9223372036854775808 ≤ d) (hd1 : d ≤ 9223372036854775807) :
    Calls Tryd.prog 25 #[.agg #[.int .i64 n, .int .i64 d], .int .i64 lo, .int .i64 hi] w (Grows w (.bool (withinB n d lo hi))) := by
  by_cases hv : validB n d = true
  · obtain ⟨v1, v2, v3, v4, v5⟩ := valid_parts hv
    clear v5
    go_enter Tryd.func25, Tryd.ntmps25
    go_wp2_with (go_at_call 16; refine (valid_any _ _ _ (by omega) (by omega) (by omega) (by omega)).mono ?_; rintro e w' ⟨rfl, O1, D1, rfl⟩)
    go_quiet (fail)
    go_wp2
    all_goals go_ret
    all_goals refine ⟨ret_bool ?_, by repeat (first | exact Gr.refl _ | refine Gr.xt _ _ ?_ | refine Gr.alloc _ ?_ | refine Gr.drewN _ ?_)⟩
    all_goals (rw [Bool.eq_iff_iff]; simp [withinB, hv]; try omega)
  · go_enter Tryd.func25, Tryd.ntmps25
    go_wp2_with (go_at_call 16; refine (valid_any _ _ _ (by omega) (by omega) (by omega) (by omega)).mono ?_; rintro e w' ⟨rfl, O1, D1, rfl⟩)
    go_ret
    exact ⟨ret_bool (by simp [withinB, hv]), by repeat (first | exact Gr.refl _ | refine Gr.xt _ _ ?_ | refine Gr.alloc _ ?_ | refine Gr.drewN _ ?_)⟩
end Go.Proofs.YtdbofdjjecoeeaaDoor
