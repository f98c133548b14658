/- Contracts of the functions Compare and Within of package rate, and of cmp's functions beneath: what they return for all numbers of 64 bits, and that memory only grows. Rates in plain numbers: lowest terms, the order of rates as that of products, factors, whole limits. No program in sight. No conditions. (several texts in one, by wip/tools/merge.py) -/
import Derived.Test.YtenehghpmnajpaaGreatDoorKb
import Derived.Test.YtenehghpmnajpaaGreatDoorKa
/-! Contracts of the functions Compare and Within of package rate, and of cmp's functions beneath: what they return for all numbers of 64 bits, and that memory only grows. -/
set_option linter.unusedVariables false
set_option linter.unusedSimpArgs false
namespace Go.Proofs.YtenehghpmnajpaaGreatDoor
open Go.RowKit

def cmpI (x y : Int) : Int := if x < y then -1 else if y < x then 1 else 0
def orI (x y : Int) : Int := if x = 0 then y else x

/-- What Compare returns for valid rates. -/
def cmpR (n d m e : Int) : Int := orI (cmpI (n / d) (m / e)) (cmpI (n % d * e) (m % e * d))

def cmpV (n d m e : Int) : Int := if validB n d = true ∧ validB m e = true then cmpR n d m e else 0

theorem mod_mul_bounds (n d e : Int) (hd : 1 ≤ d) (hd1 : d ≤ 16777216) (he : 1 ≤ e) (he1 : e ≤ 16777216) : 0 ≤ n % d ∧ 0 ≤ n % d * e ∧ n % d * e ≤ 281474976710656 := by
  have h1 := Int.emod_nonneg n (show d ≠ 0 by omega)
  have h2 := Int.emod_lt_of_pos n (show 0 < d by omega)
  have h3 : n % d * e ≤ 16777216 * 16777216 := Int.mul_le_mul (by omega) he1 (by omega) (by omega)
  exact ⟨h1, Int.mul_nonneg h1 (by omega), by omega⟩

/-- What Within returns. -/
def withinB (n d lo hi : Int) : Bool := validB n d && (decide (lo ≤ n / d) && (decide (n / d < hi) || decide (n / d = hi) && decide (n % d = 0)))

set_option maxHeartbeats 400000 in
theorem within_any (n d lo hi : Int) (w : World) (hn0 : -9223372036854775808 ≤ n) (hn1 : n ≤ 9223372036854775807) (hd0 : -9223372036854775808 ≤ d) (hd1 : d ≤ 9223372036854775807) :
    Calls Tryz.prog 115 #[.agg #[.int .i64 n, .int .i64 d], .int .i64 lo, .int .i64 hi] w (Grows w (.bool (withinB n d lo hi))) := by
  by_cases hv : validB n d = true
  · obtain ⟨v1, v2, v3, v4, v5⟩ := valid_parts hv
    clear v5
    go_enter Tryz.func115, Tryz.ntmps115
    go_wp2_with (go_at_call 139; refine (valid_any _ _ _ (by omega) (by omega) (by omega) (by omega)).mono ?_; rintro e w' ⟨rfl, O1, D1, rfl⟩)
    go_quiet (fail)
    go_wp2
    all_goals go_ret
    all_goals refine ⟨ret_bool ?_, by repeat (first | exact Gr.refl _ | refine Gr.xt _ _ ?_ | refine Gr.alloc _ ?_ | refine Gr.drewN _ ?_)⟩
    all_goals (rw [Bool.eq_iff_iff]; simp [withinB, hv]; try omega)
  · go_enter Tryz.func115, Tryz.ntmps115
    go_wp2_with (go_at_call 139; refine (valid_any _ _ _ (by omega) (by omega) (by omega) (by omega)).mono ?_; rintro e w' ⟨rfl, O1, D1, rfl⟩)
    go_ret
    exact ⟨ret_bool (by simp [withinB, hv]), by repeat (first | exact Gr.refl _ | refine Gr.xt _ _ ?_ | refine Gr.alloc _ ?_ | refine Gr.drewN _ ?_)⟩
end Go.Proofs.YtenehghpmnajpaaGreatDoor

/-! Rates in plain numbers: lowest terms, the order of rates as that of products, factors, whole limits. No program in sight. No conditions. -/
set_option linter.unusedVariables false
set_option linter.unusedSimpArgs false
namespace Go.Proofs.YtenehghpmnajpaaGreatDoor

theorem div_mul_self (a g : Int) (h : g ∣ a) : a / g * g = a := Int.ediv_mul_cancel h

theorem okNew_iff (n d : Int) (hn : 0 ≤ n) (hd : 1 ≤ d) :
    okNew n d = true ↔ n / Int.gcd n d ≤ 144115188075855872 ∧ d / Int.gcd n d ≤ 16777216 := by
  have hg := gcd_bounds n d hd
  have h1 := ediv_bounds n (Int.gcd n d) hn hg.1
  have h2 : 1 ≤ d / (Int.gcd n d : Int) := (Int.le_ediv_iff_mul_le (by omega)).2 (by omega)
  have h3 : Int.gcd (n / Int.gcd n d) (d / Int.gcd n d) = 1 := by
    rw [Int.gcd_ediv (Int.gcd_dvd_left n d) (Int.gcd_dvd_right n d)]
    have : ((Int.gcd n d : Int)).natAbs = Int.gcd n d := by omega
    rw [this]; exact Nat.div_self (by omega)
  simp only [okNew, validB, h3, Bool.and_eq_true, decide_eq_true_eq]
  simp; omega
theorem okNew_of (n d : Int) (hn : 0 ≤ n) (hn1 : n ≤ 144115188075855872) (hd : 1 ≤ d) (hd1 : d ≤ 16777216) : okNew n d = true := by
  have hg := gcd_bounds n d hd
  have h1 := ediv_bounds n (Int.gcd n d) hn hg.1
  have h2 := ediv_bounds d (Int.gcd n d) (by omega) hg.1
  exact (okNew_iff n d hn hd).2 ⟨by omega, by omega⟩
/-- A quotient in lowest terms: valid, and of the same value. -/
theorem new_ok (n d : Int) (h : okNew n d = true) : validB (newN n d) (newD n d) = true ∧ newN n d * d = n * newD n d ∧ newE n d = 0 := by
  have h' := h
  simp only [okNew, Bool.and_eq_true, decide_eq_true_eq] at h'
  simp only [newN, newD, newE, h, if_true]
  refine ⟨h'.2, ?_, trivial⟩
  have h1 := div_mul_self n _ (Int.gcd_dvd_left n d)
  have h2 := div_mul_self d _ (Int.gcd_dvd_right n d)
  generalize n / (Int.gcd n d : Int) = a at *
  generalize d / (Int.gcd n d : Int) = b at *
  generalize (Int.gcd n d : Int) = g at *
  rw [← h1, ← h2, Int.mul_assoc, Int.mul_comm b g]
theorem newE_zero (n d : Int) (h : newE n d = 0) : okNew n d = true := by
  unfold newE at h
  split at h
  · assumption
  · omega
theorem new_one (n : Int) (h0 : 0 ≤ n) (h1 : n ≤ 144115188075855872) : newN n 1 = n ∧ newD n 1 = 1 ∧ newE n 1 = 0 := by
  have h := okNew_of n 1 h0 h1 (by omega) (by omega)
  simp [newN, newD, newE, h]

/-! The order -/
theorem cmp_parts (q s r t D : Int) (hr : 0 ≤ r) (hr1 : r < D) (ht : 0 ≤ t) (ht1 : t < D) : orI (cmpI q s) (cmpI r t) = cmpI (D * q + r) (D * s + t) := by
  have hD : 0 < D := by omega
  unfold orI cmpI
  rcases Int.lt_trichotomy q s with h | h | h
  · have : D * q + D ≤ D * s := by
      have := Int.mul_le_mul_of_nonneg_left (show q + 1 ≤ s by omega) (show 0 ≤ D by omega)
      rw [Int.mul_add, Int.mul_one] at this; omega
    rw [if_pos h, if_neg (by omega), if_pos (by omega)]
  · subst h
    simp only [Int.lt_irrefl, if_false, if_true]
    by_cases h1 : r < t
    · rw [if_pos h1, if_pos (by omega)]
    · rw [if_neg h1, if_neg (show ¬ D * q + r < D * q + t by omega)]
      by_cases h2 : t < r
      · rw [if_pos h2, if_pos (by omega)]
      · rw [if_neg h2, if_neg (by omega)]
  · have : D * s + D ≤ D * q := by
      have := Int.mul_le_mul_of_nonneg_left (show s + 1 ≤ q by omega) (show 0 ≤ D by omega)
      rw [Int.mul_add, Int.mul_one] at this; omega
    rw [if_neg (show ¬ q < s by omega), if_pos h, if_neg (by omega), if_neg (show ¬ D * q + r < D * s + t by omega), if_pos (by omega)]
theorem cmpR_eq (n d m e : Int) (hd : 1 ≤ d) (he : 1 ≤ e) : cmpR n d m e = cmpI (n * e) (m * d) := by
  unfold cmpR
  have h1 := Int.emod_nonneg n (show d ≠ 0 by omega)
  have h2 := Int.emod_lt_of_pos n (show 0 < d by omega)
  have h3 := Int.emod_nonneg m (show e ≠ 0 by omega)
  have h4 := Int.emod_lt_of_pos m (show 0 < e by omega)
  have a1 : n % d * e < d * e := Int.mul_lt_mul_of_pos_right h2 (by omega)
  have a2 : m % e * d < d * e := by rw [Int.mul_comm d e]; exact Int.mul_lt_mul_of_pos_right h4 (by omega)
  rw [cmp_parts (n / d) (m / e) (n % d * e) (m % e * d) (d * e) (Int.mul_nonneg h1 (by omega)) a1 (Int.mul_nonneg h3 (by omega)) a2]
  congr 1
  · have := Int.mul_ediv_add_emod n d
    conv => rhs; rw [← this]
    rw [Int.add_mul, Int.mul_right_comm]
  · have := Int.mul_ediv_add_emod m e
    conv => rhs; rw [← this]
    rw [Int.add_mul, Int.mul_comm d e, Int.mul_right_comm]
theorem cmpV_eq (n d m e : Int) (h : validB n d = true) (k : validB m e = true) : cmpV n d m e = cmpI (n * e) (m * d) := by
  rw [cmpV, if_pos ⟨h, k⟩, cmpR_eq _ _ _ _ (valid_parts h).2.2.1 (valid_parts k).2.2.1]
theorem cmpI_self (x : Int) : cmpI x x = 0 := by simp [cmpI]
theorem cmpI_neg (x y : Int) : cmpI x y = - cmpI y x := by unfold cmpI; split <;> split <;> (try split) <;> omega
theorem cmpI_le (x y : Int) : cmpI x y ≤ 0 ↔ x ≤ y := by unfold cmpI; split <;> (try split) <;> omega
theorem cmpI_ge (x y : Int) : 0 ≤ cmpI x y ↔ y ≤ x := by unfold cmpI; split <;> (try split) <;> omega
theorem cmpI_zero (x y : Int) : cmpI x y = 0 ↔ x = y := by unfold cmpI; split <;> (try split) <;> omega
theorem cmpI_wide (x y : Int) : -1 ≤ cmpI x y ∧ cmpI x y ≤ 1 := by unfold cmpI; split <;> (try split) <;> omega
theorem cmpV_wide (n d m e : Int) : -1 ≤ cmpV n d m e ∧ cmpV n d m e ≤ 1 := by
  unfold cmpV; split
  · unfold cmpR orI; split <;> exact cmpI_wide _ _
  · omega
theorem cmpI_mul (x y c : Int) (hc : 0 < c) : cmpI (c * x) (c * y) = cmpI x y := by
  unfold cmpI
  have h1 : c * x < c * y ↔ x < y := Int.mul_lt_mul_left hc
  have h2 : c * y < c * x ↔ y < x := Int.mul_lt_mul_left hc
  simp only [h1, h2]
theorem le_trans_rate (n d m e p f : Int) (hd : 1 ≤ d) (he : 1 ≤ e) (hf : 1 ≤ f) (h : n * e ≤ m * d) (k : m * f ≤ p * e) : n * f ≤ p * d := by
  have h1 : n * e * f ≤ m * d * f := Int.mul_le_mul_of_nonneg_right h (by omega)
  have h2 : m * f * d ≤ p * e * d := Int.mul_le_mul_of_nonneg_right k (by omega)
  have h3 : e * (n * f) ≤ e * (p * d) := by
    calc e * (n * f) = n * e * f := by rw [← Int.mul_assoc, Int.mul_comm e n]
      _ ≤ m * d * f := h1
      _ = m * f * d := Int.mul_right_comm m d f
      _ ≤ p * e * d := h2
      _ = e * (p * d) := by rw [Int.mul_comm p e, Int.mul_assoc]
  exact Int.le_of_mul_le_mul_left h3 (by omega)
theorem eq_of_cross (n d m e : Int) (h : validB n d = true) (k : validB m e = true) (hx : n * e = m * d) : n = m ∧ d = e := by
  obtain ⟨a1, _, a3, _, a5⟩ := valid_parts h
  obtain ⟨b1, _, b3, _, b5⟩ := valid_parts k
  have h1 : d ∣ e := by
    have : d ∣ n * e := hx ▸ Int.dvd_mul_left m d
    have := Int.dvd_gcd_mul_iff_dvd_mul.2 this
    rw [Int.gcd_comm, a5] at this; simpa using this
  have h2 : e ∣ d := by
    have : e ∣ m * d := hx ▸ Int.dvd_mul_left n e
    have := Int.dvd_gcd_mul_iff_dvd_mul.2 this
    rw [Int.gcd_comm, b5] at this; simpa using this
  have h3 : d = e := Int.dvd_antisymm (by omega) (by omega) h1 h2
  subst h3
  exact ⟨Int.eq_of_mul_eq_mul_right (by omega) hx, rfl⟩

/-! Factors -/
theorem times_ok (n d k : Int) (h : tE n d k = 0) : validB n d = true ∧ 1 ≤ k ∧ k ≤ 64 ∧ validB (tN n d k) (tD n d k) = true ∧ tN n d k * d = n * k * tD n d k := by
  have hf : okFac n d k = true := by
    unfold tE at h
    by_cases q : okFac n d k = true
    · exact q
    · rw [if_neg q] at h; split at h <;> omega
  have hf' := hf
  simp only [okFac, Bool.and_eq_true, decide_eq_true_eq] at hf'
  obtain ⟨⟨hv, hk0⟩, hk1⟩ := hf'
  obtain ⟨a1, a2, a3, a4, a5⟩ := valid_parts hv
  rw [tE, if_pos hf] at h
  have ho := newE_zero _ _ h
  have hb : ¬ tmBig n d k := by
    intro hb
    have : tmN n d k = -1 := by simp [tmN, hb]
    simp only [okNew, this, Bool.and_eq_true, decide_eq_true_eq] at ho
    omega
  have := new_ok _ _ ho
  refine ⟨hv, hk0, hk1, ?_, ?_⟩
  · simp only [tN, tD, if_pos hf]; exact this.1
  · simp only [tN, tD, if_pos hf]
    have h2 := this.2.1
    simp only [tmN, tmD, if_neg hb] at h2 ⊢
    have g1 := div_mul_self d _ (Int.gcd_dvd_right k d)
    have g2 := div_mul_self k _ (Int.gcd_dvd_left k d)
    generalize d / (Int.gcd k d : Int) = d' at *
    generalize k / (Int.gcd k d : Int) = k' at *
    generalize newN (n * k') d' = x at *
    generalize newD (n * k') d' = y at *
    generalize (Int.gcd k d : Int) = g at *
    calc x * d = x * d' * g := by rw [← g1, Int.mul_assoc]
      _ = n * k' * y * g := by rw [h2]
      _ = n * (k' * g) * y := by rw [Int.mul_right_comm, Int.mul_assoc n k' g]
      _ = n * k * y := by rw [g2]

theorem times_order (n d m e k : Int) (h : tE n d k = 0) (g : tE m e k = 0) : cmpV (tN n d k) (tD n d k) (tN m e k) (tD m e k) = cmpV n d m e := by
  obtain ⟨v, k0, _, v', x⟩ := times_ok n d k h
  obtain ⟨u, _, _, u', y⟩ := times_ok m e k g
  rw [cmpV_eq _ _ _ _ v' u', cmpV_eq _ _ _ _ v u]
  have p1 := (valid_parts v).2.2.1
  have p2 := (valid_parts u).2.2.1
  have p3 := (valid_parts v').2.2.1
  have p4 := (valid_parts u').2.2.1
  generalize tN n d k = a at *
  generalize tD n d k = b at *
  generalize tN m e k = a' at *
  generalize tD m e k = b' at *
  have q1 : 0 < d * e := Int.mul_pos (by omega) (by omega)
  have q2 : 0 < k * b * b' := Int.mul_pos (Int.mul_pos (by omega) (by omega)) (by omega)
  rw [← cmpI_mul (a * b') (a' * b) (d * e) q1, ← cmpI_mul (n * e) (m * d) (k * b * b') q2]
  congr 1
  · calc d * e * (a * b') = (a * d) * (e * b') := by rw [Int.mul_comm d e, Int.mul_assoc, Int.mul_left_comm d a b', ← Int.mul_assoc a d b', Int.mul_left_comm e (a * d) b']
      _ = (n * k * b) * (e * b') := by rw [x]
      _ = k * b * b' * (n * e) := by
        rw [Int.mul_comm e b', ← Int.mul_assoc, Int.mul_assoc n k b, Int.mul_assoc n (k * b) b', Int.mul_comm n (k * b * b'), Int.mul_assoc]
  · calc d * e * (a' * b) = (a' * e) * (d * b) := by rw [Int.mul_assoc, Int.mul_left_comm e a' b, ← Int.mul_assoc a' e b, Int.mul_left_comm d (a' * e) b]
      _ = (m * k * b') * (d * b) := by rw [y]
      _ = k * b * b' * (m * d) := by
        rw [Int.mul_comm d b, ← Int.mul_assoc, Int.mul_assoc m k b', Int.mul_assoc m (k * b') b, Int.mul_comm m (k * b' * b), Int.mul_assoc, Int.mul_right_comm k b' b]
/-- Within, by products. -/
theorem within_eq (n d lo hi : Int) (h : validB n d = true) : withinB n d lo hi = (decide (lo * d ≤ n) && decide (n ≤ hi * d)) := by
  have hd := (valid_parts h).2.2.1
  have h1 : lo ≤ n / d ↔ lo * d ≤ n := Int.le_ediv_iff_mul_le (by omega)
  have h2 := Int.emod_nonneg n (show d ≠ 0 by omega)
  have h3 := Int.emod_lt_of_pos n (show 0 < d by omega)
  have h4 := Int.mul_ediv_add_emod n d
  have h5 : n / d < hi ↔ n < hi * d := Int.ediv_lt_iff_lt_mul (by omega)
  have h6 : (n / d = hi ∧ n % d = 0) ↔ n = hi * d := by
    constructor
    · rintro ⟨a, b⟩; rw [a, b, Int.mul_comm] at h4; omega
    · rintro rfl; exact ⟨Int.mul_ediv_cancel _ (by omega), Int.mul_emod_left _ _⟩
  rw [Bool.eq_iff_iff]
  simp only [withinB, h, Bool.true_and, Bool.and_eq_true, Bool.or_eq_true, decide_eq_true_eq]
  rw [h1, h5, h6]
  omega
theorem within_compare (n d lo hi : Int) (h : validB n d = true) (l0 : 0 ≤ lo) (l1 : lo ≤ 4000000000) (g0 : 0 ≤ hi) (g1 : hi ≤ 4000000000) :
    withinB n d lo hi = (decide (0 ≤ cmpV n d lo 1) && decide (cmpV n d hi 1 ≤ 0)) := by
  have v1 : validB lo 1 = true := by simp [validB]; omega
  have v2 : validB hi 1 = true := by simp [validB]; omega
  rw [within_eq n d lo hi h, cmpV_eq _ _ _ _ h v1, cmpV_eq _ _ _ _ h v2]
  simp only [cmpI_ge, cmpI_le, Int.mul_one]
end Go.Proofs.YtenehghpmnajpaaGreatDoor

/-! Factors in plain numbers: dividing undoes multiplying, factors in any order. No program in sight. No conditions. -/
set_option linter.unusedVariables false
set_option linter.unusedSimpArgs false
namespace Go.Proofs.YtenehghpmnajpaaGreatDoor

theorem cross_unique (n d m e : Int) (a3 : 1 ≤ d) (b3 : 1 ≤ e) (a5 : Int.gcd n d = 1) (b5 : Int.gcd m e = 1) (hx : n * e = m * d) : n = m ∧ d = e := by
  have h1 : d ∣ e := by
    have : d ∣ n * e := hx ▸ Int.dvd_mul_left m d
    have := Int.dvd_gcd_mul_iff_dvd_mul.2 this
    rw [Int.gcd_comm, a5] at this; simpa using this
  have h2 : e ∣ d := by
    have : e ∣ m * d := hx ▸ Int.dvd_mul_left n e
    have := Int.dvd_gcd_mul_iff_dvd_mul.2 this
    rw [Int.gcd_comm, b5] at this; simpa using this
  have h3 : d = e := Int.dvd_antisymm (by omega) (by omega) h1 h2
  subst h3
  exact ⟨Int.eq_of_mul_eq_mul_right (by omega) hx, rfl⟩
theorem gcd_one_dvd {n d d' : Int} (h : Int.gcd n d = 1) (hd : d' ∣ d) : Int.gcd n d' = 1 :=
  Nat.Coprime.coprime_dvd_right (Int.natAbs_dvd_natAbs.2 hd) h
theorem gcd_parts (a b : Int) (h : 1 ≤ (Int.gcd a b : Int)) : Int.gcd (a / Int.gcd a b) (b / Int.gcd a b) = 1 := by
  rw [Int.gcd_ediv (Int.gcd_dvd_left a b) (Int.gcd_dvd_right a b)]
  have : ((Int.gcd a b : Int)).natAbs = Int.gcd a b := by omega
  rw [this]; exact Nat.div_self (by omega)
theorem new_valid (p q : Int) (h : validB p q = true) : newE p q = 0 ∧ newN p q = p ∧ newD p q = q := by
  obtain ⟨a1, a2, a3, a4, a5⟩ := valid_parts h
  have ok := okNew_of p q a1 a2 a3 a4
  refine ⟨(new_ok p q ok).2.2, ?_, ?_⟩
  · rw [newN, ok, if_pos rfl, a5]; simp
  · rw [newD, ok, if_pos rfl, a5]; simp
theorem times_of (n d k p q : Int) (hv : validB n d = true) (k0 : 1 ≤ k) (k1 : k ≤ 64) (hp : validB p q = true) (hx : p * d = n * k * q) : tE n d k = 0 ∧ tN n d k = p ∧ tD n d k = q := by
  obtain ⟨a1, a2, a3, a4, a5⟩ := valid_parts hv
  obtain ⟨b1, b2, b3, b4, b5⟩ := valid_parts hp
  have hc := gcd_bounds k d a3
  have g1 := div_mul_self d _ (Int.gcd_dvd_right k d)
  have g2 := div_mul_self k _ (Int.gcd_dvd_left k d)
  have g3 := gcd_parts k d hc.1
  have g4 := div_gcd_left k d k0
  have hf : okFac n d k = true := by simp [okFac, hv, k0, k1]
  have g5 : 1 ≤ d / (Int.gcd k d : Int) := (Int.le_ediv_iff_mul_le (by omega)).2 (by omega)
  have g6 : Int.gcd n (d / (Int.gcd k d : Int)) = 1 := gcd_one_dvd a5 ⟨_, g1.symm⟩
  have key : p = n * (k / (Int.gcd k d : Int)) ∧ q = d / (Int.gcd k d : Int) := by
    generalize d / (Int.gcd k d : Int) = d' at *
    generalize k / (Int.gcd k d : Int) = k' at *
    generalize (Int.gcd k d : Int) = c at *
    have hx' : p * d' = n * k' * q := by
      refine Int.eq_of_mul_eq_mul_right (a := c) (by omega) ?_
      calc p * d' * c = p * d := by rw [Int.mul_assoc, g1]
        _ = n * k * q := hx
        _ = n * (k' * c) * q := by rw [g2]
        _ = n * k' * q * c := by rw [← Int.mul_assoc, Int.mul_right_comm]
    have co : Int.gcd (n * k') d' = 1 := by rw [Int.gcd_mul_right_left_of_gcd_eq_one g6]; exact g3
    exact cross_unique p q (n * k') d' b3 g5 b5 co hx'
  have hb : ¬ tmBig n d k := by
    unfold tmBig
    have : n ≤ 144115188075855872 / (k / (Int.gcd k d : Int)) := (Int.le_ediv_iff_mul_le (by omega)).2 (by rw [← key.1]; omega)
    omega
  have nv := new_valid p q hp
  simp only [tE, tN, tD, if_pos hf, tmN, tmD, if_neg hb, ← key.1, ← key.2]
  exact nv
theorem over_of (n d k p q : Int) (hv : validB n d = true) (k0 : 1 ≤ k) (k1 : k ≤ 64) (hp : validB p q = true) (hx : p * k * d = n * q) : oE n d k = 0 ∧ oN n d k = p ∧ oD n d k = q := by
  obtain ⟨a1, a2, a3, a4, a5⟩ := valid_parts hv
  obtain ⟨b1, b2, b3, b4, b5⟩ := valid_parts hp
  have hc := gcd_bounds n k k0
  have g1 := div_mul_self k _ (Int.gcd_dvd_right n k)
  have g2 := div_mul_self n _ (Int.gcd_dvd_left n k)
  have g3 := gcd_parts n k hc.1
  have hf : okFac n d k = true := by simp [okFac, hv, k0, k1]
  have g5 : 1 ≤ k / (Int.gcd n k : Int) := (Int.le_ediv_iff_mul_le (by omega)).2 (by omega)
  have g6 : Int.gcd d (n / (Int.gcd n k : Int)) = 1 := gcd_one_dvd (by rw [Int.gcd_comm]; exact a5) ⟨_, g2.symm⟩
  have key : p = n / (Int.gcd n k : Int) ∧ q = d * (k / (Int.gcd n k : Int)) := by
    generalize n / (Int.gcd n k : Int) = n' at *
    generalize k / (Int.gcd n k : Int) = k' at *
    generalize (Int.gcd n k : Int) = c at *
    have hx' : p * (d * k') = n' * q := by
      refine Int.eq_of_mul_eq_mul_right (a := c) (by omega) ?_
      calc p * (d * k') * c = p * (k' * c) * d := by ac_rfl
        _ = p * k * d := by rw [g1]
        _ = n * q := hx
        _ = n' * c * q := by rw [g2]
        _ = n' * q * c := by rw [Int.mul_right_comm]
    have co : Int.gcd n' (d * k') = 1 := by rw [Int.gcd_comm, Int.gcd_mul_right_left_of_gcd_eq_one g6, Int.gcd_comm]; exact g3
    exact cross_unique p q n' (d * k') b3 (Int.mul_pos (by omega) (by omega)) b5 co hx'
  have nv := new_valid p q hp
  simp only [oE, oN, oD, if_pos hf, ovN, ovD, ← key.1, ← key.2]
  exact nv
theorem over_ok (n d k : Int) (h : oE n d k = 0) : validB n d = true ∧ 1 ≤ k ∧ k ≤ 64 ∧ validB (oN n d k) (oD n d k) = true ∧ oN n d k * k * d = n * oD n d k := by
  have hf : okFac n d k = true := by
    unfold oE at h
    by_cases q : okFac n d k = true
    · exact q
    · rw [if_neg q] at h; split at h <;> omega
  have hf' := hf
  simp only [okFac, Bool.and_eq_true, decide_eq_true_eq] at hf'
  obtain ⟨⟨hv, hk0⟩, hk1⟩ := hf'
  obtain ⟨a1, a2, a3, a4, a5⟩ := valid_parts hv
  rw [oE, if_pos hf] at h
  have ho := newE_zero _ _ h
  have := new_ok _ _ ho
  refine ⟨hv, hk0, hk1, ?_, ?_⟩
  · simp only [oN, oD, if_pos hf]; exact this.1
  · simp only [oN, oD, if_pos hf]
    have h2 := this.2.1
    simp only [ovN, ovD] at h2 ⊢
    have g1 := div_mul_self k _ (Int.gcd_dvd_right n k)
    have g2 := div_mul_self n _ (Int.gcd_dvd_left n k)
    generalize n / (Int.gcd n k : Int) = n' at *
    generalize k / (Int.gcd n k : Int) = k' at *
    generalize newN n' (d * k') = x at *
    generalize newD n' (d * k') = y at *
    generalize (Int.gcd n k : Int) = c at *
    calc x * k * d = x * (k' * c) * d := by rw [g1]
      _ = x * (d * k') * c := by rw [Int.mul_assoc x (d * k'), Int.mul_assoc d, Int.mul_comm d, Int.mul_assoc]
      _ = n' * y * c := by rw [h2]
      _ = n * y := by rw [Int.mul_right_comm, g2]
/-- Dividing undoes multiplying. -/
theorem times_over (n d k : Int) (h : tE n d k = 0) : oE (tN n d k) (tD n d k) k = 0 ∧ oN (tN n d k) (tD n d k) k = n ∧ oD (tN n d k) (tD n d k) k = d := by
  obtain ⟨v, k0, k1, v', x⟩ := times_ok n d k h
  exact over_of _ _ k n d v' k0 k1 v x.symm
theorem over_times (n d k : Int) (h : oE n d k = 0) : tE (oN n d k) (oD n d k) k = 0 ∧ tN (oN n d k) (oD n d k) k = n ∧ tD (oN n d k) (oD n d k) k = d := by
  obtain ⟨v, k0, k1, v', x⟩ := over_ok n d k h
  exact times_of _ _ k n d v' k0 k1 v x.symm
/-- Factors in any order. -/
theorem times_times (n d i k : Int) (h : tE n d i = 0) (g : tE (tN n d i) (tD n d i) k = 0) :
    tE n d k = 0 ∧ tE (tN n d k) (tD n d k) i = 0 ∧ tN (tN n d k) (tD n d k) i = tN (tN n d i) (tD n d i) k ∧ tD (tN n d k) (tD n d k) i = tD (tN n d i) (tD n d i) k := by
  obtain ⟨v, i0, i1, v', x⟩ := times_ok n d i h
  obtain ⟨_, k0, k1, u, y⟩ := times_ok _ _ k g
  generalize tN (tN n d i) (tD n d i) k = U at *
  generalize tD (tN n d i) (tD n d i) k = V at *
  generalize tN n d i = a at *
  generalize tD n d i = b at *
  obtain ⟨a1, a2, a3, a4, a5⟩ := valid_parts v
  obtain ⟨b1, b2, b3, b4, b5⟩ := valid_parts v'
  obtain ⟨c1, c2, c3, c4, c5⟩ := valid_parts u
  -- U / V = n * i * k / d
  have z : U * d = n * i * k * V := by
    refine Int.eq_of_mul_eq_mul_right (a := b) (by omega) ?_
    calc U * d * b = U * b * d := Int.mul_right_comm ..
      _ = a * k * V * d := by rw [y]
      _ = a * d * k * V := by rw [Int.mul_right_comm (a * k), Int.mul_right_comm a]
      _ = n * i * b * k * V := by rw [x]
      _ = n * i * k * V * b := by rw [Int.mul_right_comm (n * i), Int.mul_right_comm (n * i * k)]
  have hc := gcd_bounds k d a3
  have g1 := div_mul_self d _ (Int.gcd_dvd_right k d)
  have g2 := div_mul_self k _ (Int.gcd_dvd_left k d)
  have g3 := gcd_parts k d hc.1
  have g4 := div_gcd_left k d k0
  have g5 : 1 ≤ d / (Int.gcd k d : Int) := (Int.le_ediv_iff_mul_le (by omega)).2 (by omega)
  have g6 : Int.gcd n (d / (Int.gcd k d : Int)) = 1 := gcd_one_dvd a5 ⟨_, g1.symm⟩
  have g7 := ediv_bounds d (Int.gcd k d) (by omega) hc.1
  generalize d / (Int.gcd k d : Int) = d' at *
  generalize k / (Int.gcd k d : Int) = k' at *
  generalize (Int.gcd k d : Int) = c at *
  have co : Int.gcd (n * k') d' = 1 := by rw [Int.gcd_mul_right_left_of_gcd_eq_one g6]; exact g3
  have z' : U * d' = n * k' * (i * V) := by
    refine Int.eq_of_mul_eq_mul_right (a := c) (by omega) ?_
    calc U * d' * c = U * d := by rw [Int.mul_assoc, g1]
      _ = n * i * k * V := z
      _ = n * i * (k' * c) * V := by rw [g2]
      _ = n * k' * (i * V) * c := by
        rw [Int.mul_assoc n i, Int.mul_left_comm i k' c, ← Int.mul_assoc n k', Int.mul_assoc (n * k'), Int.mul_assoc (n * k'), Int.mul_assoc i c, Int.mul_comm c V, ← Int.mul_assoc i V]
  have p0 : 0 ≤ n * k' := Int.mul_nonneg a1 (by omega)
  have dv : (n * k') ∣ U := by
    have : (n * k') ∣ d' * U := by rw [Int.mul_comm d', z']; exact Int.dvd_mul_right _ _
    have := Int.dvd_gcd_mul_iff_dvd_mul.2 this
    rw [co] at this
    simpa using this
  have le : n * k' ≤ 144115188075855872 := by
    rcases Int.lt_or_le 0 U with hU | hU
    · have := Int.le_of_dvd hU dv; omega
    · have hU0 : U = 0 := by omega
      rw [hU0, Int.zero_mul] at z'
      have iv : 0 < i * V := Int.mul_pos (by omega) (by omega)
      rcases Int.mul_eq_zero.1 z'.symm with q | q
      · omega
      · omega
  have V2 : validB (n * k') d' = true := by
    simp only [validB, Bool.and_eq_true, decide_eq_true_eq, co]
    simp
    omega
  have T := times_of n d k (n * k') d' v k0 k1 V2 (by rw [← g1, ← g2]; ac_rfl)
  rw [T.2.1, T.2.2]
  have S := times_of (n * k') d' i U V V2 i0 i1 u (by rw [z']; ac_rfl)
  exact ⟨T.1, S.1, S.2.1, S.2.2⟩
/-- The bounds of results. -/
theorem new_wide (n d : Int) : (0 ≤ newN n d ∧ newN n d ≤ 144115188075855872) ∧ (0 ≤ newD n d ∧ newD n d ≤ 16777216) ∧ (0 ≤ newE n d ∧ newE n d ≤ 2) := by
  by_cases h : okNew n d = true
  · obtain ⟨v1, v2, v3, v4, _⟩ := valid_parts (new_ok n d h).1
    rw [(new_ok n d h).2.2]
    omega
  · simp [newN, newD, newE, h]
theorem t_wide (n d k : Int) : (0 ≤ tN n d k ∧ tN n d k ≤ 144115188075855872) ∧ (0 ≤ tD n d k ∧ tD n d k ≤ 16777216) := by
  unfold tN tD
  have := new_wide (tmN n d k) (tmD n d k)
  split <;> omega
theorem o_wide (n d k : Int) : (0 ≤ oN n d k ∧ oN n d k ≤ 144115188075855872) ∧ (0 ≤ oD n d k ∧ oD n d k ≤ 16777216) := by
  unfold oN oD
  have := new_wide (ovN n k) (ovD n d k)
  split <;> omega
end Go.Proofs.YtenehghpmnajpaaGreatDoor

/-! The reference's Floor, Within, Times, Over, Compare: they return what the program's functions return. -/
set_option linter.unusedVariables false
set_option linter.unusedSimpArgs false
namespace Go.Proofs.YtenehghpmnajpaaGreatDoor
open Go.RowKit
def floorI (n d : Int) : Int := if validB n d = true then n / d else 0

theorem refFloor_any (n d : Int) (w : World) (hn0 : -9223372036854775808 ≤ n) (hn1 : n ≤ 9223372036854775807) (hd0 : -9223372036854775808 ≤ d) (hd1 : d ≤ 9223372036854775807) :
    Calls Tryz.prog 52 #[.agg #[.int .i64 n, .int .i64 d]] w (Grows w (.int .i64 (floorI n d))) := by
  by_cases hv : validB n d = true
  · obtain ⟨v1, v2, v3, v4, v5⟩ := valid_parts hv
    clear v5
    have a1 := ediv_bounds n d v1 v3
    go_enter Tryz.func52, Tryz.ntmps52
    go_wp2_with (go_at_call 107; refine (ref_valid_any _ _ _ (by omega) (by omega) (by omega) (by omega)).mono ?_; rintro e w' ⟨rfl, O1, D1, rfl⟩)
    go_ret
    exact ⟨ret_int (by rw [floorI, if_pos hv]), by repeat (first | exact Gr.refl _ | refine Gr.xt _ _ ?_ | refine Gr.alloc _ ?_ | refine Gr.drewN _ ?_)⟩
  · go_enter Tryz.func52, Tryz.ntmps52
    go_wp2_with (go_at_call 107; refine (ref_valid_any _ _ _ (by omega) (by omega) (by omega) (by omega)).mono ?_; rintro e w' ⟨rfl, O1, D1, rfl⟩)
    go_ret
    exact ⟨ret_int (by rw [floorI, if_neg hv]), by repeat (first | exact Gr.refl _ | refine Gr.xt _ _ ?_ | refine Gr.alloc _ ?_ | refine Gr.drewN _ ?_)⟩

set_option maxHeartbeats 400000 in
theorem refWithin_any (n d lo hi : Int) (w : World) (hn0 : -9223372036854775808 ≤ n) (hn1 : n ≤ 9223372036854775807) (hd0 : -9223372036854775808 ≤ d) (hd1 : d ≤ 9223372036854775807) :
    Calls Tryz.prog 118 #[.agg #[.int .i64 n, .int .i64 d], .int .i64 lo, .int .i64 hi] w (Grows w (.bool (withinB n d lo hi))) := by
  by_cases hv : validB n d = true
  · obtain ⟨v1, v2, v3, v4, v5⟩ := valid_parts hv
    clear v5
    go_enter Tryz.func118, Tryz.ntmps118
    go_wp2_with (go_at_call 107; refine (ref_valid_any _ _ _ (by omega) (by omega) (by omega) (by omega)).mono ?_; rintro e w' ⟨rfl, O1, D1, rfl⟩)
    all_goals go_ret
    all_goals refine ⟨ret_bool ?_, by repeat (first | exact Gr.refl _ | refine Gr.xt _ _ ?_ | refine Gr.alloc _ ?_ | refine Gr.drewN _ ?_)⟩
    all_goals (rw [Bool.eq_iff_iff]; simp [withinB, hv]; try omega)
  · go_enter Tryz.func118, Tryz.ntmps118
    go_wp2_with (go_at_call 107; refine (ref_valid_any _ _ _ (by omega) (by omega) (by omega) (by omega)).mono ?_; rintro e w' ⟨rfl, O1, D1, rfl⟩)
    go_ret
    exact ⟨ret_bool (by simp [withinB, hv]), by repeat (first | exact Gr.refl _ | refine Gr.xt _ _ ?_ | refine Gr.alloc _ ?_ | refine Gr.drewN _ ?_)⟩

theorem new_scale (a b c : Int) (ha : 0 ≤ a) (hb : 1 ≤ b) (hc : 1 ≤ c) : newE (a * c) (b * c) = newE a b ∧ newN (a * c) (b * c) = newN a b ∧ newD (a * c) (b * c) = newD a b := by
  have hg : (Int.gcd (a * c) (b * c) : Int) = Int.gcd a b * c := by
    rw [Int.gcd_mul_right]
    have : ((c.natAbs : Nat) : Int) = c := by omega
    rw [Int.natCast_mul, this]
  have hg0 := gcd_bounds a b hb
  have e1 : a * c / (Int.gcd a b * c) = a / Int.gcd a b := Int.mul_ediv_mul_of_pos_left a (Int.gcd a b) (by omega)
  have e2 : b * c / (Int.gcd a b * c) = b / Int.gcd a b := Int.mul_ediv_mul_of_pos_left b (Int.gcd a b) (by omega)
  have a0 : 0 ≤ a * c := Int.mul_nonneg ha (by omega)
  have b0 : 1 ≤ b * c := Int.mul_pos (by omega) (by omega)
  have ok : okNew (a * c) (b * c) = okNew a b := by
    rw [Bool.eq_iff_iff, okNew_iff _ _ a0 b0, okNew_iff a b ha hb, hg, e1, e2]
  simp [newE, newN, newD, ok, hg, e1, e2]
theorem over_new (n d k : Int) (h0 : 0 ≤ n) (hd : 1 ≤ d) (hk : 1 ≤ k) : newE n (d * k) = newE (ovN n k) (ovD n d k) ∧ newN n (d * k) = newN (ovN n k) (ovD n d k) ∧ newD n (d * k) = newD (ovN n k) (ovD n d k) := by
  have hc := gcd_bounds n k hk
  have g1 := div_mul_self k _ (Int.gcd_dvd_right n k)
  have g2 := div_mul_self n _ (Int.gcd_dvd_left n k)
  have g5 : 1 ≤ k / (Int.gcd n k : Int) := (Int.le_ediv_iff_mul_le (by omega)).2 (by omega)
  have s := new_scale (ovN n k) (ovD n d k) (Int.gcd n k) (ediv_bounds n _ h0 hc.1).1 (Int.mul_pos (by omega) (by omega)) hc.1
  have e1 : ovN n k * (Int.gcd n k : Int) = n := g2
  have e2 : ovD n d k * (Int.gcd n k : Int) = d * k := by unfold ovD; rw [Int.mul_assoc, g1]
  rw [e1, e2] at s
  exact s
theorem refFactor_any (k : Int) (w : World) : Calls Tryz.prog 131 #[.int .i64 k] w (Grows w (.bool (decide (1 ≤ k) && decide (k ≤ 64)))) := by
  go_enter Tryz.func131, Tryz.ntmps131
  go_wp2_with fail
  all_goals go_ret
  all_goals refine ⟨ret_bool ?_, Gr.refl _⟩
  all_goals (rw [Bool.eq_iff_iff]; simp; try omega)
set_option maxHeartbeats 800000 in
theorem refOver_any (n d k : Int) (w : World) (hn0 : -9223372036854775808 ≤ n) (hn1 : n ≤ 9223372036854775807) (hd0 : -9223372036854775808 ≤ d) (hd1 : d ≤ 9223372036854775807) :
    Calls Tryz.prog 105 #[.agg #[.int .i64 n, .int .i64 d], .int .i64 k] w (Grows w (.tuple #[.agg #[.int .i64 (oN n d k), .int .i64 (oD n d k)], .int .i64 (oE n d k)])) := by
  by_cases hv : validB n d = true
  · by_cases hk : 1 ≤ k ∧ k ≤ 64
    · have hk0 := hk.1
      have hk1 := hk.2
      have e : okFac n d k = true := by simp [okFac, hv, hk0, hk1]
      have fk : (decide (1 ≤ k) && decide (k ≤ 64)) = true := by simp [hk0, hk1]
      simp only [oN, oD, oE, if_pos e]
      obtain ⟨v1, v2, v3, v4, -⟩ := valid_parts hv
      obtain ⟨o1, o2, o3⟩ := over_new n d k v1 v3 hk0
      rw [← o1, ← o2, ← o3]
      have m0 : 1 ≤ d * k := Int.mul_pos (by omega) (by omega)
      have m1 : d * k ≤ 16777216 * 64 := Int.mul_le_mul v4 hk1 (by omega) (by omega)
      clear e hk o1 o2 o3
      go_enter Tryz.func105, Tryz.ntmps105
      go_wp2_with (first
        | (go_at_call 107; refine (ref_valid_any _ _ _ (by omega) (by omega) (by omega) (by omega)).mono ?_; rintro e w' ⟨rfl, O1, d1, rfl⟩)
        | (go_at_call 131; refine (refFactor_any _ _).mono ?_; rw [fk]; rintro e w' ⟨rfl, O2, d2, rfl⟩)
        | (go_at_call 132; refine (ref_new_any _ _ _ (by omega) (by omega) (by omega) (by omega)).mono ?_; rintro e w' ⟨rfl, O3, d3, rfl⟩))
      exact bodyPost_ret (v := .tuple #[.agg #[.int .i64 (newN n (d * k)), .int .i64 (newD n (d * k))], .int .i64 (newE n (d * k))]) (by simp [results, Tryz.results105, go_sem]) rfl
        ⟨rfl, by repeat (first | exact Gr.refl _ | refine Gr.xt _ _ ?_ | refine Gr.alloc _ ?_ | refine Gr.drewN _ ?_)⟩
    · have e : okFac n d k = false := by
        have : decide (1 ≤ k) = false ∨ decide (k ≤ 64) = false := by simp; omega
        rcases this with h | h <;> simp [okFac, h]
      have fk : (decide (1 ≤ k) && decide (k ≤ 64)) = false := by
        have : decide (1 ≤ k) = false ∨ decide (k ≤ 64) = false := by simp; omega
        rcases this with h | h <;> simp [h]
      simp only [oN, oD, oE, e, hv, Bool.false_eq_true, if_false, if_true]
      clear e
      go_enter Tryz.func105, Tryz.ntmps105
      go_wp2_with (first
        | (go_at_call 107; refine (ref_valid_any _ _ _ (by omega) (by omega) (by omega) (by omega)).mono ?_; rintro e w' ⟨rfl, O1, d1, rfl⟩)
        | (go_at_call 131; refine (refFactor_any _ _).mono ?_; rw [fk]; rintro e w' ⟨rfl, O2, d2, rfl⟩))
      exact bodyPost_ret (v := .tuple #[.agg #[.int .i64 0, .int .i64 0], .int .i64 2]) (by simp [results, Tryz.results105, go_sem]) rfl
        ⟨rfl, by repeat (first | exact Gr.refl _ | refine Gr.xt _ _ ?_ | refine Gr.alloc _ ?_ | refine Gr.drewN _ ?_)⟩
  · have e : okFac n d k = false := by simp [okFac, hv]
    simp only [oN, oD, oE, e, hv, Bool.false_eq_true, if_false]
    clear e
    go_enter Tryz.func105, Tryz.ntmps105
    go_wp2_with (go_at_call 107; refine (ref_valid_any _ _ _ (by omega) (by omega) (by omega) (by omega)).mono ?_; rintro e w' ⟨rfl, O1, d1, rfl⟩)
    exact bodyPost_ret (v := .tuple #[.agg #[.int .i64 0, .int .i64 0], .int .i64 1]) (by simp [results, Tryz.results105, go_sem]) rfl
      ⟨rfl, by repeat (first | exact Gr.refl _ | refine Gr.xt _ _ ?_ | refine Gr.alloc _ ?_ | refine Gr.drewN _ ?_)⟩
end Go.Proofs.YtenehghpmnajpaaGreatDoor

/-! The reference's Times. -/
set_option linter.unusedVariables false
set_option linter.unusedSimpArgs false
namespace Go.Proofs.YtenehghpmnajpaaGreatDoor
open Go.RowKit

set_option maxHeartbeats 800000 in
theorem refTimes_core (n d k c : Int) (w : World) (v1 : 0 ≤ n) (v2 : n ≤ 144115188075855872) (v3 : 1 ≤ d) (v4 : d ≤ 16777216) (hk0 : 1 ≤ k) (hk1 : k ≤ 64) (hv : validB n d = true) (hc : Hid ((Int.gcd k d : Int) = c)) (c0 : 1 ≤ c) (c1 : c ≤ k)
    (k0 : 1 ≤ k / c) (k1 : k / c ≤ k) (d0 : 1 ≤ d / c) (d1 : d / c ≤ d) (fk : (decide (1 ≤ k) && decide (k ≤ 64)) = true) (q0 : 0 ≤ 144115188075855872 / (k / c)) :
    Calls Tryz.prog 106 #[.agg #[.int .i64 n, .int .i64 d], .int .i64 k] w (Grows w (if 144115188075855872 / (k / c) < n then .tuple #[.agg #[.int .i64 0, .int .i64 0], .int .i64 2] else .tuple #[.agg #[.int .i64 (newN (n * (k / c)) (d / c)), .int .i64 (newD (n * (k / c)) (d / c))], .int .i64 (newE (n * (k / c)) (d / c))])) := by
  by_cases hb : 144115188075855872 / (k / c) < n
  · rw [if_pos hb]
    go_enter Tryz.func106, Tryz.ntmps106
    go_wp2_with (first
      | (go_at_call 107; refine (ref_valid_any _ _ _ (by omega) (by omega) (by omega) (by omega)).mono ?_; rintro e w' ⟨rfl, O1, d1, rfl⟩)
      | (go_at_call 131; refine (refFactor_any _ _).mono ?_; rw [fk]; rintro e w' ⟨rfl, O2, d2, rfl⟩)
      | (go_at_call 133; refine (ref_common_any _ _ _ (by omega) (by omega) (by omega) (by omega)).mono ?_; rw [hc.out]; rintro e w' ⟨rfl, O3, d3, rfl⟩))
    go_quiet (fail)
    go_wp2_with fail
    exact bodyPost_ret (v := .tuple #[.agg #[.int .i64 0, .int .i64 0], .int .i64 2]) (by simp [results, Tryz.results106, go_sem]) rfl
      ⟨rfl, by repeat (first | with_reducible exact Gr.refl _ | with_reducible refine Gr.xt _ _ ?_ | with_reducible refine Gr.alloc _ ?_ | with_reducible refine Gr.drewN _ ?_ | with_reducible refine Gr.setCell (Nat.le_succ _) _ ?_)⟩
  · rw [if_neg hb]
    obtain ⟨m0, m1⟩ := div_ge _ _ n k0 v1 hb
    go_enter Tryz.func106, Tryz.ntmps106
    go_wp2_with (first
      | (go_at_call 107; refine (ref_valid_any _ _ _ (by omega) (by omega) (by omega) (by omega)).mono ?_; rintro e w' ⟨rfl, O1, d1, rfl⟩)
      | (go_at_call 131; refine (refFactor_any _ _).mono ?_; rw [fk]; rintro e w' ⟨rfl, O2, d2, rfl⟩)
      | (go_at_call 133; refine (ref_common_any _ _ _ (by omega) (by omega) (by omega) (by omega)).mono ?_; rw [hc.out]; rintro e w' ⟨rfl, O3, d3, rfl⟩))
    go_quiet (fail)
    go_wp2_with fail
    first
      | refine wp_region_grows_tailx 13 (by kernel_rfl) (by kernel_rfl) ?_
      | refine wp_region_grows_tail 13 (by kernel_rfl) (by kernel_rfl) ?_
    simp only [List.take_succ_cons, List.take_zero, List.drop_succ_cons, List.drop_zero]
    repeat (go_big_quiet_step (first | (go_at_call 132; exact calls_grows (ref_new_any _ _ _ (by omega) (by omega) (by omega) (by omega)))))
    refine wpQuiet_nil ?_
    rintro _ ⟨⟨O5, d5⟩, rfl⟩
    go_wp2_with fail
    exact bodyPost_ret (v := .tuple #[.agg #[.int .i64 (newN (n * (k / c)) (d / c)), .int .i64 (newD (n * (k / c)) (d / c))], .int .i64 (newE (n * (k / c)) (d / c))]) (by simp [results, Tryz.results106, go_sem]) rfl
      ⟨rfl, by repeat (first | with_reducible exact Gr.refl _ | with_reducible refine Gr.xt _ _ ?_ | with_reducible refine Gr.alloc _ ?_ | with_reducible refine Gr.drewN _ ?_ | with_reducible refine Gr.setCell (Nat.le_succ _) _ ?_)⟩
set_option maxHeartbeats 800000 in
theorem refTimes_any (n d k : Int) (w : World) (hn0 : -9223372036854775808 ≤ n) (hn1 : n ≤ 9223372036854775807) (hd0 : -9223372036854775808 ≤ d) (hd1 : d ≤ 9223372036854775807) :
    Calls Tryz.prog 106 #[.agg #[.int .i64 n, .int .i64 d], .int .i64 k] w (Grows w (.tuple #[.agg #[.int .i64 (tN n d k), .int .i64 (tD n d k)], .int .i64 (tE n d k)])) := by
  by_cases hv : validB n d = true
  · by_cases hk : 1 ≤ k ∧ k ≤ 64
    · have hk0 := hk.1
      have hk1 := hk.2
      have e : okFac n d k = true := by simp [okFac, hv, hk0, hk1]
      have fk : (decide (1 ≤ k) && decide (k ≤ 64)) = true := by simp [hk0, hk1]
      simp only [tN, tD, tE, if_pos e]
      obtain ⟨v1, v2, v3, v4, -⟩ := valid_parts hv
      have b1 := gcd_bounds_left k d hk0
      have b2 := div_gcd_left k d hk0
      have b4 := gcd_bounds k d v3
      have b3 : 1 ≤ d / (Int.gcd k d : Int) := (Int.le_ediv_iff_mul_le (by omega)).2 (by omega)
      have b5 := ediv_bounds d (Int.gcd k d) (by omega) b1.1
      have q0 : 0 ≤ 144115188075855872 / (k / (Int.gcd k d : Int)) := Int.ediv_nonneg (by omega) (by omega)
      refine (refTimes_core n d k _ w v1 v2 v3 v4 hk0 hk1 hv (Lib.hid rfl) b1.1 b1.2 b2.1 b2.2 b3 b5.2 fk q0).mono ?_
      rintro e w' ⟨rfl, hg⟩
      refine ⟨?_, hg⟩
      by_cases hb : tmBig n d k
      · have hb' := hb
        unfold tmBig at hb'
        rw [if_pos hb']
        simp only [tmN, tmD, if_pos hb]
        rfl
      · have hb' := hb
        unfold tmBig at hb'
        rw [if_neg hb']
        simp only [tmN, tmD, if_neg hb]
    · have e : okFac n d k = false := by
        have : decide (1 ≤ k) = false ∨ decide (k ≤ 64) = false := by simp; omega
        rcases this with h | h <;> simp [okFac, h]
      have fk : (decide (1 ≤ k) && decide (k ≤ 64)) = false := by
        have : decide (1 ≤ k) = false ∨ decide (k ≤ 64) = false := by simp; omega
        rcases this with h | h <;> simp [h]
      simp only [tN, tD, tE, e, hv, Bool.false_eq_true, if_false, if_true]
      clear e
      go_enter Tryz.func106, Tryz.ntmps106
      go_wp2_with (first
        | (go_at_call 107; refine (ref_valid_any _ _ _ (by omega) (by omega) (by omega) (by omega)).mono ?_; rintro e w' ⟨rfl, O1, d1, rfl⟩)
        | (go_at_call 131; refine (refFactor_any _ _).mono ?_; rw [fk]; rintro e w' ⟨rfl, O2, d2, rfl⟩))
      exact bodyPost_ret (v := .tuple #[.agg #[.int .i64 0, .int .i64 0], .int .i64 2]) (by simp [results, Tryz.results106, go_sem]) rfl
        ⟨rfl, by repeat (first | exact Gr.refl _ | refine Gr.xt _ _ ?_ | refine Gr.alloc _ ?_ | refine Gr.drewN _ ?_)⟩
  · have e : okFac n d k = false := by simp [okFac, hv]
    simp only [tN, tD, tE, e, hv, Bool.false_eq_true, if_false]
    clear e
    go_enter Tryz.func106, Tryz.ntmps106
    go_wp2_with (go_at_call 107; refine (ref_valid_any _ _ _ (by omega) (by omega) (by omega) (by omega)).mono ?_; rintro e w' ⟨rfl, O1, d1, rfl⟩)
    exact bodyPost_ret (v := .tuple #[.agg #[.int .i64 0, .int .i64 0], .int .i64 1]) (by simp [results, Tryz.results106, go_sem]) rfl
      ⟨rfl, by repeat (first | exact Gr.refl _ | refine Gr.xt _ _ ?_ | refine Gr.alloc _ ?_ | refine Gr.drewN _ ?_)⟩
end Go.Proofs.YtenehghpmnajpaaGreatDoor
