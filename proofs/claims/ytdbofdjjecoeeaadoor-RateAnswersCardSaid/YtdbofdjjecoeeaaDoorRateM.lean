/- Rates in plain numbers: lowest terms, the order of rates as that of products, factors, whole limits. No program in sight. No conditions. -/
import Derived.Test.YtdbofdjjecoeeaaDoorRateE
set_option linter.unusedVariables false
set_option linter.unusedSimpArgs false
namespace Go.Proofs.YtdbofdjjecoeeaaDoor

theorem div_mul_self (a g : Int) (h : g ∣ a) : a / g * g = a := Int.ediv_mul_cancel h

theorem okNew_iff (n d : Int) (hn : 0 ≤ n) (hd : 1 ≤ d) :
    okNew n d = true ↔ n / Int.gcd n d ≤ 144115188075855872 ∧ d / Int.gcd n d ≤ 16777216 := by
  have hg := gcd_bounds n d hd
  have h1 := ediv_bounds n (Int.gcd n d) hn hg.1
  have h2 : 1 ≤ d / (Int.gcd n d : Int) := (Int.le_ediv_iff_mul_le (by omega)).2 (by omega)
  have h3 : Int.gcd (n / Int.gcd n d) (d / Int.gcd n d) = 1 := by
    rw [Int.gcd_ediv (Int.gcd_dvd_left n d) (Int.gcd_dvd_right n d)]
    have : ((Int.gcd n d : Int)).natAbs = Int.gcd n d := by omega
    rw [this]; exact Nat.div_self (by omega)
  simp only [okNew, validB, h3, Bool.and_eq_true, decide_eq_true_eq]
  simp; omega
theorem okNew_of (n d : Int) (hn : 0 ≤ n) (hn1 : n ≤ 144115188075855872) (hd : 1 ≤ d) (hd1 : d ≤ 16777216) : okNew n d = true := by
  have hg := gcd_bounds n d hd
  have h1 := ediv_bounds n (Int.gcd n d) hn hg.1
  have h2 := ediv_bounds d (Int.gcd n d) (by omega) hg.1
  exact (okNew_iff n d hn hd).2 ⟨by omega, by omega⟩
/-- A quotient in lowest terms: valid, and of the same value. -/
theorem new_ok (n d : Int) (h : okNew n d = true) : validB (newN n d) (newD n d) = true ∧ newN n d * d = n * newD n d ∧ newE n d = 0 := by
  have h' := h
  simp only [okNew, Bool.and_eq_true, decide_eq_true_eq] at h'
  simp only [newN, newD, newE, h, if_true]
  refine ⟨h'.2, ?_, trivial⟩
  have h1 := div_mul_self n _ (Int.gcd_dvd_left n d)
  have h2 := div_mul_self d _ (Int.gcd_dvd_right n d)
  generalize n / (Int.gcd n d : Int) = a at *
  generalize d / (Int.gcd n d : Int) = b at *
  generalize (Int.gcd n d : Int) = g at *
  rw [← h1, ← h2, Int.mul_assoc, Int.mul_comm b g]
theorem newE_zero (n d : Int) (h : newE n d = 0) : okNew n d = true := by
  unfold newE at h
  split at h
  · assumption
  · omega
theorem new_one (n : Int) (h0 : 0 ≤ n) (h1 : n ≤ 144115188075855872) : newN n 1 = n ∧ newD n 1 = 1 ∧ newE n 1 = 0 := by
  have h := okNew_of n 1 h0 h1 (by omega) (by omega)
  simp [newN, newD, newE, h]

/-! The order -/
theorem cmp_parts (q s r t D : Int) (hr : 0 ≤ r) (hr1 : r < D) (ht : 0 ≤ t) (ht1 : t < D) : orI (cmpI q s) (cmpI r t) = cmpI (D * q + r) (D * s + t) := by
  have hD : 0 < D := by omega
  unfold orI cmpI
  rcases Int.lt_trichotomy q s with h | h | h
  · have : D * q + D ≤ D * s := by
      have := Int.mul_le_mul_of_nonneg_left (show q + 1 ≤ s by omega) (show 0 ≤ D by omega)
      rw [Int.mul_add, Int.mul_one] at this; omega
    rw [if_pos h, if_neg (by omega), if_pos (by omega)]
  · subst h
    simp only [Int.lt_irrefl, if_false, if_true]
    by_cases h1 : r < t
    · rw [if_pos h1, if_pos (by omega)]
    · rw [if_neg h1, if_neg (show ¬ D * q + r < D * q + t by omega)]
      by_cases h2 : t < r
      · rw [if_pos h2, if_pos (by omega)]
      · rw [if_neg h2, if_neg (by omega)]
  · have : D * s + D ≤ D * q := by
      have := Int.mul_le_mul_of_nonneg_left (show s + 1 ≤ q by omega) (show 0 ≤ D by omega)
      rw [Int.mul_add, Int.mul_one] at this; omega
    rw [if_neg (show ¬ q < s by omega), if_pos h, if_neg (by omega), if_neg (show ¬ D * q + r < D * s + t by omega), if_pos (by omega)]
theorem cmpR_eq (n d m e : Int) (hd : 1 ≤ d) (he : 1 ≤ e) : cmpR n d m e = cmpI (n * e) (m * d) := by
  unfold cmpR
  have h1 := Int.emod_nonneg n (show d ≠ 0 by omega)
  have h2 := Int.emod_lt_of_pos n (show 0 < d by omega)
  have h3 := Int.emod_nonneg m (show e ≠ 0 by omega)
  have h4 := Int.emod_lt_of_pos m (show 0 < e by omega)
  have a1 : n % d * e < d * e := Int.mul_lt_mul_of_pos_right h2 (by omega)
  have a2 : m % e * d < d * e := by rw [Int.mul_comm d e]; exact Int.mul_lt_mul_of_pos_right h4 (by omega)
  rw [cmp_parts (n / d) (m / e) (n % d * e) (m % e * d) (d * e) (Int.mul_nonneg h1 (by omega)) a1 (Int.mul_nonneg h3 (by omega)) a2]
  congr 1
  · have := Int.mul_ediv_add_emod n d
    conv => rhs; rw [← this]
    rw [Int.add_mul, Int.mul_right_comm]
  · have := Int.mul_ediv_add_emod m e
    conv => rhs; rw [← this]
    rw [Int.add_mul, Int.mul_comm d e, Int.mul_right_comm]
theorem cmpV_eq (n d m e : Int) (h : validB n d = true) (k : validB m e = true) : cmpV n d m e = cmpI (n * e) (m * d) := by
  rw [cmpV, if_pos ⟨h, k⟩, cmpR_eq _ _ _ _ (valid_parts h).2.2.1 (valid_parts k).2.2.1]
theorem cmpI_self (x : Int) : cmpI x x = 0 := by simp [cmpI]
theorem cmpI_neg (x y : Int) : cmpI x y = - cmpI y x := by unfold cmpI; split <;> split <;> (try split) <;> omega
theorem cmpI_le (x y : Int) : cmpI x y ≤ 0 ↔ x ≤ y := by unfold cmpI; split <;> (try split) <;> omega
theorem cmpI_ge (x y : Int) : 0 ≤ cmpI x y ↔ y ≤ x := by unfold cmpI; split <;> (try split) <;> omega
theorem cmpI_zero (x y : Int) : cmpI x y = 0 ↔ x = y := by unfold cmpI; split <;> (try split) <;> omega
theorem cmpI_wide (x y : Int) : -1 ≤ cmpI x y ∧ cmpI x y ≤ 1 := by unfold cmpI; split <;> (try split) <;> omega
theorem cmpV_wide (n d m e : Int) : -1 ≤ cmpV n d m e ∧ cmpV n d m e ≤ 1 := by
  unfold cmpV; split
  · unfold cmpR orI; split <;> exact cmpI_wide _ _
  · omega
theorem cmpI_mul (x y c : Int) (hc : 0 < c) : cmpI (c * x) (c * y) = cmpI x y := by
  unfold cmpI
  have h1 : c * x < c * y ↔ x < y := Int.mul_lt_mul_left hc
  have h2 : c * y < c * x ↔ y < x := Int.mul_lt_mul_left hc
  simp only [h1, h2]
theorem le_trans_rate (n d m e p f : Int) (hd : 1 ≤ d) (he : 1 ≤ e) (hf : 1 ≤ f) (h : n * e ≤ m * d) (k : m * f ≤ p * e) : n * f ≤ p * d := by
  have h1 : n * e * f ≤ m * d * f := Int.mul_le_mul_of_nonneg_right h (by omega)
  have h2 : m * f * d ≤ p * e * d := Int.mul_le_mul_of_nonneg_right k (by omega)
  have h3 : e * (n * f) ≤ e * (p * d) := by
    calc e * (n * f) = n * e * f := by rw [← Int.mul_assoc, Int.mul_comm e n]
      _ ≤ m * d * f := h1
      _ = m * f * d := Int.mul_right_comm m d f
      _ ≤ p * e * d := h2
      _ = e * (p * d) := by rw [Int.mul_comm p e, Int.mul_assoc]
  exact Int.le_of_mul_le_mul_left h3 (by omega)
theorem eq_of_cross (n d m e : Int) (h : validB n d = true) (k : validB m e = true) (hx : n * e = m * d) : n = m ∧ d = e := by
  obtain ⟨a1, _, a3, _, a5⟩ := valid_parts h
  obtain ⟨b1, _, b3, _, b5⟩ := valid_parts k
  have h1 : d ∣ e := by
    have : d ∣ n * e := hx ▸ Int.dvd_mul_left m d
    have := Int.dvd_gcd_mul_iff_dvd_mul.2 this
    rw [Int.gcd_comm, a5] at this; simpa using this
  have h2 : e ∣ d := by
    have : e ∣ m * d := hx ▸ Int.dvd_mul_left n e
    have := Int.dvd_gcd_mul_iff_dvd_mul.2 this
    rw [Int.gcd_comm, b5] at this; simpa using this
  have h3 : d = e := Int.dvd_antisymm (by omega) (by omega) h1 h2
  subst h3
  exact ⟨Int.eq_of_mul_eq_mul_right (by omega) hx, rfl⟩

/-! Factors -/
theorem times_ok (n d k : Int) (h : tE n d k = 0) : validB n d = true ∧ 1 ≤ k ∧ k ≤ 64 ∧ validB (tN n d k) (tD n d k) = true ∧ tN n d k * d = n * k * tD n d k := by
  have hf : okFac n d k = true := by
    unfold tE at h
    by_cases q : okFac n d k = true
    · exact q
    · rw [if_neg q] at h; split at h <;> omega
  have hf' := hf
  simp only [okFac, Bool.and_eq_true, decide_eq_true_eq] at hf'
  obtain ⟨⟨hv, hk0⟩, hk1⟩ := hf'
  obtain ⟨a1, a2, a3, a4, a5⟩ := valid_parts hv
  rw [tE, if_pos hf] at h
  have ho := newE_zero _ _ h
  have hb : ¬ tmBig n d k := by
    intro hb
    have : tmN n d k = -1 := by simp [tmN, hb]
    simp only [okNew, this, Bool.and_eq_true, decide_eq_true_eq] at ho
    omega
  have := new_ok _ _ ho
  refine ⟨hv, hk0, hk1, ?_, ?_⟩
  · simp only [tN, tD, if_pos hf]; exact this.1
  · simp only [tN, tD, if_pos hf]
    have h2 := this.2.1
    simp only [tmN, tmD, if_neg hb] at h2 ⊢
    have g1 := div_mul_self d _ (Int.gcd_dvd_right k d)
    have g2 := div_mul_self k _ (Int.gcd_dvd_left k d)
    generalize d / (Int.gcd k d : Int) = d' at *
    generalize k / (Int.gcd k d : Int) = k' at *
    generalize newN (n * k') d' = x at *
    generalize newD (n * k') d' = y at *
    generalize (Int.gcd k d : Int) = g at *
    calc x * d = x * d' * g := by rw [← g1, Int.mul_assoc]
      _ = n * k' * y * g := by rw [h2]
      _ = n * (k' * g) * y := by rw [Int.mul_right_comm, Int.mul_assoc n k' g]
      _ = n * k * y := by rw [g2]

theorem times_order (n d m e k : Int) (h : tE n d k = 0) (g : tE m e k = 0) : cmpV (tN n d k) (tD n d k) (tN m e k) (tD m e k) = cmpV n d m e := by
  obtain ⟨v, k0, _, v', x⟩ := times_ok n d k h
  obtain ⟨u, _, _, u', y⟩ := times_ok m e k g
  rw [cmpV_eq _ _ _ _ v' u', cmpV_eq _ _ _ _ v u]
  have p1 := (valid_parts v).2.2.1
  have p2 := (valid_parts u).2.2.1
  have p3 := (valid_parts v').2.2.1
  have p4 := (valid_parts u').2.2.1
  generalize tN n d k = a at *
  generalize tD n d k = b at *
  generalize tN m e k = a' at *
  generalize tD m e k = b' at *
  have q1 : 0 < d * e := Int.mul_pos (by omega) (by omega)
  have q2 : 0 < k * b * b' := Int.mul_pos (Int.mul_pos (by omega) (by omega)) (by omega)
  rw [← cmpI_mul (a * b') (a' * b) (d * e) q1, ← cmpI_mul (n * e) (m * d) (k * b * b') q2]
  congr 1
  · calc d * e * (a * b') = (a * d) * (e * b') := by rw [Int.mul_comm d e, Int.mul_assoc, Int.mul_left_comm d a b', ← Int.mul_assoc a d b', Int.mul_left_comm e (a * d) b']
      _ = (n * k * b) * (e * b') := by rw [x]
      _ = k * b * b' * (n * e) := by
        rw [Int.mul_comm e b', ← Int.mul_assoc, Int.mul_assoc n k b, Int.mul_assoc n (k * b) b', Int.mul_comm n (k * b * b'), Int.mul_assoc]
  · calc d * e * (a' * b) = (a' * e) * (d * b) := by rw [Int.mul_assoc, Int.mul_left_comm e a' b, ← Int.mul_assoc a' e b, Int.mul_left_comm d (a' * e) b]
      _ = (m * k * b') * (d * b) := by rw [y]
      _ = k * b * b' * (m * d) := by
        rw [Int.mul_comm d b, ← Int.mul_assoc, Int.mul_assoc m k b', Int.mul_assoc m (k * b') b, Int.mul_comm m (k * b' * b), Int.mul_assoc, Int.mul_right_comm k b' b]
/-- Within, by products. -/
theorem within_eq (n d lo hi : Int) (h : validB n d = true) : withinB n d lo hi = (decide (lo * d ≤ n) && decide (n ≤ hi * d)) := by
  have hd := (valid_parts h).2.2.1
  have h1 : lo ≤ n / d ↔ lo * d ≤ n := Int.le_ediv_iff_mul_le (by omega)
  have h2 := Int.emod_nonneg n (show d ≠ 0 by omega)
  have h3 := Int.emod_lt_of_pos n (show 0 < d by omega)
  have h4 := Int.mul_ediv_add_emod n d
  have h5 : n / d < hi ↔ n < hi * d := Int.ediv_lt_iff_lt_mul (by omega)
  have h6 : (n / d = hi ∧ n % d = 0) ↔ n = hi * d := by
    constructor
    · rintro ⟨a, b⟩; rw [a, b, Int.mul_comm] at h4; omega
    · rintro rfl; exact ⟨Int.mul_ediv_cancel _ (by omega), Int.mul_emod_left _ _⟩
  rw [Bool.eq_iff_iff]
  simp only [withinB, h, Bool.true_and, Bool.and_eq_true, Bool.or_eq_true, decide_eq_true_eq]
  rw [h1, h5, h6]
  omega
theorem within_compare (n d lo hi : Int) (h : validB n d = true) (l0 : 0 ≤ lo) (l1 : lo ≤ 4000000000) (g0 : 0 ≤ hi) (g1 : hi ≤ 4000000000) :
    withinB n d lo hi = (decide (0 ≤ cmpV n d lo 1) && decide (cmpV n d hi 1 ≤ 0)) := by
  have v1 : validB lo 1 = true := by simp [validB]; omega
  have v2 : validB hi 1 = true := by simp [validB]; omega
  rw [within_eq n d lo hi h, cmpV_eq _ _ _ _ h v1, cmpV_eq _ _ _ _ h v2]
  simp only [cmpI_ge, cmpI_le, Int.mul_one]
end Go.Proofs.YtdbofdjjecoeeaaDoor
