/- Factors in plain numbers: dividing undoes multiplying, factors in any order. No program in sight. No conditions. -/
import Derived.Test.YtdbofdjjecoeeaaDoorRateM
set_option linter.unusedVariables false
set_option linter.unusedSimpArgs false
namespace Go.Proofs.YtdbofdjjecoeeaaDoor

theorem cross_unique (n d m e : Int) (a3 : 1 ≤ d) (b3 : 1 ≤ e) (a5 : Int.gcd n d = 1) (b5 : Int.gcd m e = 1) (hx : n * e = m * d) : n = m ∧ d = e := by
  have h1 : d ∣ e := by
    have : d ∣ n * e := hx ▸ Int.dvd_mul_left m d
    have := Int.dvd_gcd_mul_iff_dvd_mul.2 this
    rw [Int.gcd_comm, a5] at this; simpa using this
  have h2 : e ∣ d := by
    have : e ∣ m * d := hx ▸ Int.dvd_mul_left n e
    have := Int.dvd_gcd_mul_iff_dvd_mul.2 this
    rw [Int.gcd_comm, b5] at this; simpa using this
  have h3 : d = e := Int.dvd_antisymm (by omega) (by omega) h1 h2
  subst h3
  exact ⟨Int.eq_of_mul_eq_mul_right (by omega) hx, rfl⟩
theorem gcd_one_dvd {n d d' : Int} (h : Int.gcd n d = 1) (hd : d' ∣ d) : Int.gcd n d' = 1 :=
  Nat.Coprime.coprime_dvd_right (Int.natAbs_dvd_natAbs.2 hd) h
theorem gcd_parts (a b : Int) (h : 1 ≤ (Int.gcd a b : Int)) : Int.gcd (a / Int.gcd a b) (b / Int.gcd a b) = 1 := by
  rw [Int.gcd_ediv (Int.gcd_dvd_left a b) (Int.gcd_dvd_right a b)]
  have : ((Int.gcd a b : Int)).natAbs = Int.gcd a b := by omega
  rw [this]; exact Nat.div_self (by omega)
theorem new_valid (p q : Int) (h : validB p q = true) : newE p q = 0 ∧ newN p q = p ∧ newD p q = q := by
  obtain ⟨a1, a2, a3, a4, a5⟩ := valid_parts h
  have ok := okNew_of p q a1 a2 a3 a4
  refine ⟨(new_ok p q ok).2.2, ?_, ?_⟩
  · rw [newN, ok, if_pos rfl, a5]; simp
  · rw [newD, ok, if_pos rfl, a5]; simp
theorem times_of (n d k p q : Int) (hv : validB n d = true) (k0 : 1 ≤ k) (k1 : k ≤ 64) (hp : validB p q = true) (hx : p * d = n * k * q) : tE n d k = 0 ∧ tN n d k = p ∧ tD n d k = q := by
  obtain ⟨a1, a2, a3, a4, a5⟩ := valid_parts hv
  obtain ⟨b1, b2, b3, b4, b5⟩ := valid_parts hp
  have hc := gcd_bounds k d a3
  have g1 := div_mul_self d _ (Int.gcd_dvd_right k d)
  have g2 := div_mul_self k _ (Int.gcd_dvd_left k d)
  have g3 := gcd_parts k d hc.1
  have g4 := div_gcd_left k d k0
  have hf : okFac n d k = true := by simp [okFac, hv, k0, k1]
  have g5 : 1 ≤ d / (Int.gcd k d : Int) := (Int.le_ediv_iff_mul_le (by omega)).2 (by omega)
  have g6 : Int.gcd n (d / (Int.gcd k d : Int)) = 1 := gcd_one_dvd a5 ⟨_, g1.symm⟩
  have key : p = n * (k / (Int.gcd k d : Int)) ∧ q = d / (Int.gcd k d : Int) := by
    generalize d / (Int.gcd k d : Int) = d' at *
    generalize k / (Int.gcd k d : Int) = k' at *
    generalize (Int.gcd k d : Int) = c at *
    have hx' : p * d' = n * k' * q := by
      refine Int.eq_of_mul_eq_mul_right (a := c) (by omega) ?_
      calc p * d' * c = p * d := by rw [Int.mul_assoc, g1]
        _ = n * k * q := hx
        _ = n * (k' * c) * q := by rw [g2]
        _ = n * k' * q * c := by rw [← Int.mul_assoc, Int.mul_right_comm]
    have co : Int.gcd (n * k') d' = 1 := by rw [Int.gcd_mul_right_left_of_gcd_eq_one g6]; exact g3
    exact cross_unique p q (n * k') d' b3 g5 b5 co hx'
  have hb : ¬ tmBig n d k := by
    unfold tmBig
    have : n ≤ 144115188075855872 / (k / (Int.gcd k d : Int)) := (Int.le_ediv_iff_mul_le (by omega)).2 (by rw [← key.1]; omega)
    omega
  have nv := new_valid p q hp
  simp only [tE, tN, tD, if_pos hf, tmN, tmD, if_neg hb, ← key.1, ← key.2]
  exact nv
theorem over_of (n d k p q : Int) (hv : validB n d = true) (k0 : 1 ≤ k) (k1 : k ≤ 64) (hp : validB p q = true) (hx : p * k * d = n * q) : oE n d k = 0 ∧ oN n d k = p ∧ oD n d k = q := by
  obtain ⟨a1, a2, a3, a4, a5⟩ := valid_parts hv
  obtain ⟨b1, b2, b3, b4, b5⟩ := valid_parts hp
  have hc := gcd_bounds n k k0
  have g1 := div_mul_self k _ (Int.gcd_dvd_right n k)
  have g2 := div_mul_self n _ (Int.gcd_dvd_left n k)
  have g3 := gcd_parts n k hc.1
  have hf : okFac n d k = true := by simp [okFac, hv, k0, k1]
  have g5 : 1 ≤ k / (Int.gcd n k : Int) := (Int.le_ediv_iff_mul_le (by omega)).2 (by omega)
  have g6 : Int.gcd d (n / (Int.gcd n k : Int)) = 1 := gcd_one_dvd (by rw [Int.gcd_comm]; exact a5) ⟨_, g2.symm⟩
  have key : p = n / (Int.gcd n k : Int) ∧ q = d * (k / (Int.gcd n k : Int)) := by
    generalize n / (Int.gcd n k : Int) = n' at *
    generalize k / (Int.gcd n k : Int) = k' at *
    generalize (Int.gcd n k : Int) = c at *
    have hx' : p * (d * k') = n' * q := by
      refine Int.eq_of_mul_eq_mul_right (a := c) (by omega) ?_
      calc p * (d * k') * c = p * (k' * c) * d := by ac_rfl
        _ = p * k * d := by rw [g1]
        _ = n * q := hx
        _ = n' * c * q := by rw [g2]
        _ = n' * q * c := by rw [Int.mul_right_comm]
    have co : Int.gcd n' (d * k') = 1 := by rw [Int.gcd_comm, Int.gcd_mul_right_left_of_gcd_eq_one g6, Int.gcd_comm]; exact g3
    exact cross_unique p q n' (d * k') b3 (Int.mul_pos (by omega) (by omega)) b5 co hx'
  have nv := new_valid p q hp
  simp only [oE, oN, oD, if_pos hf, ovN, ovD, ← key.1, ← key.2]
  exact nv
theorem over_ok (n d k : Int) (h : oE n d k = 0) : validB n d = true ∧ 1 ≤ k ∧ k ≤ 64 ∧ validB (oN n d k) (oD n d k) = true ∧ oN n d k * k * d = n * oD n d k := by
  have hf : okFac n d k = true := by
    unfold oE at h
    by_cases q : okFac n d k = true
    · exact q
    · rw [if_neg q] at h; split at h <;> omega
  have hf' := hf
  simp only [okFac, Bool.and_eq_true, decide_eq_true_eq] at hf'
  obtain ⟨⟨hv, hk0⟩, hk1⟩ := hf'
  obtain ⟨a1, a2, a3, a4, a5⟩ := valid_parts hv
  rw [oE, if_pos hf] at h
  have ho := newE_zero _ _ h
  have := new_ok _ _ ho
  refine ⟨hv, hk0, hk1, ?_, ?_⟩
  · simp only [oN, oD, if_pos hf]; exact this.1
  · simp only [oN, oD, if_pos hf]
    have h2 := this.2.1
    simp only [ovN, ovD] at h2 ⊢
    have g1 := div_mul_self k _ (Int.gcd_dvd_right n k)
    have g2 := div_mul_self n _ (Int.gcd_dvd_left n k)
    generalize n / (Int.gcd n k : Int) = n' at *
    generalize k / (Int.gcd n k : Int) = k' at *
    generalize newN n' (d * k') = x at *
    generalize newD n' (d * k') = y at *
    generalize (Int.gcd n k : Int) = c at *
    calc x * k * d = x * (k' * c) * d := by rw [g1]
      _ = x * (d * k') * c := by rw [Int.mul_assoc x (d * k'), Int.mul_assoc d, Int.mul_comm d, Int.mul_assoc]
      _ = n' * y * c := by rw [h2]
      _ = n * y := by rw [Int.mul_right_comm, g2]
/-- Dividing undoes multiplying. -/
theorem times_over (n d k : Int) (h : tE n d k = 0) : oE (tN n d k) (tD n d k) k = 0 ∧ oN (tN n d k) (tD n d k) k = n ∧ oD (tN n d k) (tD n d k) k = d := by
  obtain ⟨v, k0, k1, v', x⟩ := times_ok n d k h
  exact over_of _ _ k n d v' k0 k1 v x.symm
theorem over_times (n d k : Int) (h : oE n d k = 0) : tE (oN n d k) (oD n d k) k = 0 ∧ tN (oN n d k) (oD n d k) k = n ∧ tD (oN n d k) (oD n d k) k = d := by
  obtain ⟨v, k0, k1, v', x⟩ := over_ok n d k h
  exact times_of _ _ k n d v' k0 k1 v x.symm
/-- Factors in any order. -/
theorem times_times (n d i k : Int) (h : tE n d i = 0) (g : tE (tN n d i) (tD n d i) k = 0) :
    tE n d k = 0 ∧ tE (tN n d k) (tD n d k) i = 0 ∧ tN (tN n d k) (tD n d k) i = tN (tN n d i) (tD n d i) k ∧ tD (tN n d k) (tD n d k) i = tD (tN n d i) (tD n d i) k := by
  obtain ⟨v, i0, i1, v', x⟩ := times_ok n d i h
  obtain ⟨_, k0, k1, u, y⟩ := times_ok _ _ k g
  generalize tN (tN n d i) (tD n d i) k = U at *
  generalize tD (tN n d i) (tD n d i) k = V at *
  generalize tN n d i = a at *
  generalize tD n d i = b at *
  obtain ⟨a1, a2, a3, a4, a5⟩ := valid_parts v
  obtain ⟨b1, b2, b3, b4, b5⟩ := valid_parts v'
  obtain ⟨c1, c2, c3, c4, c5⟩ := valid_parts u
  -- U / V = n * i * k / d
  have z : U * d = n * i * k * V := by
    refine Int.eq_of_mul_eq_mul_right (a := b) (by omega) ?_
    calc U * d * b = U * b * d := Int.mul_right_comm ..
      _ = a * k * V * d := by rw [y]
      _ = a * d * k * V := by rw [Int.mul_right_comm (a * k), Int.mul_right_comm a]
      _ = n * i * b * k * V := by rw [x]
      _ = n * i * k * V * b := by rw [Int.mul_right_comm (n * i), Int.mul_right_comm (n * i * k)]
  have hc := gcd_bounds k d a3
  have g1 := div_mul_self d _ (Int.gcd_dvd_right k d)
  have g2 := div_mul_self k _ (Int.gcd_dvd_left k d)
  have g3 := gcd_parts k d hc.1
  have g4 := div_gcd_left k d k0
  have g5 : 1 ≤ d / (Int.gcd k d : Int) := (Int.le_ediv_iff_mul_le (by omega)).2 (by omega)
  have g6 : Int.gcd n (d / (Int.gcd k d : Int)) = 1 := gcd_one_dvd a5 ⟨_, g1.symm⟩
  have g7 := ediv_bounds d (Int.gcd k d) (by omega) hc.1
  generalize d / (Int.gcd k d : Int) = d' at *
  generalize k / (Int.gcd k d : Int) = k' at *
  generalize (Int.gcd k d : Int) = c at *
  have co : Int.gcd (n * k') d' = 1 := by rw [Int.gcd_mul_right_left_of_gcd_eq_one g6]; exact g3
  have z' : U * d' = n * k' * (i * V) := by
    refine Int.eq_of_mul_eq_mul_right (a := c) (by omega) ?_
    calc U * d' * c = U * d := by rw [Int.mul_assoc, g1]
      _ = n * i * k * V := z
      _ = n * i * (k' * c) * V := by rw [g2]
      _ = n * k' * (i * V) * c := by
        rw [Int.mul_assoc n i, Int.mul_left_comm i k' c, ← Int.mul_assoc n k', Int.mul_assoc (n * k'), Int.mul_assoc (n * k'), Int.mul_assoc i c, Int.mul_comm c V, ← Int.mul_assoc i V]
  have p0 : 0 ≤ n * k' := Int.mul_nonneg a1 (by omega)
  have dv : (n * k') ∣ U := by
    have : (n * k') ∣ d' * U := by rw [Int.mul_comm d', z']; exact Int.dvd_mul_right _ _
    have := Int.dvd_gcd_mul_iff_dvd_mul.2 this
    rw [co] at this
    simpa using this
  have le : n * k' ≤ 144115188075855872 := by
    rcases Int.lt_or_le 0 U with hU | hU
    · have := Int.le_of_dvd hU dv; omega
    · have hU0 : U = 0 := by omega
      rw [hU0, Int.zero_mul] at z'
      have iv : 0 < i * V := Int.mul_pos (by omega) (by omega)
      rcases Int.mul_eq_zero.1 z'.symm with q | q
      · omega
      · omega
  have V2 : validB (n * k') d' = true := by
    simp only [validB, Bool.and_eq_true, decide_eq_true_eq, co]
    simp
    omega
  have T := times_of n d k (n * k') d' v k0 k1 V2 (by rw [← g1, ← g2]; ac_rfl)
  rw [T.2.1, T.2.2]
  have S := times_of (n * k') d' i U V V2 i0 i1 u (by rw [z']; ac_rfl)
  exact ⟨T.1, S.1, S.2.1, S.2.2⟩
/-- The bounds of results. -/
theorem new_wide (n d : Int) : (0 ≤ newN n d ∧ newN n d ≤ 144115188075855872) ∧ (0 ≤ newD n d ∧ newD n d ≤ 16777216) ∧ (0 ≤ newE n d ∧ newE n d ≤ 2) := by
  by_cases h : okNew n d = true
  · obtain ⟨v1, v2, v3, v4, _⟩ := valid_parts (new_ok n d h).1
    rw [(new_ok n d h).2.2]
    omega
  · simp [newN, newD, newE, h]
theorem t_wide (n d k : Int) : (0 ≤ tN n d k ∧ tN n d k ≤ 144115188075855872) ∧ (0 ≤ tD n d k ∧ tD n d k ≤ 16777216) := by
  unfold tN tD
  have := new_wide (tmN n d k) (tmD n d k)
  split <;> omega
theorem o_wide (n d k : Int) : (0 ≤ oN n d k ∧ oN n d k ≤ 144115188075855872) ∧ (0 ≤ oD n d k ∧ oD n d k ≤ 16777216) := by
  unfold oN oD
  have := new_wide (ovN n k) (ovD n d k)
  split <;> omega
end Go.Proofs.YtdbofdjjecoeeaaDoor
