/- Lemmas and contracts for the proof of RetuneAnswers (several texts in one, printed by wip/tools/pack.py): Kb Kc. -/
import Derived.Test.YtenehghpmnajpaaGreatDoorRa8pa
set_option maxRecDepth 100000
set_option maxHeartbeats 16000000

/-! Rates: the greatest common divisor, validity and the quotient in lowest terms, in plain numbers. No conditions. -/
set_option linter.unusedVariables false
set_option linter.unusedSimpArgs false
namespace Go.Proofs.YtenehghpmnajpaaGreatDoor
open Go.RowKit
theorem gcd_step (x y : Int) (_hx : 0 ≤ x) (_hy : 1 ≤ y) : Int.gcd y (x % y) = Int.gcd x y := by
  obtain ⟨a, rfl⟩ := Int.eq_ofNat_of_zero_le _hx
  obtain ⟨b, rfl⟩ := Int.eq_ofNat_of_zero_le (show 0 ≤ y by omega)
  show Nat.gcd b (a % b) = Nat.gcd a b
  rw [Nat.gcd_comm, ← Nat.gcd_rec, Nat.gcd_comm]
def validB (n d : Int) : Bool := decide (0 ≤ n) && decide (n ≤ 144115188075855872) && decide (1 ≤ d) && decide (d ≤ 16777216) && ((Int.gcd n d : Int) == 1)
def okNew (n d : Int) : Bool := decide (0 ≤ n) && decide (1 ≤ d) && validB (n / Int.gcd n d) (d / Int.gcd n d)
def newN (n d : Int) : Int := if okNew n d = true then n / Int.gcd n d else 0
def newD (n d : Int) : Int := if okNew n d = true then d / Int.gcd n d else 0
def newE (n d : Int) : Int := if okNew n d = true then 0 else 2
theorem gcd_bounds (n d : Int) (h1 : 1 ≤ d) : 1 ≤ (Int.gcd n d : Int) ∧ (Int.gcd n d : Int) ≤ d := by
  have h2 : 0 < Int.gcd n d := Int.gcd_pos_of_ne_zero_right n (by omega)
  have h3 := Int.le_of_dvd (show 0 < d by omega) (Int.gcd_dvd_right n d)
  omega
theorem ediv_bounds (n g : Int) (h : 0 ≤ n) (hg : 1 ≤ g) : 0 ≤ n / g ∧ n / g ≤ n :=
  ⟨Int.ediv_nonneg h (by omega), Int.ediv_le_self g h⟩
end Go.Proofs.YtenehghpmnajpaaGreatDoor
/-! Contracts of the functions common, Valid and New of package rate: what they return for all numbers of 64 bits, and that memory only grows. -/
set_option linter.unusedVariables false
set_option linter.unusedSimpArgs false
namespace Go.Proofs.YtenehghpmnajpaaGreatDoor
open Go.RowKit
theorem common_any (a b : Int) (w : World) (ha0 : 0 ≤ a) (ha : a ≤ 9223372036854775807) (hb0 : 0 ≤ b) (hb : b ≤ 9223372036854775807) :
    Calls Tryz.prog 137 #[.int .i64 a, .int .i64 b] w (Grows w (.int .i64 (Int.gcd a b))) := by
  go_enter Tryz.func137, Tryz.ntmps137
  go_wp2
  go_loopw [0, 1] (fun t u wr => ∃ x y : Int, 0 ≤ x ∧ x ≤ 9223372036854775807 ∧ 0 ≤ y ∧ y ≤ 9223372036854775807 ∧ t = .int .i64 x ∧ u = .int .i64 y ∧ Int.gcd x y = Int.gcd a b ∧ ∃ n, wr = w.drewN n) (fun _ u _ => (intOf u).toNat)
  case atStart => exact ⟨a, b, ha0, ha, hb0, hb, rfl, rfl, rfl, 0, rfl⟩
  case round =>
    obtain ⟨x, y, hx0, hx, hy0, hy, rfl, rfl, hg, n, rfl⟩ := hrel
    have HG := Lib.hid hg; clear hg
    by_cases h0 : y = 0
    · subst h0
      go_wp2
      go_ret
      refine ⟨?_, ⟨#[], w.drawn + n, ?_⟩⟩
      · rw [← HG.out]; simp; omega
      · simp [xt, World.drewN]
    · have hy1 : 1 ≤ y := by omega
      have hyn : (y != 0) = true := by simp; omega
      go_wp2
      go_quiet (fail)
      go_wp2
      go_roundw
      case rel =>
        have h1 := Int.emod_nonneg x (show y ≠ 0 by omega)
        have h2 := Int.emod_lt_of_pos x (show 0 < y by omega)
        exact ⟨y, x % y, by omega, by omega, by omega, by omega, rfl, rfl, by rw [gcd_step x y hx0 hy1]; exact HG.out, n + nq, by simp⟩
      case measure =>
        have h1 := Int.emod_nonneg x (show y ≠ 0 by omega)
        have h2 := Int.emod_lt_of_pos x (show 0 < y by omega)
        simp [intOf]; omega
theorem valid_any (n d : Int) (w : World) (hn0 : -9223372036854775808 ≤ n) (hn1 : n ≤ 9223372036854775807) (hd0 : -9223372036854775808 ≤ d) (hd1 : d ≤ 9223372036854775807) :
    Calls Tryz.prog 139 #[.agg #[.int .i64 n, .int .i64 d]] w (Grows w (.bool (validB n d))) := by
  go_enter Tryz.func139, Tryz.ntmps139
  go_wp2_with (go_at_call 137; refine (common_any _ _ _ (by omega) (by omega) (by omega) (by omega)).mono ?_; rintro e w' ⟨rfl, O, dd, rfl⟩)
  all_goals go_ret
  all_goals refine ⟨ret_bool ?_, by repeat (first | exact Gr.refl _ | refine Gr.xt _ _ ?_ | refine Gr.alloc _ ?_)⟩
  all_goals first | (simp [validB, *]; done) | (simp [validB]; omega)
theorem new_core (n d g : Int) (w : World) (hn0 : 0 ≤ n) (hn1 : n ≤ 9223372036854775807) (hd0 : 1 ≤ d) (hd1 : d ≤ 9223372036854775807) (hg : Hid (g = (Int.gcd n d : Int))) (hg1 : 1 ≤ g)
    (hq0 : 0 ≤ n / g) (hq1 : n / g ≤ 9223372036854775807) (hr0 : 0 ≤ d / g) (hr1 : d / g ≤ 9223372036854775807) :
    Calls Tryz.prog 158 #[.int .i64 n, .int .i64 d] w (Grows w (if validB (n / g) (d / g) = true then .tuple #[.agg #[.int .i64 (n / g), .int .i64 (d / g)], .int .i64 0] else .tuple #[.agg #[.int .i64 0, .int .i64 0], .int .i64 2])) := by
  by_cases hv : validB (n / g) (d / g) = true
  · rw [if_pos hv]
    go_enter Tryz.func158, Tryz.ntmps158
    go_wp2_with (go_at_call 137; refine (common_any _ _ _ (by omega) (by omega) (by omega) (by omega)).mono ?_; rw [← hg.out]; rintro e w' ⟨rfl, O, dd, rfl⟩)
    go_region
    all_goals go_wp2_with (go_at_call 139; refine (valid_any _ _ _ (by omega) (by omega) (by omega) (by omega)).mono ?_; rintro e w' ⟨rfl, O', dd', rfl⟩)
    exact bodyPost_ret (v := .tuple #[.agg #[.int .i64 (n / g), .int .i64 (d / g)], .int .i64 0]) (by simp [results, Tryz.results158, go_sem]) rfl
      ⟨rfl, by repeat (first | exact Gr.refl _ | refine Gr.xt _ _ ?_ | refine Gr.alloc _ ?_)⟩
  · rw [if_neg hv]
    go_enter Tryz.func158, Tryz.ntmps158
    go_wp2_with (go_at_call 137; refine (common_any _ _ _ (by omega) (by omega) (by omega) (by omega)).mono ?_; rw [← hg.out]; rintro e w' ⟨rfl, O, dd, rfl⟩)
    go_region
    all_goals go_wp2_with (go_at_call 139; refine (valid_any _ _ _ (by omega) (by omega) (by omega) (by omega)).mono ?_; rintro e w' ⟨rfl, O', dd', rfl⟩)
    exact bodyPost_ret (v := .tuple #[.agg #[.int .i64 0, .int .i64 0], .int .i64 2]) (by simp [results, Tryz.results158, go_sem]) rfl
      ⟨rfl, by repeat (first | exact Gr.refl _ | refine Gr.xt _ _ ?_ | refine Gr.alloc _ ?_)⟩
theorem new_any (n d : Int) (w : World) (hn0 : -9223372036854775808 ≤ n) (hn1 : n ≤ 9223372036854775807) (hd0 : -9223372036854775808 ≤ d) (hd1 : d ≤ 9223372036854775807) :
    Calls Tryz.prog 158 #[.int .i64 n, .int .i64 d] w (Grows w (.tuple #[.agg #[.int .i64 (newN n d), .int .i64 (newD n d)], .int .i64 (newE n d)])) := by
  by_cases h : 0 ≤ n ∧ 1 ≤ d
  · have hg := gcd_bounds n d h.2
    have h1 := ediv_bounds n (Int.gcd n d) h.1 hg.1
    have h2 := ediv_bounds d (Int.gcd n d) (by omega) hg.1
    have := new_core n d (Int.gcd n d) w h.1 hn1 h.2 hd1 (Lib.hid rfl) hg.1 h1.1 (by omega) h2.1 (by omega)
    have e : okNew n d = validB (n / Int.gcd n d) (d / Int.gcd n d) := by simp [okNew, h.1, h.2]
    by_cases hv : validB (n / Int.gcd n d) (d / Int.gcd n d) = true
    · rw [if_pos hv] at this
      simp only [newN, newD, newE, e, if_pos hv]; exact this
    · rw [if_neg hv] at this
      simp only [newN, newD, newE, e, if_neg hv]; exact this
  · have e : okNew n d = false := by
      have : decide (0 ≤ n) = false ∨ decide (1 ≤ d) = false := by simp; omega
      rcases this with h | h <;> simp [okNew, h]
    simp only [newN, newD, newE, e, Bool.false_eq_true, if_false]
    clear e
    by_cases h1 : n < 0
    all_goals
      go_enter Tryz.func158, Tryz.ntmps158
      go_wp2_with fail
      exact bodyPost_ret (v := .tuple #[.agg #[.int .i64 0, .int .i64 0], .int .i64 2]) (by simp [results, Tryz.results158, go_sem]) rfl
        ⟨rfl, by repeat (first | exact Gr.refl _ | refine Gr.xt _ _ ?_ | refine Gr.alloc _ ?_)⟩
end Go.Proofs.YtenehghpmnajpaaGreatDoor
/-! Contracts of the functions divisor, Valid and New of the reference: what they return for all numbers of 64 bits, and that memory only grows. -/
set_option linter.unusedVariables false
set_option linter.unusedSimpArgs false
namespace Go.Proofs.YtenehghpmnajpaaGreatDoor
open Go.RowKit
theorem ref_common_any (a b : Int) (w : World) (ha0 : 0 ≤ a) (ha : a ≤ 9223372036854775807) (hb0 : 0 ≤ b) (hb : b ≤ 9223372036854775807) :
    Calls Tryz.prog 133 #[.int .i64 a, .int .i64 b] w (Grows w (.int .i64 (Int.gcd a b))) := by
  go_enter Tryz.func133, Tryz.ntmps133
  go_wp2
  go_loopw [0, 1] (fun t u wr => ∃ x y : Int, 0 ≤ x ∧ x ≤ 9223372036854775807 ∧ 0 ≤ y ∧ y ≤ 9223372036854775807 ∧ t = .int .i64 x ∧ u = .int .i64 y ∧ Int.gcd x y = Int.gcd a b ∧ ∃ n, wr = w.drewN n) (fun _ u _ => (intOf u).toNat)
  case atStart => exact ⟨a, b, ha0, ha, hb0, hb, rfl, rfl, rfl, 0, rfl⟩
  case round =>
    obtain ⟨x, y, hx0, hx, hy0, hy, rfl, rfl, hg, n, rfl⟩ := hrel
    have HG := Lib.hid hg; clear hg
    by_cases h0 : y = 0
    · subst h0
      go_wp2
      go_ret
      refine ⟨?_, ⟨#[], w.drawn + n, ?_⟩⟩
      · rw [← HG.out]; simp; omega
      · simp [xt, World.drewN]
    · have hy1 : 1 ≤ y := by omega
      have hyn : (y != 0) = true := by simp; omega
      go_wp2
      go_quiet (fail)
      go_wp2
      go_roundw
      case rel =>
        have h1 := Int.emod_nonneg x (show y ≠ 0 by omega)
        have h2 := Int.emod_lt_of_pos x (show 0 < y by omega)
        exact ⟨y, x % y, by omega, by omega, by omega, by omega, rfl, rfl, by rw [gcd_step x y hx0 hy1]; exact HG.out, n + nq, by simp⟩
      case measure =>
        have h1 := Int.emod_nonneg x (show y ≠ 0 by omega)
        have h2 := Int.emod_lt_of_pos x (show 0 < y by omega)
        simp [intOf]; omega
theorem ref_valid_any (n d : Int) (w : World) (hn0 : -9223372036854775808 ≤ n) (hn1 : n ≤ 9223372036854775807) (hd0 : -9223372036854775808 ≤ d) (hd1 : d ≤ 9223372036854775807) :
    Calls Tryz.prog 107 #[.agg #[.int .i64 n, .int .i64 d]] w (Grows w (.bool (validB n d))) := by
  go_enter Tryz.func107, Tryz.ntmps107
  go_wp2_with (go_at_call 133; refine (ref_common_any _ _ _ (by omega) (by omega) (by omega) (by omega)).mono ?_; rintro e w' ⟨rfl, O, dd, rfl⟩)
  all_goals go_ret
  all_goals refine ⟨ret_bool ?_, by repeat (first | exact Gr.refl _ | refine Gr.xt _ _ ?_ | refine Gr.alloc _ ?_)⟩
  all_goals first | (simp [validB, *]; done) | (simp [validB]; omega)
theorem ref_new_core (n d g : Int) (w : World) (hn0 : 0 ≤ n) (hn1 : n ≤ 9223372036854775807) (hd0 : 1 ≤ d) (hd1 : d ≤ 9223372036854775807) (hg : Hid (g = (Int.gcd n d : Int))) (hg1 : 1 ≤ g)
    (hq0 : 0 ≤ n / g) (hq1 : n / g ≤ 9223372036854775807) (hr0 : 0 ≤ d / g) (hr1 : d / g ≤ 9223372036854775807) :
    Calls Tryz.prog 132 #[.int .i64 n, .int .i64 d] w (Grows w (if validB (n / g) (d / g) = true then .tuple #[.agg #[.int .i64 (n / g), .int .i64 (d / g)], .int .i64 0] else .tuple #[.agg #[.int .i64 0, .int .i64 0], .int .i64 2])) := by
  by_cases hv : validB (n / g) (d / g) = true
  · rw [if_pos hv]
    go_enter Tryz.func132, Tryz.ntmps132
    go_wp2_with (go_at_call 133; refine (ref_common_any _ _ _ (by omega) (by omega) (by omega) (by omega)).mono ?_; rw [← hg.out]; rintro e w' ⟨rfl, O, dd, rfl⟩)
    go_region
    all_goals go_wp2_with (go_at_call 107; refine (ref_valid_any _ _ _ (by omega) (by omega) (by omega) (by omega)).mono ?_; rintro e w' ⟨rfl, O', dd', rfl⟩)
    exact bodyPost_ret (v := .tuple #[.agg #[.int .i64 (n / g), .int .i64 (d / g)], .int .i64 0]) (by simp [results, Tryz.results132, go_sem]) rfl
      ⟨rfl, by repeat (first | exact Gr.refl _ | refine Gr.xt _ _ ?_ | refine Gr.alloc _ ?_)⟩
  · rw [if_neg hv]
    go_enter Tryz.func132, Tryz.ntmps132
    go_wp2_with (go_at_call 133; refine (ref_common_any _ _ _ (by omega) (by omega) (by omega) (by omega)).mono ?_; rw [← hg.out]; rintro e w' ⟨rfl, O, dd, rfl⟩)
    go_region
    all_goals go_wp2_with (go_at_call 107; refine (ref_valid_any _ _ _ (by omega) (by omega) (by omega) (by omega)).mono ?_; rintro e w' ⟨rfl, O', dd', rfl⟩)
    exact bodyPost_ret (v := .tuple #[.agg #[.int .i64 0, .int .i64 0], .int .i64 2]) (by simp [results, Tryz.results132, go_sem]) rfl
      ⟨rfl, by repeat (first | exact Gr.refl _ | refine Gr.xt _ _ ?_ | refine Gr.alloc _ ?_)⟩
theorem ref_new_any (n d : Int) (w : World) (hn0 : -9223372036854775808 ≤ n) (hn1 : n ≤ 9223372036854775807) (hd0 : -9223372036854775808 ≤ d) (hd1 : d ≤ 9223372036854775807) :
    Calls Tryz.prog 132 #[.int .i64 n, .int .i64 d] w (Grows w (.tuple #[.agg #[.int .i64 (newN n d), .int .i64 (newD n d)], .int .i64 (newE n d)])) := by
  by_cases h : 0 ≤ n ∧ 1 ≤ d
  · have hg := gcd_bounds n d h.2
    have h1 := ediv_bounds n (Int.gcd n d) h.1 hg.1
    have h2 := ediv_bounds d (Int.gcd n d) (by omega) hg.1
    have := ref_new_core n d (Int.gcd n d) w h.1 hn1 h.2 hd1 (Lib.hid rfl) hg.1 h1.1 (by omega) h2.1 (by omega)
    have e : okNew n d = validB (n / Int.gcd n d) (d / Int.gcd n d) := by simp [okNew, h.1, h.2]
    by_cases hv : validB (n / Int.gcd n d) (d / Int.gcd n d) = true
    · rw [if_pos hv] at this
      simp only [newN, newD, newE, e, if_pos hv]; exact this
    · rw [if_neg hv] at this
      simp only [newN, newD, newE, e, if_neg hv]; exact this
  · have e : okNew n d = false := by
      have : decide (0 ≤ n) = false ∨ decide (1 ≤ d) = false := by simp; omega
      rcases this with h | h <;> simp [okNew, h]
    simp only [newN, newD, newE, e, Bool.false_eq_true, if_false]
    clear e
    by_cases h1 : n < 0
    all_goals
      go_enter Tryz.func132, Tryz.ntmps132
      go_wp2_with fail
      exact bodyPost_ret (v := .tuple #[.agg #[.int .i64 0, .int .i64 0], .int .i64 2]) (by simp [results, Tryz.results132, go_sem]) rfl
        ⟨rfl, by repeat (first | exact Gr.refl _ | refine Gr.xt _ _ ?_ | refine Gr.alloc _ ?_)⟩
end Go.Proofs.YtenehghpmnajpaaGreatDoor
/-! Contracts of the functions Times and Over of package rate: what they return for all numbers of 64 bits, and that memory only grows. -/
set_option linter.unusedVariables false
set_option linter.unusedSimpArgs false
namespace Go.Proofs.YtenehghpmnajpaaGreatDoor
open Go.RowKit
def tmBig (n d k : Int) : Prop := 144115188075855872 / (k / Int.gcd k d) < n
instance (n d k : Int) : Decidable (tmBig n d k) := by unfold tmBig; infer_instance
def tmN (n d k : Int) : Int := if tmBig n d k then -1 else n * (k / Int.gcd k d)
def tmD (n d k : Int) : Int := if tmBig n d k then 1 else d / Int.gcd k d
theorem valid_parts {n d : Int} (h : validB n d = true) : 0 ≤ n ∧ n ≤ 144115188075855872 ∧ 1 ≤ d ∧ d ≤ 16777216 ∧ Int.gcd n d = 1 := by
  simp [validB] at h; omega
theorem div_ge (M q n : Int) (hq : 1 ≤ q) (hn : 0 ≤ n) (h : ¬ M / q < n) : 0 ≤ n * q ∧ n * q ≤ M :=
  ⟨Int.mul_nonneg hn (by omega), (Int.le_ediv_iff_mul_le (by omega)).1 (by omega)⟩
theorem times1_core (n d k c : Int) (w : World) (bk br : Nat) (hk : w.cell? ⟨bk, 0, none⟩ = some (.int .i64 k)) (hn : w.cell? ⟨br, 0, none⟩ = some (.int .i64 n)) (hd : w.cell? ⟨br, 1, none⟩ = some (.int .i64 d))
    (hn0 : 0 ≤ n) (_hn1 : n ≤ 144115188075855872) (hd0 : 1 ≤ d) (hd1 : d ≤ 16777216) (hk0 : 1 ≤ k) (hk1 : k ≤ 64) (hc : Hid (c = (Int.gcd k d : Int))) (hc1 : 1 ≤ c) (hq : 1 ≤ k / c) (hq1 : k / c ≤ 64) :
    Calls Tryz.prog 138 #[.pointer (some ⟨bk, 0, none⟩), .pointer (some ⟨br, 0, none⟩)] w
      (Grows w (if 144115188075855872 / (k / c) < n then .tuple #[.int .i64 (-1), .int .i64 1] else .tuple #[.int .i64 (n * (k / c)), .int .i64 (d / c)])) := by
  have b1 := has_of_cell hk
  have b2 := has_of_cell hn
  by_cases hbig : 144115188075855872 / (k / c) < n
  · rw [if_pos hbig]
    go_enter Tryz.func138, Tryz.ntmps138
    go_wp2_with (go_at_call 137; refine (common_any _ _ _ (by omega) (by omega) (by omega) (by omega)).mono ?_; rw [← hc.out]; rintro e w' ⟨rfl, O, dd, rfl⟩)
    go_quiet (fail)
    go_wp2
    go_ret2
    exact ⟨rfl, by repeat (first | exact Gr.refl _ | refine Gr.xt _ _ ?_ | refine Gr.drewN _ ?_)⟩
  · rw [if_neg hbig]
    have hm := div_ge _ (k / c) n hq hn0 hbig
    have hm0 := hm.1
    have hm1 := hm.2
    clear hm
    have hdc := ediv_bounds d c (by omega) hc1
    have hdc0 := hdc.1
    have hdc1 := hdc.2
    clear hdc
    go_enter Tryz.func138, Tryz.ntmps138
    go_wp2_with (go_at_call 137; refine (common_any _ _ _ (by omega) (by omega) (by omega) (by omega)).mono ?_; rw [← hc.out]; rintro e w' ⟨rfl, O, dd, rfl⟩)
    go_quiet (fail)
    go_wp2
    go_quiet (fail)
    go_wp2
    go_ret2
    exact ⟨rfl, by repeat (first | exact Gr.refl _ | refine Gr.xt _ _ ?_ | refine Gr.drewN _ ?_)⟩
theorem gcd_bounds_left (k d : Int) (hk : 1 ≤ k) : 1 ≤ (Int.gcd k d : Int) ∧ (Int.gcd k d : Int) ≤ k := by
  rw [Int.gcd_comm]; exact gcd_bounds d k hk
theorem div_gcd_left (k d : Int) (hk : 1 ≤ k) : 1 ≤ k / (Int.gcd k d : Int) ∧ k / (Int.gcd k d : Int) ≤ k := by
  have h := gcd_bounds_left k d hk
  refine ⟨?_, (ediv_bounds k _ (by omega) h.1).2⟩
  exact (Int.le_ediv_iff_mul_le (by omega)).2 (by omega)
theorem times1_any (n d k : Int) (w : World) (bk br : Nat) (hk : w.cell? ⟨bk, 0, none⟩ = some (.int .i64 k)) (hn : w.cell? ⟨br, 0, none⟩ = some (.int .i64 n)) (hd : w.cell? ⟨br, 1, none⟩ = some (.int .i64 d))
    (hn0 : 0 ≤ n) (hn1 : n ≤ 144115188075855872) (hd0 : 1 ≤ d) (hd1 : d ≤ 16777216) (hk0 : 1 ≤ k) (hk1 : k ≤ 64) :
    Calls Tryz.prog 138 #[.pointer (some ⟨bk, 0, none⟩), .pointer (some ⟨br, 0, none⟩)] w
      (Grows w (.tuple #[.int .i64 (tmN n d k), .int .i64 (tmD n d k)])) := by
  have h1 := gcd_bounds_left k d hk0
  have h2 := div_gcd_left k d hk0
  have := times1_core n d k (Int.gcd k d) w bk br hk hn hd hn0 hn1 hd0 hd1 hk0 hk1 (Lib.hid rfl) h1.1 h2.1 (by omega)
  by_cases hb : tmBig n d k
  · simp only [tmN, tmD, if_pos hb]; rw [if_pos (show 144115188075855872 / (k / (Int.gcd k d : Int)) < n from hb)] at this; exact this
  · simp only [tmN, tmD, if_neg hb]; rw [if_neg (show ¬ 144115188075855872 / (k / (Int.gcd k d : Int)) < n from hb)] at this; exact this
def okFac (n d k : Int) : Bool := validB n d && decide (1 ≤ k) && decide (k ≤ 64)
def tE (n d k : Int) : Int := if okFac n d k = true then newE (tmN n d k) (tmD n d k) else if validB n d = true then 2 else 1
def tN (n d k : Int) : Int := if okFac n d k = true then newN (tmN n d k) (tmD n d k) else 0
def tD (n d k : Int) : Int := if okFac n d k = true then newD (tmN n d k) (tmD n d k) else 0
theorem tm_bounds (n d k : Int) (hn0 : 0 ≤ n) (hd0 : 1 ≤ d) (hd1 : d ≤ 16777216) (hk0 : 1 ≤ k) :
    -1 ≤ tmN n d k ∧ tmN n d k ≤ 144115188075855872 ∧ 0 ≤ tmD n d k ∧ tmD n d k ≤ 16777216 := by
  have h1 := gcd_bounds_left k d hk0
  have h2 := div_gcd_left k d hk0
  unfold tmN tmD
  by_cases hb : tmBig n d k
  · simp [if_pos hb]
  · have := div_ge _ _ n h2.1 hn0 hb
    have h3 := ediv_bounds d (Int.gcd k d) (by omega) h1.1
    simp only [if_neg hb]; omega
theorem times_any (n d k : Int) (w : World) (hn0 : -9223372036854775808 ≤ n) (hn1 : n ≤ 9223372036854775807) (hd0 : -9223372036854775808 ≤ d) (hd1 : d ≤ 9223372036854775807) :
    Calls Tryz.prog 114 #[.agg #[.int .i64 n, .int .i64 d], .int .i64 k] w (Grows w (.tuple #[.agg #[.int .i64 (tN n d k), .int .i64 (tD n d k)], .int .i64 (tE n d k)])) := by
  by_cases hv : validB n d = true
  · by_cases hk : 1 ≤ k ∧ k ≤ 64
    · have hk0 := hk.1
      have hk1 := hk.2
      have e : okFac n d k = true := by simp [okFac, hv, hk0, hk1]
      simp only [tN, tD, tE, if_pos e]
      have HV := valid_parts hv
      obtain ⟨v1, v2, v3, v4, v5⟩ := HV
      have V5 := Lib.hid v5
      have B := tm_bounds n d k v1 v3 v4 hk0
      obtain ⟨q1, q2, q3, q4⟩ := B
      clear e hk v5
      go_enter Tryz.func114, Tryz.ntmps114
      go_wp2_with (first
        | (go_at_call 139; refine (valid_any _ _ _ (by omega) (by omega) (by omega) (by omega)).mono ?_; rintro e w' ⟨rfl, O1, d1, rfl⟩)
        | (go_at_call 138; refine (times1_any n d k _ _ _ (by simp) (by simp) (by simp) v1 v2 v3 v4 hk0 hk1).mono ?_; rintro e w' ⟨rfl, O2, d2, rfl⟩)
        | (go_at_call 158; refine (new_any _ _ _ (by omega) (by omega) (by omega) (by omega)).mono ?_; rintro e w' ⟨rfl, O3, d3, rfl⟩)
        | go_in)
      refine bodyPost_ret (v := .tuple #[.agg #[.int .i64 (newN (tmN n d k) (tmD n d k)), .int .i64 (newD (tmN n d k) (tmD n d k))], .int .i64 (newE (tmN n d k) (tmD n d k))]) (by simp [results, Tryz.results135, go_sem]) rfl ?_
      go_wp2_with fail
      exact bodyPost_ret (v := .tuple #[.agg #[.int .i64 (newN (tmN n d k) (tmD n d k)), .int .i64 (newD (tmN n d k) (tmD n d k))], .int .i64 (newE (tmN n d k) (tmD n d k))]) (by simp [results, Tryz.results114, go_sem]) rfl
        ⟨rfl, by repeat (first | exact Gr.refl _ | refine Gr.xt _ _ ?_ | refine Gr.alloc _ ?_ | refine Gr.drewN _ ?_)⟩
    · have e : okFac n d k = false := by
        have : decide (1 ≤ k) = false ∨ decide (k ≤ 64) = false := by simp; omega
        rcases this with h | h <;> simp [okFac, h]
      simp only [tN, tD, tE, e, hv, Bool.false_eq_true, if_false, if_true]
      clear e
      by_cases h1 : k < 1
      all_goals
        go_enter Tryz.func114, Tryz.ntmps114
        go_wp2_with (first
          | (go_at_call 139; refine (valid_any _ _ _ (by omega) (by omega) (by omega) (by omega)).mono ?_; rintro e w' ⟨rfl, O1, d1, rfl⟩)
          | go_in)
        refine bodyPost_ret (v := .tuple #[.agg #[.int .i64 0, .int .i64 0], .int .i64 2]) (by simp [results, Tryz.results135, go_sem]) rfl ?_
        go_wp2_with fail
        exact bodyPost_ret (v := .tuple #[.agg #[.int .i64 0, .int .i64 0], .int .i64 2]) (by simp [results, Tryz.results114, go_sem]) rfl
          ⟨rfl, by repeat (first | exact Gr.refl _ | refine Gr.xt _ _ ?_ | refine Gr.alloc _ ?_ | refine Gr.drewN _ ?_)⟩
  · have e : okFac n d k = false := by simp [okFac, hv]
    simp only [tN, tD, tE, e, hv, Bool.false_eq_true, if_false]
    clear e
    go_enter Tryz.func114, Tryz.ntmps114
    go_wp2_with (first
      | (go_at_call 139; refine (valid_any _ _ _ (by omega) (by omega) (by omega) (by omega)).mono ?_; rintro e w' ⟨rfl, O1, d1, rfl⟩)
      | go_in)
    refine bodyPost_ret (v := .tuple #[.agg #[.int .i64 0, .int .i64 0], .int .i64 1]) (by simp [results, Tryz.results135, go_sem]) rfl ?_
    go_wp2_with fail
    exact bodyPost_ret (v := .tuple #[.agg #[.int .i64 0, .int .i64 0], .int .i64 1]) (by simp [results, Tryz.results114, go_sem]) rfl
      ⟨rfl, by repeat (first | exact Gr.refl _ | refine Gr.xt _ _ ?_ | refine Gr.alloc _ ?_ | refine Gr.drewN _ ?_)⟩
/-! Over -/
def ovN (n k : Int) : Int := n / Int.gcd n k
def ovD (n d k : Int) : Int := d * (k / Int.gcd n k)
theorem over1_core (n d k c : Int) (w : World) (bk br : Nat) (hk : w.cell? ⟨bk, 0, none⟩ = some (.int .i64 k)) (hn : w.cell? ⟨br, 0, none⟩ = some (.int .i64 n)) (hd : w.cell? ⟨br, 1, none⟩ = some (.int .i64 d))
    (hn0 : 0 ≤ n) (hn1 : n ≤ 144115188075855872) (_hd0 : 1 ≤ d) (_hd1 : d ≤ 16777216) (hk0 : 1 ≤ k) (hk1 : k ≤ 64) (hc : Hid (c = (Int.gcd n k : Int))) (hc1 : 1 ≤ c) (_hq : 1 ≤ k / c) (_hq1 : k / c ≤ 64) (hm0 : 0 ≤ d * (k / c)) (hm1 : d * (k / c) ≤ 1073741824) :
    Calls Tryz.prog 136 #[.pointer (some ⟨br, 0, none⟩), .pointer (some ⟨bk, 0, none⟩)] w
      (Grows w (.tuple #[.int .i64 (n / c), .int .i64 (d * (k / c))])) := by
  have b1 := has_of_cell hk
  have b2 := has_of_cell hn
  have hdc := ediv_bounds n c (by omega) hc1
  have hdc0 := hdc.1
  have hdc1 := hdc.2
  clear hdc
  go_enter Tryz.func136, Tryz.ntmps136
  go_wp2_with (go_at_call 137; refine (common_any _ _ _ (by omega) (by omega) (by omega) (by omega)).mono ?_; rw [← hc.out]; rintro e w' ⟨rfl, O, dd, rfl⟩)
  go_quiet (fail)
  go_wp2
  go_ret2
  exact ⟨rfl, by repeat (first | exact Gr.refl _ | refine Gr.xt _ _ ?_ | refine Gr.drewN _ ?_)⟩
theorem ov_bounds (n d k : Int) (hd0 : 1 ≤ d) (hd1 : d ≤ 16777216) (hk0 : 1 ≤ k) (hk1 : k ≤ 64) :
    1 ≤ k / (Int.gcd n k : Int) ∧ k / (Int.gcd n k : Int) ≤ 64 ∧ 0 ≤ d * (k / (Int.gcd n k : Int)) ∧ d * (k / (Int.gcd n k : Int)) ≤ 1073741824 := by
  have h2 := div_gcd_left k n hk0
  rw [Int.gcd_comm] at h2
  have h3 : d * (k / (Int.gcd n k : Int)) ≤ 16777216 * 64 := Int.mul_le_mul hd1 (by omega) (by omega) (by omega)
  have h4 : 0 ≤ d * (k / (Int.gcd n k : Int)) := Int.mul_nonneg (by omega) (by omega)
  omega
theorem over1_any (n d k : Int) (w : World) (bk br : Nat) (hk : w.cell? ⟨bk, 0, none⟩ = some (.int .i64 k)) (hn : w.cell? ⟨br, 0, none⟩ = some (.int .i64 n)) (hd : w.cell? ⟨br, 1, none⟩ = some (.int .i64 d))
    (hn0 : 0 ≤ n) (hn1 : n ≤ 144115188075855872) (hd0 : 1 ≤ d) (hd1 : d ≤ 16777216) (hk0 : 1 ≤ k) (hk1 : k ≤ 64) :
    Calls Tryz.prog 136 #[.pointer (some ⟨br, 0, none⟩), .pointer (some ⟨bk, 0, none⟩)] w
      (Grows w (.tuple #[.int .i64 (ovN n k), .int .i64 (ovD n d k)])) := by
  have h1 := gcd_bounds n k hk0
  have h2 := ov_bounds n d k hd0 hd1 hk0 hk1
  exact over1_core n d k (Int.gcd n k) w bk br hk hn hd hn0 hn1 hd0 hd1 hk0 hk1 (Lib.hid rfl) h1.1 h2.1 h2.2.1 h2.2.2.1 h2.2.2.2
def oE (n d k : Int) : Int := if okFac n d k = true then newE (ovN n k) (ovD n d k) else if validB n d = true then 2 else 1
def oN (n d k : Int) : Int := if okFac n d k = true then newN (ovN n k) (ovD n d k) else 0
def oD (n d k : Int) : Int := if okFac n d k = true then newD (ovN n k) (ovD n d k) else 0
theorem over_any (n d k : Int) (w : World) (hn0 : -9223372036854775808 ≤ n) (hn1 : n ≤ 9223372036854775807) (hd0 : -9223372036854775808 ≤ d) (hd1 : d ≤ 9223372036854775807) :
    Calls Tryz.prog 113 #[.agg #[.int .i64 n, .int .i64 d], .int .i64 k] w (Grows w (.tuple #[.agg #[.int .i64 (oN n d k), .int .i64 (oD n d k)], .int .i64 (oE n d k)])) := by
  by_cases hv : validB n d = true
  · by_cases hk : 1 ≤ k ∧ k ≤ 64
    · have hk0 := hk.1
      have hk1 := hk.2
      have e : okFac n d k = true := by simp [okFac, hv, hk0, hk1]
      simp only [oN, oD, oE, if_pos e]
      have HV := valid_parts hv
      obtain ⟨v1, v2, v3, v4, v5⟩ := HV
      have V5 := Lib.hid v5
      have B := ov_bounds n d k v3 v4 hk0 hk1
      have q3 : 0 ≤ ovD n d k := B.2.2.1
      have q4 : ovD n d k ≤ 1073741824 := B.2.2.2
      have q1 : 0 ≤ ovN n k := (ediv_bounds n _ v1 (gcd_bounds n k hk0).1).1
      have q2 : ovN n k ≤ n := (ediv_bounds n _ v1 (gcd_bounds n k hk0).1).2
      clear B
      clear e hk v5
      go_enter Tryz.func113, Tryz.ntmps113
      go_wp2_with (first
        | (go_at_call 139; refine (valid_any _ _ _ (by omega) (by omega) (by omega) (by omega)).mono ?_; rintro e w' ⟨rfl, O1, d1, rfl⟩)
        | (go_at_call 136; refine (over1_any n d k _ _ _ (by simp) (by simp) (by simp) v1 v2 v3 v4 hk0 hk1).mono ?_; rintro e w' ⟨rfl, O2, d2, rfl⟩)
        | (go_at_call 158; refine (new_any _ _ _ (by omega) (by omega) (by omega) (by omega)).mono ?_; rintro e w' ⟨rfl, O3, d3, rfl⟩)
        | go_in)
      refine bodyPost_ret (v := .tuple #[.agg #[.int .i64 (newN (ovN n k) (ovD n d k)), .int .i64 (newD (ovN n k) (ovD n d k))], .int .i64 (newE (ovN n k) (ovD n d k))]) (by simp [results, Tryz.results135, go_sem]) rfl ?_
      go_wp2_with fail
      exact bodyPost_ret (v := .tuple #[.agg #[.int .i64 (newN (ovN n k) (ovD n d k)), .int .i64 (newD (ovN n k) (ovD n d k))], .int .i64 (newE (ovN n k) (ovD n d k))]) (by simp [results, Tryz.results113, go_sem]) rfl
        ⟨rfl, by repeat (first | exact Gr.refl _ | refine Gr.xt _ _ ?_ | refine Gr.alloc _ ?_ | refine Gr.drewN _ ?_)⟩
    · have e : okFac n d k = false := by
        have : decide (1 ≤ k) = false ∨ decide (k ≤ 64) = false := by simp; omega
        rcases this with h | h <;> simp [okFac, h]
      simp only [oN, oD, oE, e, hv, Bool.false_eq_true, if_false, if_true]
      clear e
      by_cases h1 : k < 1
      all_goals
        go_enter Tryz.func113, Tryz.ntmps113
        go_wp2_with (first
          | (go_at_call 139; refine (valid_any _ _ _ (by omega) (by omega) (by omega) (by omega)).mono ?_; rintro e w' ⟨rfl, O1, d1, rfl⟩)
          | go_in)
        refine bodyPost_ret (v := .tuple #[.agg #[.int .i64 0, .int .i64 0], .int .i64 2]) (by simp [results, Tryz.results135, go_sem]) rfl ?_
        go_wp2_with fail
        exact bodyPost_ret (v := .tuple #[.agg #[.int .i64 0, .int .i64 0], .int .i64 2]) (by simp [results, Tryz.results113, go_sem]) rfl
          ⟨rfl, by repeat (first | exact Gr.refl _ | refine Gr.xt _ _ ?_ | refine Gr.alloc _ ?_ | refine Gr.drewN _ ?_)⟩
  · have e : okFac n d k = false := by simp [okFac, hv]
    simp only [oN, oD, oE, e, hv, Bool.false_eq_true, if_false]
    clear e
    go_enter Tryz.func113, Tryz.ntmps113
    go_wp2_with (first
      | (go_at_call 139; refine (valid_any _ _ _ (by omega) (by omega) (by omega) (by omega)).mono ?_; rintro e w' ⟨rfl, O1, d1, rfl⟩)
      | go_in)
    refine bodyPost_ret (v := .tuple #[.agg #[.int .i64 0, .int .i64 0], .int .i64 1]) (by simp [results, Tryz.results135, go_sem]) rfl ?_
    go_wp2_with fail
    exact bodyPost_ret (v := .tuple #[.agg #[.int .i64 0, .int .i64 0], .int .i64 1]) (by simp [results, Tryz.results113, go_sem]) rfl
      ⟨rfl, by repeat (first | exact Gr.refl _ | refine Gr.xt _ _ ?_ | refine Gr.alloc _ ?_ | refine Gr.drewN _ ?_)⟩
end Go.Proofs.YtenehghpmnajpaaGreatDoor


/-! Contracts of the functions Compare and Within of package rate, and of cmp's functions beneath: what they return for all numbers of 64 bits, and that memory only grows. -/
set_option linter.unusedVariables false
set_option linter.unusedSimpArgs false
namespace Go.Proofs.YtenehghpmnajpaaGreatDoor
open Go.RowKit
def withinB (n d lo hi : Int) : Bool := validB n d && (decide (lo ≤ n / d) && (decide (n / d < hi) || decide (n / d = hi) && decide (n % d = 0)))
theorem within_any (n d lo hi : Int) (w : World) (hn0 : -9223372036854775808 ≤ n) (hn1 : n ≤ 9223372036854775807) (hd0 : -9223372036854775808 ≤ d) (hd1 : d ≤ 9223372036854775807) :
    Calls Tryz.prog 115 #[.agg #[.int .i64 n, .int .i64 d], .int .i64 lo, .int .i64 hi] w (Grows w (.bool (withinB n d lo hi))) := by
  by_cases hv : validB n d = true
  · obtain ⟨v1, v2, v3, v4, v5⟩ := valid_parts hv
    clear v5
    go_enter Tryz.func115, Tryz.ntmps115
    go_wp2_with (go_at_call 139; refine (valid_any _ _ _ (by omega) (by omega) (by omega) (by omega)).mono ?_; rintro e w' ⟨rfl, O1, D1, rfl⟩)
    go_quiet (fail)
    go_wp2
    all_goals go_ret
    all_goals refine ⟨ret_bool ?_, by repeat (first | exact Gr.refl _ | refine Gr.xt _ _ ?_ | refine Gr.alloc _ ?_ | refine Gr.drewN _ ?_)⟩
    all_goals (rw [Bool.eq_iff_iff]; simp [withinB, hv]; try omega)
  · go_enter Tryz.func115, Tryz.ntmps115
    go_wp2_with (go_at_call 139; refine (valid_any _ _ _ (by omega) (by omega) (by omega) (by omega)).mono ?_; rintro e w' ⟨rfl, O1, D1, rfl⟩)
    go_ret
    exact ⟨ret_bool (by simp [withinB, hv]), by repeat (first | exact Gr.refl _ | refine Gr.xt _ _ ?_ | refine Gr.alloc _ ?_ | refine Gr.drewN _ ?_)⟩
end Go.Proofs.YtenehghpmnajpaaGreatDoor
/-! Rates in plain numbers: lowest terms, the order of rates as that of products, factors, whole limits. No program in sight. No conditions. -/
set_option linter.unusedVariables false
set_option linter.unusedSimpArgs false
namespace Go.Proofs.YtenehghpmnajpaaGreatDoor
theorem div_mul_self (a g : Int) (h : g ∣ a) : a / g * g = a := Int.ediv_mul_cancel h
theorem okNew_iff (n d : Int) (hn : 0 ≤ n) (hd : 1 ≤ d) :
    okNew n d = true ↔ n / Int.gcd n d ≤ 144115188075855872 ∧ d / Int.gcd n d ≤ 16777216 := by
  have hg := gcd_bounds n d hd
  have h1 := ediv_bounds n (Int.gcd n d) hn hg.1
  have h2 : 1 ≤ d / (Int.gcd n d : Int) := (Int.le_ediv_iff_mul_le (by omega)).2 (by omega)
  have h3 : Int.gcd (n / Int.gcd n d) (d / Int.gcd n d) = 1 := by
    rw [Int.gcd_ediv (Int.gcd_dvd_left n d) (Int.gcd_dvd_right n d)]
    have : ((Int.gcd n d : Int)).natAbs = Int.gcd n d := by omega
    rw [this]; exact Nat.div_self (by omega)
  simp only [okNew, validB, h3, Bool.and_eq_true, decide_eq_true_eq]
  simp; omega
theorem okNew_of (n d : Int) (hn : 0 ≤ n) (hn1 : n ≤ 144115188075855872) (hd : 1 ≤ d) (hd1 : d ≤ 16777216) : okNew n d = true := by
  have hg := gcd_bounds n d hd
  have h1 := ediv_bounds n (Int.gcd n d) hn hg.1
  have h2 := ediv_bounds d (Int.gcd n d) (by omega) hg.1
  exact (okNew_iff n d hn hd).2 ⟨by omega, by omega⟩
theorem new_ok (n d : Int) (h : okNew n d = true) : validB (newN n d) (newD n d) = true ∧ newN n d * d = n * newD n d ∧ newE n d = 0 := by
  have h' := h
  simp only [okNew, Bool.and_eq_true, decide_eq_true_eq] at h'
  simp only [newN, newD, newE, h, if_true]
  refine ⟨h'.2, ?_, trivial⟩
  have h1 := div_mul_self n _ (Int.gcd_dvd_left n d)
  have h2 := div_mul_self d _ (Int.gcd_dvd_right n d)
  generalize n / (Int.gcd n d : Int) = a at *
  generalize d / (Int.gcd n d : Int) = b at *
  generalize (Int.gcd n d : Int) = g at *
  rw [← h1, ← h2, Int.mul_assoc, Int.mul_comm b g]
/-! The order -/
/-! Factors -/
end Go.Proofs.YtenehghpmnajpaaGreatDoor
/-! Factors in plain numbers: dividing undoes multiplying, factors in any order. No program in sight. No conditions. -/
set_option linter.unusedVariables false
set_option linter.unusedSimpArgs false
namespace Go.Proofs.YtenehghpmnajpaaGreatDoor
end Go.Proofs.YtenehghpmnajpaaGreatDoor
/-! The reference's Floor, Within, Times, Over, Compare: they return what the program's functions return. -/
set_option linter.unusedVariables false
set_option linter.unusedSimpArgs false
namespace Go.Proofs.YtenehghpmnajpaaGreatDoor
open Go.RowKit
def floorI (n d : Int) : Int := if validB n d = true then n / d else 0
theorem refFloor_any (n d : Int) (w : World) (hn0 : -9223372036854775808 ≤ n) (hn1 : n ≤ 9223372036854775807) (hd0 : -9223372036854775808 ≤ d) (hd1 : d ≤ 9223372036854775807) :
    Calls Tryz.prog 52 #[.agg #[.int .i64 n, .int .i64 d]] w (Grows w (.int .i64 (floorI n d))) := by
  by_cases hv : validB n d = true
  · obtain ⟨v1, v2, v3, v4, v5⟩ := valid_parts hv
    clear v5
    have a1 := ediv_bounds n d v1 v3
    go_enter Tryz.func52, Tryz.ntmps52
    go_wp2_with (go_at_call 107; refine (ref_valid_any _ _ _ (by omega) (by omega) (by omega) (by omega)).mono ?_; rintro e w' ⟨rfl, O1, D1, rfl⟩)
    go_ret
    exact ⟨ret_int (by rw [floorI, if_pos hv]), by repeat (first | exact Gr.refl _ | refine Gr.xt _ _ ?_ | refine Gr.alloc _ ?_ | refine Gr.drewN _ ?_)⟩
  · go_enter Tryz.func52, Tryz.ntmps52
    go_wp2_with (go_at_call 107; refine (ref_valid_any _ _ _ (by omega) (by omega) (by omega) (by omega)).mono ?_; rintro e w' ⟨rfl, O1, D1, rfl⟩)
    go_ret
    exact ⟨ret_int (by rw [floorI, if_neg hv]), by repeat (first | exact Gr.refl _ | refine Gr.xt _ _ ?_ | refine Gr.alloc _ ?_ | refine Gr.drewN _ ?_)⟩
theorem refWithin_any (n d lo hi : Int) (w : World) (hn0 : -9223372036854775808 ≤ n) (hn1 : n ≤ 9223372036854775807) (hd0 : -9223372036854775808 ≤ d) (hd1 : d ≤ 9223372036854775807) :
    Calls Tryz.prog 118 #[.agg #[.int .i64 n, .int .i64 d], .int .i64 lo, .int .i64 hi] w (Grows w (.bool (withinB n d lo hi))) := by
  by_cases hv : validB n d = true
  · obtain ⟨v1, v2, v3, v4, v5⟩ := valid_parts hv
    clear v5
    go_enter Tryz.func118, Tryz.ntmps118
    go_wp2_with (go_at_call 107; refine (ref_valid_any _ _ _ (by omega) (by omega) (by omega) (by omega)).mono ?_; rintro e w' ⟨rfl, O1, D1, rfl⟩)
    all_goals go_ret
    all_goals refine ⟨ret_bool ?_, by repeat (first | exact Gr.refl _ | refine Gr.xt _ _ ?_ | refine Gr.alloc _ ?_ | refine Gr.drewN _ ?_)⟩
    all_goals (rw [Bool.eq_iff_iff]; simp [withinB, hv]; try omega)
  · go_enter Tryz.func118, Tryz.ntmps118
    go_wp2_with (go_at_call 107; refine (ref_valid_any _ _ _ (by omega) (by omega) (by omega) (by omega)).mono ?_; rintro e w' ⟨rfl, O1, D1, rfl⟩)
    go_ret
    exact ⟨ret_bool (by simp [withinB, hv]), by repeat (first | exact Gr.refl _ | refine Gr.xt _ _ ?_ | refine Gr.alloc _ ?_ | refine Gr.drewN _ ?_)⟩
theorem new_scale (a b c : Int) (ha : 0 ≤ a) (hb : 1 ≤ b) (hc : 1 ≤ c) : newE (a * c) (b * c) = newE a b ∧ newN (a * c) (b * c) = newN a b ∧ newD (a * c) (b * c) = newD a b := by
  have hg : (Int.gcd (a * c) (b * c) : Int) = Int.gcd a b * c := by
    rw [Int.gcd_mul_right]
    have : ((c.natAbs : Nat) : Int) = c := by omega
    rw [Int.natCast_mul, this]
  have hg0 := gcd_bounds a b hb
  have e1 : a * c / (Int.gcd a b * c) = a / Int.gcd a b := Int.mul_ediv_mul_of_pos_left a (Int.gcd a b) (by omega)
  have e2 : b * c / (Int.gcd a b * c) = b / Int.gcd a b := Int.mul_ediv_mul_of_pos_left b (Int.gcd a b) (by omega)
  have a0 : 0 ≤ a * c := Int.mul_nonneg ha (by omega)
  have b0 : 1 ≤ b * c := Int.mul_pos (by omega) (by omega)
  have ok : okNew (a * c) (b * c) = okNew a b := by
    rw [Bool.eq_iff_iff, okNew_iff _ _ a0 b0, okNew_iff a b ha hb, hg, e1, e2]
  simp [newE, newN, newD, ok, hg, e1, e2]
theorem over_new (n d k : Int) (h0 : 0 ≤ n) (hd : 1 ≤ d) (hk : 1 ≤ k) : newE n (d * k) = newE (ovN n k) (ovD n d k) ∧ newN n (d * k) = newN (ovN n k) (ovD n d k) ∧ newD n (d * k) = newD (ovN n k) (ovD n d k) := by
  have hc := gcd_bounds n k hk
  have g1 := div_mul_self k _ (Int.gcd_dvd_right n k)
  have g2 := div_mul_self n _ (Int.gcd_dvd_left n k)
  have g5 : 1 ≤ k / (Int.gcd n k : Int) := (Int.le_ediv_iff_mul_le (by omega)).2 (by omega)
  have s := new_scale (ovN n k) (ovD n d k) (Int.gcd n k) (ediv_bounds n _ h0 hc.1).1 (Int.mul_pos (by omega) (by omega)) hc.1
  have e1 : ovN n k * (Int.gcd n k : Int) = n := g2
  have e2 : ovD n d k * (Int.gcd n k : Int) = d * k := by unfold ovD; rw [Int.mul_assoc, g1]
  rw [e1, e2] at s
  exact s
theorem refFactor_any (k : Int) (w : World) : Calls Tryz.prog 131 #[.int .i64 k] w (Grows w (.bool (decide (1 ≤ k) && decide (k ≤ 64)))) := by
  go_enter Tryz.func131, Tryz.ntmps131
  go_wp2_with fail
  all_goals go_ret
  all_goals refine ⟨ret_bool ?_, Gr.refl _⟩
  all_goals (rw [Bool.eq_iff_iff]; simp; try omega)
theorem refOver_any (n d k : Int) (w : World) (hn0 : -9223372036854775808 ≤ n) (hn1 : n ≤ 9223372036854775807) (hd0 : -9223372036854775808 ≤ d) (hd1 : d ≤ 9223372036854775807) :
    Calls Tryz.prog 105 #[.agg #[.int .i64 n, .int .i64 d], .int .i64 k] w (Grows w (.tuple #[.agg #[.int .i64 (oN n d k), .int .i64 (oD n d k)], .int .i64 (oE n d k)])) := by
  by_cases hv : validB n d = true
  · by_cases hk : 1 ≤ k ∧ k ≤ 64
    · have hk0 := hk.1
      have hk1 := hk.2
      have e : okFac n d k = true := by simp [okFac, hv, hk0, hk1]
      have fk : (decide (1 ≤ k) && decide (k ≤ 64)) = true := by simp [hk0, hk1]
      simp only [oN, oD, oE, if_pos e]
      obtain ⟨v1, v2, v3, v4, -⟩ := valid_parts hv
      obtain ⟨o1, o2, o3⟩ := over_new n d k v1 v3 hk0
      rw [← o1, ← o2, ← o3]
      have m0 : 1 ≤ d * k := Int.mul_pos (by omega) (by omega)
      have m1 : d * k ≤ 16777216 * 64 := Int.mul_le_mul v4 hk1 (by omega) (by omega)
      clear e hk o1 o2 o3
      go_enter Tryz.func105, Tryz.ntmps105
      go_wp2_with (first
        | (go_at_call 107; refine (ref_valid_any _ _ _ (by omega) (by omega) (by omega) (by omega)).mono ?_; rintro e w' ⟨rfl, O1, d1, rfl⟩)
        | (go_at_call 131; refine (refFactor_any _ _).mono ?_; rw [fk]; rintro e w' ⟨rfl, O2, d2, rfl⟩)
        | (go_at_call 132; refine (ref_new_any _ _ _ (by omega) (by omega) (by omega) (by omega)).mono ?_; rintro e w' ⟨rfl, O3, d3, rfl⟩))
      exact bodyPost_ret (v := .tuple #[.agg #[.int .i64 (newN n (d * k)), .int .i64 (newD n (d * k))], .int .i64 (newE n (d * k))]) (by simp [results, Tryz.results105, go_sem]) rfl
        ⟨rfl, by repeat (first | exact Gr.refl _ | refine Gr.xt _ _ ?_ | refine Gr.alloc _ ?_ | refine Gr.drewN _ ?_)⟩
    · have e : okFac n d k = false := by
        have : decide (1 ≤ k) = false ∨ decide (k ≤ 64) = false := by simp; omega
        rcases this with h | h <;> simp [okFac, h]
      have fk : (decide (1 ≤ k) && decide (k ≤ 64)) = false := by
        have : decide (1 ≤ k) = false ∨ decide (k ≤ 64) = false := by simp; omega
        rcases this with h | h <;> simp [h]
      simp only [oN, oD, oE, e, hv, Bool.false_eq_true, if_false, if_true]
      clear e
      go_enter Tryz.func105, Tryz.ntmps105
      go_wp2_with (first
        | (go_at_call 107; refine (ref_valid_any _ _ _ (by omega) (by omega) (by omega) (by omega)).mono ?_; rintro e w' ⟨rfl, O1, d1, rfl⟩)
        | (go_at_call 131; refine (refFactor_any _ _).mono ?_; rw [fk]; rintro e w' ⟨rfl, O2, d2, rfl⟩))
      exact bodyPost_ret (v := .tuple #[.agg #[.int .i64 0, .int .i64 0], .int .i64 2]) (by simp [results, Tryz.results105, go_sem]) rfl
        ⟨rfl, by repeat (first | exact Gr.refl _ | refine Gr.xt _ _ ?_ | refine Gr.alloc _ ?_ | refine Gr.drewN _ ?_)⟩
  · have e : okFac n d k = false := by simp [okFac, hv]
    simp only [oN, oD, oE, e, hv, Bool.false_eq_true, if_false]
    clear e
    go_enter Tryz.func105, Tryz.ntmps105
    go_wp2_with (go_at_call 107; refine (ref_valid_any _ _ _ (by omega) (by omega) (by omega) (by omega)).mono ?_; rintro e w' ⟨rfl, O1, d1, rfl⟩)
    exact bodyPost_ret (v := .tuple #[.agg #[.int .i64 0, .int .i64 0], .int .i64 1]) (by simp [results, Tryz.results105, go_sem]) rfl
      ⟨rfl, by repeat (first | exact Gr.refl _ | refine Gr.xt _ _ ?_ | refine Gr.alloc _ ?_ | refine Gr.drewN _ ?_)⟩
end Go.Proofs.YtenehghpmnajpaaGreatDoor
/-! The reference's Times. -/
set_option linter.unusedVariables false
set_option linter.unusedSimpArgs false
namespace Go.Proofs.YtenehghpmnajpaaGreatDoor
open Go.RowKit
theorem refTimes_core (n d k c : Int) (w : World) (v1 : 0 ≤ n) (v2 : n ≤ 144115188075855872) (v3 : 1 ≤ d) (v4 : d ≤ 16777216) (hk0 : 1 ≤ k) (hk1 : k ≤ 64) (hv : validB n d = true) (hc : Hid ((Int.gcd k d : Int) = c)) (c0 : 1 ≤ c) (c1 : c ≤ k)
    (k0 : 1 ≤ k / c) (k1 : k / c ≤ k) (d0 : 1 ≤ d / c) (d1 : d / c ≤ d) (fk : (decide (1 ≤ k) && decide (k ≤ 64)) = true) (q0 : 0 ≤ 144115188075855872 / (k / c)) :
    Calls Tryz.prog 106 #[.agg #[.int .i64 n, .int .i64 d], .int .i64 k] w (Grows w (if 144115188075855872 / (k / c) < n then .tuple #[.agg #[.int .i64 0, .int .i64 0], .int .i64 2] else .tuple #[.agg #[.int .i64 (newN (n * (k / c)) (d / c)), .int .i64 (newD (n * (k / c)) (d / c))], .int .i64 (newE (n * (k / c)) (d / c))])) := by
  by_cases hb : 144115188075855872 / (k / c) < n
  · rw [if_pos hb]
    go_enter Tryz.func106, Tryz.ntmps106
    go_wp2_with (first
      | (go_at_call 107; refine (ref_valid_any _ _ _ (by omega) (by omega) (by omega) (by omega)).mono ?_; rintro e w' ⟨rfl, O1, d1, rfl⟩)
      | (go_at_call 131; refine (refFactor_any _ _).mono ?_; rw [fk]; rintro e w' ⟨rfl, O2, d2, rfl⟩)
      | (go_at_call 133; refine (ref_common_any _ _ _ (by omega) (by omega) (by omega) (by omega)).mono ?_; rw [hc.out]; rintro e w' ⟨rfl, O3, d3, rfl⟩))
    go_quiet (fail)
    go_wp2_with fail
    exact bodyPost_ret (v := .tuple #[.agg #[.int .i64 0, .int .i64 0], .int .i64 2]) (by simp [results, Tryz.results106, go_sem]) rfl
      ⟨rfl, by repeat (first | with_reducible exact Gr.refl _ | with_reducible refine Gr.xt _ _ ?_ | with_reducible refine Gr.alloc _ ?_ | with_reducible refine Gr.drewN _ ?_ | with_reducible refine Gr.setCell (Nat.le_succ _) _ ?_)⟩
  · rw [if_neg hb]
    obtain ⟨m0, m1⟩ := div_ge _ _ n k0 v1 hb
    go_enter Tryz.func106, Tryz.ntmps106
    go_wp2_with (first
      | (go_at_call 107; refine (ref_valid_any _ _ _ (by omega) (by omega) (by omega) (by omega)).mono ?_; rintro e w' ⟨rfl, O1, d1, rfl⟩)
      | (go_at_call 131; refine (refFactor_any _ _).mono ?_; rw [fk]; rintro e w' ⟨rfl, O2, d2, rfl⟩)
      | (go_at_call 133; refine (ref_common_any _ _ _ (by omega) (by omega) (by omega) (by omega)).mono ?_; rw [hc.out]; rintro e w' ⟨rfl, O3, d3, rfl⟩))
    go_quiet (fail)
    go_wp2_with fail
    first
      | refine wp_region_grows_tailx 13 (by kernel_rfl) (by kernel_rfl) ?_
      | refine wp_region_grows_tail 13 (by kernel_rfl) (by kernel_rfl) ?_
    simp only [List.take_succ_cons, List.take_zero, List.drop_succ_cons, List.drop_zero]
    repeat (go_big_quiet_step (first | (go_at_call 132; exact calls_grows (ref_new_any _ _ _ (by omega) (by omega) (by omega) (by omega)))))
    refine wpQuiet_nil ?_
    rintro _ ⟨⟨O5, d5⟩, rfl⟩
    go_wp2_with fail
    exact bodyPost_ret (v := .tuple #[.agg #[.int .i64 (newN (n * (k / c)) (d / c)), .int .i64 (newD (n * (k / c)) (d / c))], .int .i64 (newE (n * (k / c)) (d / c))]) (by simp [results, Tryz.results106, go_sem]) rfl
      ⟨rfl, by repeat (first | with_reducible exact Gr.refl _ | with_reducible refine Gr.xt _ _ ?_ | with_reducible refine Gr.alloc _ ?_ | with_reducible refine Gr.drewN _ ?_ | with_reducible refine Gr.setCell (Nat.le_succ _) _ ?_)⟩
theorem refTimes_any (n d k : Int) (w : World) (hn0 : -9223372036854775808 ≤ n) (hn1 : n ≤ 9223372036854775807) (hd0 : -9223372036854775808 ≤ d) (hd1 : d ≤ 9223372036854775807) :
    Calls Tryz.prog 106 #[.agg #[.int .i64 n, .int .i64 d], .int .i64 k] w (Grows w (.tuple #[.agg #[.int .i64 (tN n d k), .int .i64 (tD n d k)], .int .i64 (tE n d k)])) := by
  by_cases hv : validB n d = true
  · by_cases hk : 1 ≤ k ∧ k ≤ 64
    · have hk0 := hk.1
      have hk1 := hk.2
      have e : okFac n d k = true := by simp [okFac, hv, hk0, hk1]
      have fk : (decide (1 ≤ k) && decide (k ≤ 64)) = true := by simp [hk0, hk1]
      simp only [tN, tD, tE, if_pos e]
      obtain ⟨v1, v2, v3, v4, -⟩ := valid_parts hv
      have b1 := gcd_bounds_left k d hk0
      have b2 := div_gcd_left k d hk0
      have b4 := gcd_bounds k d v3
      have b3 : 1 ≤ d / (Int.gcd k d : Int) := (Int.le_ediv_iff_mul_le (by omega)).2 (by omega)
      have b5 := ediv_bounds d (Int.gcd k d) (by omega) b1.1
      have q0 : 0 ≤ 144115188075855872 / (k / (Int.gcd k d : Int)) := Int.ediv_nonneg (by omega) (by omega)
      refine (refTimes_core n d k _ w v1 v2 v3 v4 hk0 hk1 hv (Lib.hid rfl) b1.1 b1.2 b2.1 b2.2 b3 b5.2 fk q0).mono ?_
      rintro e w' ⟨rfl, hg⟩
      refine ⟨?_, hg⟩
      by_cases hb : tmBig n d k
      · have hb' := hb
        unfold tmBig at hb'
        rw [if_pos hb']
        simp only [tmN, tmD, if_pos hb]
        rfl
      · have hb' := hb
        unfold tmBig at hb'
        rw [if_neg hb']
        simp only [tmN, tmD, if_neg hb]
    · have e : okFac n d k = false := by
        have : decide (1 ≤ k) = false ∨ decide (k ≤ 64) = false := by simp; omega
        rcases this with h | h <;> simp [okFac, h]
      have fk : (decide (1 ≤ k) && decide (k ≤ 64)) = false := by
        have : decide (1 ≤ k) = false ∨ decide (k ≤ 64) = false := by simp; omega
        rcases this with h | h <;> simp [h]
      simp only [tN, tD, tE, e, hv, Bool.false_eq_true, if_false, if_true]
      clear e
      go_enter Tryz.func106, Tryz.ntmps106
      go_wp2_with (first
        | (go_at_call 107; refine (ref_valid_any _ _ _ (by omega) (by omega) (by omega) (by omega)).mono ?_; rintro e w' ⟨rfl, O1, d1, rfl⟩)
        | (go_at_call 131; refine (refFactor_any _ _).mono ?_; rw [fk]; rintro e w' ⟨rfl, O2, d2, rfl⟩))
      exact bodyPost_ret (v := .tuple #[.agg #[.int .i64 0, .int .i64 0], .int .i64 2]) (by simp [results, Tryz.results106, go_sem]) rfl
        ⟨rfl, by repeat (first | exact Gr.refl _ | refine Gr.xt _ _ ?_ | refine Gr.alloc _ ?_ | refine Gr.drewN _ ?_)⟩
  · have e : okFac n d k = false := by simp [okFac, hv]
    simp only [tN, tD, tE, e, hv, Bool.false_eq_true, if_false]
    clear e
    go_enter Tryz.func106, Tryz.ntmps106
    go_wp2_with (go_at_call 107; refine (ref_valid_any _ _ _ (by omega) (by omega) (by omega) (by omega)).mono ?_; rintro e w' ⟨rfl, O1, d1, rfl⟩)
    exact bodyPost_ret (v := .tuple #[.agg #[.int .i64 0, .int .i64 0], .int .i64 1]) (by simp [results, Tryz.results106, go_sem]) rfl
      ⟨rfl, by repeat (first | exact Gr.refl _ | refine Gr.xt _ _ ?_ | refine Gr.alloc _ ?_ | refine Gr.drewN _ ?_)⟩
end Go.Proofs.YtenehghpmnajpaaGreatDoor
