/- RateFloors: the walk through the statement, where the library's table of powers of ten lies as it was laid. -/
import Derived.Test.YtdbofdjjecoeeaaDoorFmt
import Derived.Test.YtdbofdjjecoeeaaDoorNewTape
set_option linter.unusedVariables false
set_option linter.unusedSimpArgs false
namespace Go.Proofs.YtdbofdjjecoeeaaDoor
open Go.RowKit

theorem new_three (n : Int) (h0 : 0 ≤ n) (h1 : n ≤ 4294967295) : newN (3 * n) 3 = n ∧ newD (3 * n) 3 = 1 ∧ newE (3 * n) 3 = 0 := by
  have g : Int.gcd (3 * n) 3 = 3 := by simp [Int.gcd, Int.natAbs_mul]
  have ok := okNew_of (3 * n) 3 (by omega) (by omega) (by omega) (by omega)
  refine ⟨?_, ?_, (new_ok _ _ ok).2.2⟩
  · rw [newN, ok, if_pos rfl, g]; omega
  · rw [newD, ok, if_pos rfl, g]; omega
theorem itoa_ne (n : Int) : Lib.itoa n ≠ [] := by
  have hd : ∀ u, Lib.decDigits u ≠ [] := fun u h => by
    have := Lib.decDigits_length u
    have := Lib.nDigits_pos u
    simp [h] at *
    omega
  unfold Lib.itoa
  split
  · simp
  · exact hd _
theorem floor_mul (n d : Int) (h0 : 0 ≤ n) (h1 : 1 ≤ d) : 0 ≤ n / d * d ∧ n / d * d ≤ n ∧ n - n / d * d < d := by
  have h := Int.emod_add_mul_ediv n d
  have h2 := Int.emod_nonneg n (show d ≠ 0 by omega)
  have h3 := Int.emod_lt_of_pos n (show 0 < d by omega)
  have h4 : 0 ≤ n / d * d := Int.mul_nonneg (ediv_bounds n d h0 h1).1 (by omega)
  rw [Int.mul_comm d] at h
  omega
set_option maxHeartbeats 2000000 in
theorem floors_walk (a : Option Addr) (len cap : Nat) (zs : List Int) (n : Int) (w : World) (h : RowIn w a len cap zs) (ht : Pow w) (n0 : 0 ≤ n) (n1 : n ≤ 4294967295) :
    Calls Tryd.prog 3 #[.slice a len cap, .int .u32 n] w (Grows w (.bool true)) := by
  have H := Lib.hid h
  have HT := Lib.hid ht
  clear h ht
  go_enter Tryd.func3, Tryd.ntmps3
  go_wp2_with fail
  refine (newTape_any w a len cap zs H.out).mono ?_
  rintro e w1 ⟨b, nn, rfl, T, hg, hb, _⟩
  have HTp := Lib.hid T
  have HG := Lib.hid hg
  clear T hg
  go_wp2_with fail
  refine (made_any w1 b nn _ HTp.out).mono ?_
  rintro e w2 ⟨rn, rd, p', rfl, hv, -, -, hg2⟩
  have HG2 : Hid (Gr w w2) := Lib.hid ((HG.out.setCell (a := ⟨b, 1, none⟩) hb _).trans hg2)
  have HV := Lib.hid hv
  obtain ⟨v1, v2, v3, v4, -⟩ := valid_parts hv
  have fl : floorI rn rd = rn / rd := by rw [floorI, if_pos hv]
  obtain ⟨m0, m1, m2⟩ := floor_mul rn rd v1 v3
  have a1 := ediv_bounds rn rd v1 v3
  clear hv hg2 HG HTp
  go_wp2_with fail
  refine (floor_any _ _ _ (by omega) (by omega) (by omega) (by omega)).mono ?_
  rw [fl]
  clear fl
  generalize rn / rd = f at *
  obtain ⟨fm, hfm⟩ : ∃ fm, f * rd = fm := ⟨_, rfl⟩
  rw [hfm] at m0 m1 m2
  have W1 : wrap64 (f * rd) = fm := by rw [hfm]; unfold wrap64; omega
  have W2 : wrap64 (rn - fm) = rn - fm := by unfold wrap64; omega
  have W3 : wrap64 (3 * n) = 3 * n := by unfold wrap64; omega
  have q1 : decide (f < 0) = false := decide_eq_false (by omega)
  have q2 : decide (rn < fm) = false := decide_eq_false (by omega)
  have q3 : decide (rd ≤ rn - fm) = false := decide_eq_false (by omega)
  clear m0 m1 m2 hfm
  rintro e w' ⟨rfl, O1, d1, rfl⟩
  go_wp2_with fail
  clear q1 q2 q3 W1 W2
  obtain ⟨c1, c2, c3⟩ := new_one n n0 (by omega)
  obtain ⟨c4, c5, c6⟩ := new_three n n0 n1
  refine (new_any _ _ _ (by omega) (by omega) (by omega) (by omega)).mono ?_
  rw [c1, c2, c3]
  rintro e w' ⟨rfl, O2, d2, rfl⟩
  go_wp2_with fail
  refine (new_any _ _ _ (by omega) (by omega) (by omega) (by omega)).mono ?_
  rw [c4, c5, c6]
  rintro e w' ⟨rfl, O3, d3, rfl⟩
  have V1 : validB n 1 = true := by
    have := (new_ok n 1 (okNew_of n 1 (by omega) (by omega) (by omega) (by omega))).1
    rwa [c1, c2] at this
  have F1 : floorI n 1 = n := by rw [floorI, if_pos V1, Int.ediv_one]
  have F2 : fmtL n 1 = Lib.itoa n := by rw [fmtL, if_pos V1, if_pos rfl]
  have hne : ¬ Lib.itoa n = [] := itoa_ne n
  clear V1 c1 c2 c3 c4 c5 c6
  go_wp2_with fail
  refine (floor_any _ _ _ (by omega) (by omega) (by omega) (by omega)).mono ?_
  rw [F1]
  rintro e w' ⟨rfl, O4, d4, rfl⟩
  go_wp2_with fail
  refine (format_any _ _ _ (by omega) (by omega) (by omega) (by omega) (HT.out.gr (by repeat (first | with_reducible exact HG2.out | with_reducible refine Gr.xt _ _ ?_ | with_reducible refine Gr.alloc _ ?_ | with_reducible refine Gr.drew ?_)))).mono ?_
  rw [F2]
  rintro e w' ⟨rfl, O5, d5, rfl⟩
  go_wp2_with fail
  refine (awake_any _).mono ?_
  rintro e w' ⟨rfl, O6, d6, rfl⟩
  go_wp2_with fail
  go_ret
  exact ⟨ret_bool (by simp [hne]), by repeat (first | with_reducible exact HG2.out | with_reducible refine Gr.setCell hb _ ?_ | with_reducible refine Gr.xt _ _ ?_ | with_reducible refine Gr.alloc _ ?_ | with_reducible refine Gr.drewN _ ?_)⟩
end Go.Proofs.YtdbofdjjecoeeaaDoor
