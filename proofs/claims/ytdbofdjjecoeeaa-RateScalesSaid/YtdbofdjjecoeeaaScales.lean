/- RateScales: the walk through the statement. -/
import Derived.Test.YtdbofdjjecoeeaaMade
import Derived.Test.YtdbofdjjecoeeaaNewTape
namespace Go.Proofs.Ytdbofdjjecoeeaa
open Go.RowKit

theorem newN_le (n d : Int) (hn : 0 ≤ n) (hd : 1 ≤ d) (h : okNew n d = true) : newN n d ≤ n ∧ newD n d ≤ d := by
  have hg := gcd_bounds n d hd
  simp only [newN, newD, h, if_true]
  exact ⟨(ediv_bounds n _ hn hg.1).2, (ediv_bounds d _ (by omega) hg.1).2⟩
theorem times_small (n d k : Int) (hv : validB n d = true) (hn : n ≤ 2000000000) (hk : 1 ≤ k) (hk1 : k ≤ 64) : tE n d k = 0 := by
  obtain ⟨a1, a2, a3, a4, _⟩ := valid_parts hv
  have hf : okFac n d k = true := by simp [okFac, hv, hk, hk1]
  have h1 := gcd_bounds_left k d hk
  have h1' := gcd_bounds k d a3
  have h2 := div_gcd_left k d hk
  have h3 : ¬ tmBig n d k := by
    unfold tmBig
    have : n * (k / (Int.gcd k d : Int)) ≤ 2000000000 * 64 := Int.mul_le_mul hn (by omega) (by omega) (by omega)
    have : n ≤ 144115188075855872 / (k / (Int.gcd k d : Int)) := (Int.le_ediv_iff_mul_le (by omega)).2 (by omega)
    omega
  have h4 := div_ge _ _ n h2.1 a1 h3
  have h5 : 1 ≤ d / (Int.gcd k d : Int) := (Int.le_ediv_iff_mul_le (by omega)).2 (by omega)
  have h6 := ediv_bounds d (Int.gcd k d) (by omega) h1.1
  rw [tE, if_pos hf]
  simp only [tmN, tmD, if_neg h3]
  simp only [newE, okNew_of _ _ h4.1 h4.2 h5 (by omega), if_true]
theorem scale_le (a b c x : Int) (hc : 0 < c) : a * c ≤ b * c ↔ a ≤ b := by
  have _ := x
  exact ⟨fun h => Int.le_of_mul_le_mul_right h hc, fun h => Int.mul_le_mul_of_nonneg_right h (by omega)⟩
theorem times_within (n d k lo hi : Int) (h : tE n d k = 0) : withinB (tN n d k) (tD n d k) (lo * k) (hi * k) = withinB n d lo hi := by
  obtain ⟨v, k0, _, v', x⟩ := times_ok n d k h
  rw [within_eq _ _ _ _ v', within_eq _ _ _ _ v]
  have p1 := (valid_parts v).2.2.1
  have p3 := (valid_parts v').2.2.1
  generalize tN n d k = a at *
  generalize tD n d k = b at *
  have hc : 0 < k * b := Int.mul_pos (by omega) (by omega)
  have e1 : lo * k * b ≤ a ↔ lo * d ≤ n := by
    rw [← scale_le (lo * k * b) a d 0 (by omega), x, ← scale_le (lo * d) n (k * b) 0 hc]
    have r1 : lo * k * b * d = lo * d * (k * b) := by rw [Int.mul_assoc lo k b, Int.mul_right_comm]
    have r2 : n * k * b = n * (k * b) := Int.mul_assoc n k b
    rw [r1, r2]
  have e2 : a ≤ hi * k * b ↔ n ≤ hi * d := by
    rw [← scale_le a (hi * k * b) d 0 (by omega), x, ← scale_le n (hi * d) (k * b) 0 hc]
    have r1 : hi * k * b * d = hi * d * (k * b) := by rw [Int.mul_assoc hi k b, Int.mul_right_comm]
    have r2 : n * k * b = n * (k * b) := Int.mul_assoc n k b
    rw [r1, r2]
  simp only [e1, e2]
theorem times_ge (n d k : Int) (h : tE n d k = 0) : cmpV n d (tN n d k) (tD n d k) ≤ 0 := by
  obtain ⟨v, k0, _, v', x⟩ := times_ok n d k h
  rw [cmpV_eq _ _ _ _ v v', cmpI_le, x]
  have p0 := (valid_parts v).1
  have p3 := (valid_parts v').2.2.1
  have : n * 1 ≤ n * k := Int.mul_le_mul_of_nonneg_left k0 p0
  rw [Int.mul_one] at this
  exact Int.mul_le_mul_of_nonneg_right this (by omega)

set_option maxHeartbeats 2000000 in
theorem scales_walk (a : Option Addr) (len cap : Nat) (zs : List Int) (lo hi k : Int) (w : World) (h : RowIn w a len cap zs) (l0 : 0 ≤ lo) (l1 : lo ≤ 65535) (g0 : 0 ≤ hi) (g1 : hi ≤ 65535) (k0 : 0 ≤ k) (k1 : k ≤ 255) :
    Calls Try.prog 4 #[.slice a len cap, .int .u16 lo, .int .u16 hi, .int .u8 k] w (Grows w (.bool true)) := by
  have H := Lib.hid h
  clear h
  go_enter Try.func4, Try.ntmps4
  go_wp2_with fail
  refine (newTape_any w a len cap zs H.out).mono ?_
  rintro e w1 ⟨b, n, rfl, T, hg, hb, _⟩
  have HT := Lib.hid T
  have hHas := T.has
  have HG := Lib.hid hg
  clear T hg
  go_wp2_with fail
  refine (range_any _ b n 0 _ _ HT.out (by omega) (by omega) (by omega)).mono ?_
  rintro e w' ⟨x1, p1, rfl, ⟨x1l, x1h⟩, q10, q11, O1, d1, rfl⟩
  go_wp2_with fail
  refine (range_any _ b n p1 _ _ (by repeat (first | with_reducible refine Tape.xt _ _ ?_ | with_reducible refine Tape.alloc _ ?_ | exact HT.out.set (by assumption) (by assumption))) (by omega) (by omega) (by omega)).mono ?_
  rintro e w' ⟨x2, p2, rfl, ⟨x2l, x2h⟩, q20, q21, O2, d2, rfl⟩
  go_wp2_with fail
  refine (ref_new_any _ _ _ (by omega) (by omega) (by omega) (by omega)).mono ?_
  have ok := okNew_of x1 x2 (by omega) (by omega) (by omega) (by omega)
  have V := (new_ok x1 x2 ok).1
  have L := newN_le x1 x2 (by omega) (by omega) ok
  clear ok
  generalize newE x1 x2 = ee at *
  generalize newN x1 x2 = rn at *
  generalize newD x1 x2 = rd at *
  rintro e w' ⟨rfl, O3, d3, rfl⟩
  obtain ⟨v1, v2, v3, v4, _⟩ := valid_parts V
  have l1 := L.1
  have HV := Lib.hid V
  clear V L
  go_wp2_with fail
  have f0 : 1 ≤ 1 + k % 64 := by omega
  have f1 : 1 + k % 64 ≤ 64 := by omega
  generalize 1 + k % 64 = f at *
  refine (times_any _ _ _ _ (by omega) (by omega) (by omega) (by omega)).mono ?_
  have E := times_small rn rd f HV.out (by omega) f0 f1
  have OK := times_ok rn rd f E
  have W := times_within rn rd f lo hi E
  have C := times_ge rn rd f E
  obtain ⟨_, _, _, V', _⟩ := OK
  rw [E]
  obtain ⟨u1, u2, u3, u4, _⟩ := valid_parts V'
  clear E
  generalize tN rn rd f = tn at *
  generalize tD rn rd f = td at *
  rintro e w' ⟨rfl, O4, d4, rfl⟩
  have m0 : 0 ≤ lo * f := Int.mul_nonneg l0 (by omega)
  have m1 : lo * f ≤ 65535 * 64 := Int.mul_le_mul (by omega) f1 (by omega) (by omega)
  have m2 : 0 ≤ hi * f := Int.mul_nonneg g0 (by omega)
  have m3 : hi * f ≤ 65535 * 64 := Int.mul_le_mul (by omega) f1 (by omega) (by omega)
  clear V'
  go_wp2_with fail
  refine wp_region_grows (by kernel_rfl) (by kernel_rfl) ?_
  repeat (go_big_quiet_step (first | (go_at_call 13; exact calls_grows (within_any _ _ _ _ _ (by omega) (by omega) (by omega) (by omega))) | (go_at_call 9; exact calls_grows (compare_any _ _ _ _ _ (by omega) (by omega) (by omega) (by omega) (by omega) (by omega) (by omega) (by omega))) | (go_at_call 14; exact calls_grows (awake_any _))))
  refine wpQuiet_nil ?_
  rintro _ ⟨⟨O5, d5⟩, rfl⟩
  go_wp2_with fail
  go_ret
  exact ⟨rfl, by repeat (first | with_reducible exact HG.out | with_reducible refine Gr.setCell hb _ ?_ | with_reducible refine Gr.xt _ _ ?_ | with_reducible refine Gr.alloc _ ?_ | with_reducible refine Gr.drewN _ ?_)⟩
end Go.Proofs.Ytdbofdjjecoeeaa
