/- The reference's Times, Compare, decimal and Format. -/
import Derived.Test.YtdbofdjjecoeeaaDoorRfB
import Derived.Test.YtdbofdjjecoeeaaDoorTxt
set_option linter.unusedVariables false
set_option linter.unusedSimpArgs false
namespace Go.Proofs.YtdbofdjjecoeeaaDoor
open Go.RowKit

set_option maxHeartbeats 800000 in
theorem refCompare_any (n d m e : Int) (w : World) (hn0 : -9223372036854775808 ≤ n) (hn1 : n ≤ 9223372036854775807) (hd0 : -9223372036854775808 ≤ d) (hd1 : d ≤ 9223372036854775807) (hm0 : -9223372036854775808 ≤ m) (hm1 : m ≤ 9223372036854775807) (he0 : -9223372036854775808 ≤ e) (he1 : e ≤ 9223372036854775807) :
    Calls Tryd.prog 21 #[.agg #[.int .i64 n, .int .i64 d], .agg #[.int .i64 m, .int .i64 e]] w (Grows w (.int .i64 (cmpV n d m e))) := by
  by_cases hv : validB n d = true
  · by_cases hu : validB m e = true
    · obtain ⟨v1, v2, v3, v4, v5⟩ := valid_parts hv
      obtain ⟨u1, u2, u3, u4, u5⟩ := valid_parts hu
      clear v5 u5
      have a1 := ediv_bounds n d v1 v3
      have a2 := ediv_bounds m e u1 u3
      have a3 := mod_mul_bounds n d e v3 v4 u3 u4
      have a4 := mod_mul_bounds m e d u3 u4 v3 v4
      obtain ⟨x1, x2, x3⟩ := a3
      obtain ⟨y1, y2, y3⟩ := a4
      rw [cmpV, if_pos ⟨hv, hu⟩]
      by_cases hq : n / d = m / e
      · go_enter Tryd.func21, Tryd.ntmps21
        go_wp2_with (go_at_call 17; refine (ref_valid_any _ _ _ (by omega) (by omega) (by omega) (by omega)).mono ?_; rintro e w' ⟨rfl, O1, D1, rfl⟩)
        go_quiet (fail)
        go_wp2_with fail
        go_quiet (fail)
        go_wp2_with fail
        all_goals go_ret
        all_goals refine ⟨ret_int ?_, by repeat (first | with_reducible exact Gr.refl _ | with_reducible refine Gr.xt _ _ ?_ | with_reducible refine Gr.alloc _ ?_ | with_reducible refine Gr.drewN _ ?_)⟩
        all_goals (unfold cmpR orI cmpI; try simp only [hq]; repeat' split) <;> first | omega | rfl
      · go_enter Tryd.func21, Tryd.ntmps21
        go_wp2_with (go_at_call 17; refine (ref_valid_any _ _ _ (by omega) (by omega) (by omega) (by omega)).mono ?_; rintro e w' ⟨rfl, O1, D1, rfl⟩)
        go_quiet (fail)
        go_wp2_with fail
        all_goals go_ret
        all_goals refine ⟨ret_int ?_, by repeat (first | with_reducible exact Gr.refl _ | with_reducible refine Gr.xt _ _ ?_ | with_reducible refine Gr.alloc _ ?_ | with_reducible refine Gr.drewN _ ?_)⟩
        all_goals (unfold cmpR orI cmpI; try simp only [hq]; repeat' split) <;> first | omega | rfl
    · rw [cmpV, if_neg (fun h => hu h.2)]
      go_enter Tryd.func21, Tryd.ntmps21
      go_wp2_with (go_at_call 17; refine (ref_valid_any _ _ _ (by omega) (by omega) (by omega) (by omega)).mono ?_; rintro e w' ⟨rfl, O1, D1, rfl⟩)
      go_ret
      exact ⟨rfl, by repeat (first | exact Gr.refl _ | refine Gr.xt _ _ ?_ | refine Gr.alloc _ ?_ | refine Gr.drewN _ ?_)⟩
  · rw [cmpV, if_neg (fun h => hv h.1)]
    go_enter Tryd.func21, Tryd.ntmps21
    go_wp2_with (go_at_call 17; refine (ref_valid_any _ _ _ (by omega) (by omega) (by omega) (by omega)).mono ?_; rintro e w' ⟨rfl, O1, D1, rfl⟩)
    go_ret
    exact ⟨rfl, by repeat (first | exact Gr.refl _ | refine Gr.xt _ _ ?_ | refine Gr.alloc _ ?_ | refine Gr.drewN _ ?_)⟩
theorem digit_cut (u : Nat) (hu : u < 10) : (ByteArray.mk #[48, 49, 50, 51, 52, 53, 54, 55, 56, 57]).extract u (u + 1) = ⟨[UInt8.ofNat (48 + u)].toArray⟩ := by
  have : u = 0 ∨ u = 1 ∨ u = 2 ∨ u = 3 ∨ u = 4 ∨ u = 5 ∨ u = 6 ∨ u = 7 ∨ u = 8 ∨ u = 9 := by omega
  rcases this with rfl | rfl | rfl | rfl | rfl | rfl | rfl | rfl | rfl | rfl <;> rfl
theorem itoa_nat (u : Nat) : Lib.itoa (u : Int) = Lib.decDigits u := by rw [Lib.itoa, if_neg (by omega)]; simp
theorem decimal_any (k : Nat) : ∀ n : Int, 0 ≤ n → n ≤ 9223372036854775807 → n.toNat ≤ k → ∀ w : World,
    Calls Tryd.prog 39 #[.int .i64 n] w (Grows w (.string ⟨(Lib.itoa n).toArray⟩)) := by
  induction k using Nat.strongRecOn with
  | ind k ih =>
    intro n h0 h1 hk w
    obtain ⟨u, rfl⟩ : ∃ u : Nat, n = (u : Int) := ⟨n.toNat, by omega⟩
    rw [itoa_nat]
    by_cases hu : u < 10
    · rw [Lib.decDigits_one hu]
      have h1 : (u : Int) < 10 := by omega
      go_enter Tryd.func39, Tryd.ntmps39
      go_wp2_with fail
      go_ret
      exact ⟨congrArg (fun s => Ending.returned (.string s)) (digit_cut u hu), Gr.refl _⟩
    · have h2 : ¬ (u : Int) < 10 := by omega
      have h3 : (u : Int) / 10 = ((u / 10 : Nat) : Int) := by omega
      have h4 : (u : Int) % 10 = ((u % 10 : Nat) : Int) := by omega
      obtain ⟨q, hq⟩ : ∃ q, u / 10 = q := ⟨_, rfl⟩
      obtain ⟨r, hr⟩ : ∃ r, u % 10 = r := ⟨_, rfl⟩
      rw [hq] at h3
      rw [hr] at h4
      have e : Lib.decDigits u = Lib.decDigits q ++ [UInt8.ofNat (48 + r)] := by rw [Lib.decDigits, dif_neg hu, hq, hr]
      have dc := digit_cut r (by omega)
      have lq : (Lib.decDigits q).length ≤ 21 := by
        have := Lib.itoa_length_le (q : Int) (by omega) (by omega)
        rwa [itoa_nat] at this
      have s1 : ∀ W : World, (Op.stringOp .add ⟨(Lib.decDigits q).toArray⟩ ((ByteArray.mk #[48, 49, 50, 51, 52, 53, 54, 55, 56, 57]).extract r (r + 1))).run Tryd.prog W = .ok (.string ⟨(Lib.decDigits u).toArray⟩) W := fun W => by
        rw [dc, e]; exact run_string_add_lists W _ _ (by omega) (by simp)
      have IH := Lib.hid fun W : World => ih q (by omega) (q : Int) (by omega) (by omega) (by omega) W
      rw [itoa_nat] at IH
      have r1 : (r : Int) < 10 := by omega
      have u1 : (u : Int) ≤ 9223372036854775807 := h1
      clear e dc lq hk h1 hq hr ih
      go_enter Tryd.func39, Tryd.ntmps39
      go_wp2_with fail
      refine wp_region_grows (by kernel_rfl) (by kernel_rfl) ?_
      repeat (go_big_quiet_step (first | (go_at_call 39; exact calls_grows (IH.out _))))
      refine wpQuiet_nil ?_
      rintro _ ⟨⟨O5, d5⟩, rfl⟩
      go_wp2_with fail
      go_ret
      exact ⟨rfl, by repeat (first | exact Gr.refl _ | refine Gr.xt _ _ ?_ | refine Gr.alloc _ ?_ | refine Gr.drewN _ ?_)⟩
theorem decimal_all (n : Int) (w : World) (h0 : 0 ≤ n) (h1 : n ≤ 9223372036854775807) : Calls Tryd.prog 39 #[.int .i64 n] w (Grows w (.string ⟨(Lib.itoa n).toArray⟩)) :=
  decimal_any n.toNat n h0 h1 (Nat.le_refl _) w
theorem refFormat_any (n d : Int) (w : World) (hn0 : -9223372036854775808 ≤ n) (hn1 : n ≤ 9223372036854775807) (hd0 : -9223372036854775808 ≤ d) (hd1 : d ≤ 9223372036854775807) :
    Calls Tryd.prog 19 #[.agg #[.int .i64 n, .int .i64 d]] w (Grows w (.string ⟨(fmtL n d).toArray⟩)) := by
  by_cases hv : validB n d = true
  · obtain ⟨v1, v2, v3, v4, v5⟩ := valid_parts hv
    clear v5
    by_cases hd : d = 1
    · subst hd
      go_enter Tryd.func19, Tryd.ntmps19
      go_wp2_with (go_at_call 17; refine (ref_valid_any _ _ _ (by omega) (by omega) (by omega) (by omega)).mono ?_; rintro e w' ⟨rfl, O1, D1, rfl⟩)
      refine (decimal_all _ _ (by omega) (by omega)).mono ?_
      rintro e w' ⟨rfl, O2, D2, rfl⟩
      go_wp2_with fail
      go_ret
      exact ⟨ret_str (by rw [fmtL, if_pos hv, if_pos rfl]), by repeat (first | exact Gr.refl _ | refine Gr.xt _ _ ?_ | refine Gr.alloc _ ?_ | refine Gr.drewN _ ?_)⟩
    · go_enter Tryd.func19, Tryd.ntmps19
      go_wp2_with (go_at_call 17; refine (ref_valid_any _ _ _ (by omega) (by omega) (by omega) (by omega)).mono ?_; rintro e w' ⟨rfl, O1, D1, rfl⟩)
      have l1 := Lib.itoa_length_le n (by omega) (by omega)
      have l2 := Lib.itoa_length_le d (by omega) (by omega)
      have s1 : ∀ W : World, (Op.stringOp .add ⟨(Lib.itoa n).toArray⟩ ⟨#[47]⟩).run Tryd.prog W = .ok (.string ⟨(Lib.itoa n ++ [47]).toArray⟩) W := fun W => run_string_add_lists W _ [47] (by omega) (by simp)
      have s2 : ∀ W : World, (Op.stringOp .add ⟨(Lib.itoa n ++ [47]).toArray⟩ ⟨(Lib.itoa d).toArray⟩).run Tryd.prog W = .ok (.string ⟨((Lib.itoa n ++ [47]) ++ Lib.itoa d).toArray⟩) W := fun W => run_string_add_lists W _ _ (by simp; omega) (by omega)
      refine wp_region_growsx (by kernel_rfl) (by kernel_rfl) ?_
      repeat (go_big_quiet_step (first | (go_at_call 39; exact calls_grows (decimal_all _ _ (by omega) (by omega)))))
      refine wpQuiet_nil ?_
      rintro _ ⟨⟨O5, d5⟩, rfl⟩
      go_wp2_with fail
      go_ret
      exact ⟨ret_str (by rw [fmtL, if_pos hv, if_neg hd]), by repeat (first | exact Gr.refl _ | refine Gr.xt _ _ ?_ | refine Gr.alloc _ ?_ | refine Gr.drewN _ ?_)⟩
  · go_enter Tryd.func19, Tryd.ntmps19
    go_wp2_with (go_at_call 17; refine (ref_valid_any _ _ _ (by omega) (by omega) (by omega) (by omega)).mono ?_; rintro e w' ⟨rfl, O1, D1, rfl⟩)
    go_ret
    exact ⟨by rw [fmtL, if_neg hv]; rfl, by repeat (first | exact Gr.refl _ | refine Gr.xt _ _ ?_ | refine Gr.alloc _ ?_ | refine Gr.drewN _ ?_)⟩
end Go.Proofs.YtdbofdjjecoeeaaDoor
