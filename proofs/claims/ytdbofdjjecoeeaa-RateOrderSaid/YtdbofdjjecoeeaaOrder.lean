/- RateOrder: the walk through the statement. -/
import Derived.Test.YtdbofdjjecoeeaaMade
import Derived.Test.YtdbofdjjecoeeaaNewTape
import Derived.Deep.DeepCutAuto
namespace Go.Proofs.Ytdbofdjjecoeeaa
open Go.RowKit

/-- What the order says of three rates. -/
theorem order_facts (an ad bn bd cn cd : Int) (ha : validB an ad = true) (hb : validB bn bd = true) (hc : validB cn cd = true) :
    cmpV an ad an ad = 0 ∧ cmpV bn bd an ad = -cmpV an ad bn bd ∧ (cmpV an ad bn bd ≤ 0 → cmpV bn bd cn cd ≤ 0 → cmpV an ad cn cd ≤ 0) ∧ (cmpV an ad bn bd = 0 ↔ an = bn ∧ ad = bd) := by
  rw [cmpV_eq _ _ _ _ ha ha, cmpV_eq _ _ _ _ hb ha, cmpV_eq _ _ _ _ ha hb, cmpV_eq _ _ _ _ hb hc, cmpV_eq _ _ _ _ ha hc]
  refine ⟨cmpI_self _, ?_, ?_, ?_⟩
  · exact cmpI_neg _ _
  · rw [cmpI_le, cmpI_le, cmpI_le]
    exact le_trans_rate _ _ _ _ _ _ (valid_parts ha).2.2.1 (valid_parts hb).2.2.1 (valid_parts hc).2.2.1
  · rw [cmpI_zero]
    exact ⟨fun h => eq_of_cross _ _ _ _ ha hb h, fun h => by rw [h.1, h.2]⟩

theorem newE_wide (n d : Int) : 0 ≤ newE n d ∧ newE n d ≤ 2 := by unfold newE; split <;> omega
theorem newND_wide (n d : Int) : 0 ≤ newN n d ∧ newN n d ≤ 144115188075855872 ∧ 0 ≤ newD n d ∧ newD n d ≤ 16777216 := by
  by_cases h : okNew n d = true
  · have := valid_parts (new_ok n d h).1; omega
  · simp [newN, newD, h]
theorem times_wide (n d k : Int) : 0 ≤ tN n d k ∧ tN n d k ≤ 144115188075855872 ∧ 0 ≤ tD n d k ∧ tD n d k ≤ 16777216 := by
  unfold tN tD
  by_cases h : okFac n d k = true
  · simp only [h, if_true]; exact newND_wide _ _
  · simp only [h]; simp

set_option maxRecDepth 100000 in
set_option maxHeartbeats 4000000 in
theorem order_walk (a : Option Addr) (len cap : Nat) (zs : List Int) (w : World) (h : RowIn w a len cap zs) :
    Calls Try.prog 3 #[.slice a len cap] w (Grows w (.bool true)) := by
  have H := Lib.hid h
  clear h
  go_enter Try.func3, Try.ntmps3
  go_wp2_with fail
  refine (newTape_any w a len cap zs H.out).mono ?_
  rintro e w1 ⟨b, n, rfl, T, hg, hb, _⟩
  have HT := Lib.hid T
  have hHas := T.has
  have HG := Lib.hid hg
  clear T hg
  go_wp2_with fail
  refine (made_any _ b n 0 HT.out).mono ?_
  rintro e w' ⟨an, ad, p1, rfl, va, q10, q11, O1, d1, rfl⟩
  have Va := Lib.hid va
  obtain ⟨a1, a2, a3, a4, _⟩ := valid_parts va
  clear va
  go_wp2_with fail
  refine (made_any _ b n p1 (by repeat (first | with_reducible refine Tape.xt _ _ ?_ | with_reducible refine Tape.alloc _ ?_ | exact HT.out.set (by assumption) (by assumption)))).mono ?_
  rintro e w' ⟨bn, bd, p2, rfl, vb, q20, q21, O2, d2, rfl⟩
  have Vb := Lib.hid vb
  obtain ⟨b1, b2, b3, b4, _⟩ := valid_parts vb
  clear vb
  go_wp2_with fail
  refine (made_any _ b n p2 (by repeat (first | with_reducible refine Tape.xt _ _ ?_ | with_reducible refine Tape.alloc _ ?_ | exact HT.out.set (by assumption) (by assumption)))).mono ?_
  rintro e w' ⟨cn, cd, p3, rfl, vc, q30, q31, O3, d3, rfl⟩
  have Vc := Lib.hid vc
  obtain ⟨c1, c2, c3, c4, _⟩ := valid_parts vc
  clear vc
  go_wp2_with fail
  refine (n_any _ b n p3 _ (by repeat (first | with_reducible refine Tape.xt _ _ ?_ | with_reducible refine Tape.alloc _ ?_ | exact HT.out.set (by assumption) (by assumption))) (by omega) (by omega)).mono ?_
  rintro e w' ⟨x4, p4, rfl, ⟨x4l, x4h⟩, q40, q41, O4, d4, rfl⟩
  go_upto_if 28 with fail
  go_cut [] (fun wx => ∃ bn bd O d, validB bn bd = true ∧ wx = xt ((((xt (w1.setCell ⟨b, 1, none⟩ (.int .i64 p4)) (O1 ++ (O2 ++ O3)) d3).alloc (.cells #[.int .i64 an, .int .i64 ad] 26)).alloc
      (.cells #[.int .i64 bn, .int .i64 bd] 26)).alloc (.cells #[.int .i64 cn, .int .i64 cd] 26)) O d)
  case first =>
    by_cases hx : x4 = 0
    · have hx' : (x4 == 0) = true := by simp [hx]
      clear hx
      by_cases hm : 1 < ad / 2
      · go_wp2_with fail
        refine (ref_new_any _ _ _ (by omega) (by omega) (by omega) (by omega)).mono ?_
        rintro e w' ⟨rfl, O5, d5, rfl⟩
        have V := (new_ok (an / 2) (ad / 2) (okNew_of _ _ (by omega) (by omega) (by omega) (by omega))).1
        have HV := Lib.hid V
        clear V
        go_wp2_with fail
        go_meet
        exact ⟨_, _, _, _, HV.out, rfl⟩
      · go_wp2_with fail
        all_goals refine (ref_new_any _ _ _ (by omega) (by omega) (by omega) (by omega)).mono ?_
        all_goals rintro e w' ⟨rfl, O5, d5, rfl⟩
        all_goals have V := (new_ok (an / 2) 1 (okNew_of _ _ (by omega) (by omega) (by omega) (by omega))).1
        all_goals have HV := Lib.hid V
        all_goals clear V
        all_goals go_wp2_with fail
        all_goals go_meet
        all_goals exact ⟨_, _, _, _, HV.out, rfl⟩
    · have hx' : (x4 == 0) = false := by simp [hx]
      clear hx
      go_wp2_with fail
      go_meet
      exact ⟨_, _, _, _, Vb.out, rfl⟩
  case rest =>
    clear Vb b1 b2 b3 b4
    obtain ⟨bn, bd, O5, d5, vb, rfl⟩ := hcut
    have Vb := Lib.hid vb
    obtain ⟨b1, b2, b3, b4, _⟩ := valid_parts vb
    clear vb
    have F := order_facts an ad bn bd cn cd Va.out Vb.out Vc.out
    obtain ⟨f1, f2, f3, f4⟩ := F
    have wx := cmpV_wide an ad bn bd
    have wy := cmpV_wide bn bd cn cd
    have wz := cmpV_wide an ad cn cd
    obtain ⟨x, hx⟩ : ∃ x, cmpV an ad bn bd = x := ⟨_, rfl⟩
    obtain ⟨y, hy⟩ : ∃ y, cmpV bn bd cn cd = y := ⟨_, rfl⟩
    obtain ⟨z, hz⟩ : ∃ z, cmpV an ad cn cd = z := ⟨_, rfl⟩
    rw [hx] at f2 f3 f4 wx
    rw [hy] at f3 wy
    rw [hz] at f3 wz
    have F3 := Lib.hid f3
    have F4 := Lib.hid f4
    clear f3 f4
    go_upto_region 5 with fail
    go_cut [81] (fun s81 wx => s81 = .bool false ∧ ∃ O d, wx = xt ((((xt (w1.setCell ⟨b, 1, none⟩ (.int .i64 p4)) (O1 ++ (O2 ++ O3)) d3).alloc (.cells #[.int .i64 an, .int .i64 ad] 26)).alloc
        (.cells #[.int .i64 bn, .int .i64 bd] 26)).alloc (.cells #[.int .i64 cn, .int .i64 cd] 26)) O d)
    case first =>
      obtain ⟨B, hx0, hE⟩ : ∃ B : Bool, (x == 0) = B ∧ (an == bn && ad == bd) = B := by
        by_cases hE : an = bn ∧ ad = bd
        · exact ⟨true, by simp [F4.out.2 hE], by simp [hE.1, hE.2]⟩
        · exact ⟨false, by simp; exact fun h => hE (F4.out.1 h), by simp; exact fun h k => hE ⟨h, k⟩⟩
      have hq := eql_rate an ad bn bd
      by_cases hX : x ≤ 0
      · by_cases hY : y ≤ 0
        · have hZ : ¬ 0 < z := by have := F3.out hX hY; omega
          refine wp_region_growsx (by kernel_rfl) (by kernel_rfl) ?_
          repeat (go_big_quiet_step ((go_at_call 9; exact calls_grows (compare_any _ _ _ _ _ (by omega) (by omega) (by omega) (by omega) (by omega) (by omega) (by omega) (by omega)))))
          refine wpQuiet_nil ?_
          rintro _ ⟨⟨O7, d7⟩, rfl⟩
          go_wp2_with fail
          go_meet
          exact ⟨rfl, _, _, rfl⟩
        · refine wp_region_growsx (by kernel_rfl) (by kernel_rfl) ?_
          repeat (go_big_quiet_step ((go_at_call 9; exact calls_grows (compare_any _ _ _ _ _ (by omega) (by omega) (by omega) (by omega) (by omega) (by omega) (by omega) (by omega)))))
          refine wpQuiet_nil ?_
          rintro _ ⟨⟨O7, d7⟩, rfl⟩
          go_wp2_with fail
          go_meet
          exact ⟨rfl, _, _, rfl⟩
      · refine wp_region_growsx (by kernel_rfl) (by kernel_rfl) ?_
        repeat (go_big_quiet_step ((go_at_call 9; exact calls_grows (compare_any _ _ _ _ _ (by omega) (by omega) (by omega) (by omega) (by omega) (by omega) (by omega) (by omega)))))
        refine wpQuiet_nil ?_
        rintro _ ⟨⟨O7, d7⟩, rfl⟩
        go_wp2_with fail
        go_meet
        exact ⟨rfl, _, _, rfl⟩
    case rest =>
      obtain ⟨rfl, O6, d6, rfl⟩ := hcut
      clear F3 F4 f1 f2 hx hy hz wx wy wz
      go_wp2_with fail
      refine (range_any _ b n p4 _ _ (by repeat (first | with_reducible refine Tape.xt _ _ ?_ | with_reducible refine Tape.alloc _ ?_ | exact HT.out.set (by assumption) (by assumption))) (by omega) (by omega) (by omega)).mono ?_
      rintro e w' ⟨k, p8, rfl, ⟨k0, k1⟩, q80, q81, O8, d8, rfl⟩
      go_wp2_with fail
      refine (times_any _ _ _ _ (by omega) (by omega) (by omega) (by omega)).mono ?_
      have B1 := times_wide an ad k
      have OK1 := times_ok an ad k
      have B2 := times_wide bn bd k
      have OR := times_order an ad bn bd k
      obtain ⟨xn, hxn⟩ : ∃ xn, tN an ad k = xn := ⟨_, rfl⟩
      obtain ⟨xd, hxd⟩ : ∃ xd, tD an ad k = xd := ⟨_, rfl⟩
      obtain ⟨xe, hxe⟩ : ∃ xe, tE an ad k = xe := ⟨_, rfl⟩
      obtain ⟨yn, hyn⟩ : ∃ yn, tN bn bd k = yn := ⟨_, rfl⟩
      obtain ⟨yd, hyd⟩ : ∃ yd, tD bn bd k = yd := ⟨_, rfl⟩
      obtain ⟨ye, hye⟩ : ∃ ye, tE bn bd k = ye := ⟨_, rfl⟩
      rw [hxn, hxd] at B1
      rw [hyn, hyd] at B2
      rw [hxn, hxd, hxe, hyn, hyd, hye] at OR
      rw [hxn, hxd, hxe]
      obtain ⟨x1, x2, x3, x4⟩ := B1
      obtain ⟨y1, y2, y3, y4⟩ := B2
      have ORH := Lib.hid OR
      have HY := Lib.hid (And.intro hyn (And.intro hyd hye))
      clear OR OK1 hxn hxd hxe hyn hyd hye
      rintro e w' ⟨rfl, O9, d9, rfl⟩
      go_wp2_with fail
      refine (times_any _ _ _ _ (by omega) (by omega) (by omega) (by omega)).mono ?_
      rw [HY.out.1, HY.out.2.1, HY.out.2.2]
      rintro e w' ⟨rfl, O10, d10, rfl⟩
      go_upto_region 10 with fail
      go_cut [110] (fun s110 wx => s110 = .bool false ∧ ∃ O d, wx = xt ((xt ((xt ((((xt (w1.setCell ⟨b, 1, none⟩ (.int .i64 p8)) (O1 ++ (O2 ++ O3)) d3).alloc (.cells #[.int .i64 an, .int .i64 ad] 26)).alloc
        (.cells #[.int .i64 bn, .int .i64 bd] 26)).alloc (.cells #[.int .i64 cn, .int .i64 cd] 26)) (O6 ++ (O8 ++ O9)) d9).alloc (.cells #[.int .i64 xn, .int .i64 xd] 26)) O10 d10).alloc (.cells #[.int .i64 yn, .int .i64 yd] 26)) O d)
      case first =>
        by_cases hxe : xe = 0
        · subst hxe
          by_cases hye : ye = 0
          · subst hye
            have OR := ORH.out rfl rfl
            refine wp_region_grows (by kernel_rfl) (by kernel_rfl) ?_
            repeat (go_big_quiet_step ((go_at_call 9; exact calls_grows (compare_any _ _ _ _ _ (by omega) (by omega) (by omega) (by omega) (by omega) (by omega) (by omega) (by omega)))))
            refine wpQuiet_nil ?_
            rintro _ ⟨⟨O11, d11⟩, rfl⟩
            go_wp2_with fail
            go_meet
            exact ⟨rfl, _, _, rfl⟩
          · have hyb : (ye == 0) = false := by simp [hye]
            refine wp_region_grows (by kernel_rfl) (by kernel_rfl) ?_
            repeat (go_big_quiet_step (fail))
            refine wpQuiet_nil ?_
            rintro _ ⟨⟨O11, d11⟩, rfl⟩
            go_wp2_with fail
            go_meet
            exact ⟨rfl, _, _, rfl⟩
        · have hxb : (xe == 0) = false := by simp [hxe]
          refine wp_region_grows (by kernel_rfl) (by kernel_rfl) ?_
          repeat (go_big_quiet_step (fail))
          refine wpQuiet_nil ?_
          rintro _ ⟨⟨O11, d11⟩, rfl⟩
          go_wp2_with fail
          go_meet
          exact ⟨rfl, _, _, rfl⟩
      case rest =>
        obtain ⟨rfl, O11, d11, rfl⟩ := hcut
        clear ORH HY x1 x2 x3 x4 y1 y2 y3 y4
        go_wp2_with fail
        refine (range_any _ b n p8 _ _ (by repeat (first | with_reducible refine Tape.xt _ _ ?_ | with_reducible refine Tape.alloc _ ?_ | exact HT.out.set (by assumption) (by assumption))) (by omega) (by omega) (by omega)).mono ?_
        rintro e w' ⟨lo, p12, rfl, ⟨l0, l1⟩, q120, q121, O12, d12, rfl⟩
        go_wp2_with fail
        refine (range_any _ b n p12 _ _ (by repeat (first | with_reducible refine Tape.xt _ _ ?_ | with_reducible refine Tape.alloc _ ?_ | exact HT.out.set (by assumption) (by assumption))) (by omega) (by omega) (by omega)).mono ?_
        rintro e w' ⟨hi, p13, rfl, ⟨g0, g1⟩, q130, q131, O13, d13, rfl⟩
        go_wp2_with fail
        refine (new_any _ _ _ (by omega) (by omega) (by omega) (by omega)).mono ?_
        have N1 := new_one lo (by omega) (by omega)
        rw [N1.1, N1.2.1, N1.2.2]
        clear N1
        rintro e w' ⟨rfl, O14, d14, rfl⟩
        go_wp2_with fail
        refine (new_any _ _ _ (by omega) (by omega) (by omega) (by omega)).mono ?_
        have N1 := new_one hi (by omega) (by omega)
        rw [N1.1, N1.2.1, N1.2.2]
        clear N1
        rintro e w' ⟨rfl, O15, d15, rfl⟩
        have WC := within_compare an ad lo hi Va.out l0 l1 g0 g1
        by_cases hU : 0 ≤ cmpV an ad lo 1
        · rw [decide_eq_true hU, Bool.true_and] at WC
          go_wp2_with fail
          refine wp_region_grows (by kernel_rfl) (by kernel_rfl) ?_
          repeat (go_big_quiet_step (first | (go_at_call 9; exact calls_grows (compare_any _ _ _ _ _ (by omega) (by omega) (by omega) (by omega) (by omega) (by omega) (by omega) (by omega))) | (go_at_call 13; exact calls_grows (within_any _ _ _ _ _ (by omega) (by omega) (by omega) (by omega))) | (go_at_call 14; exact calls_grows (awake_any _))))
          refine wpQuiet_nil ?_
          rintro _ ⟨⟨O16, d16⟩, rfl⟩
          go_wp2_with fail
          go_ret
          exact ⟨rfl, by repeat (first | with_reducible exact HG.out | with_reducible refine Gr.setCell hb _ ?_ | with_reducible refine Gr.xt _ _ ?_ | with_reducible refine Gr.alloc _ ?_)⟩
        · rw [decide_eq_false hU, Bool.false_and] at WC
          have hUb := decide_eq_false hU
          clear hU
          go_wp2_with fail
          refine wp_region_grows (by kernel_rfl) (by kernel_rfl) ?_
          repeat (go_big_quiet_step (first | (go_at_call 9; exact calls_grows (compare_any _ _ _ _ _ (by omega) (by omega) (by omega) (by omega) (by omega) (by omega) (by omega) (by omega))) | (go_at_call 13; exact calls_grows (within_any _ _ _ _ _ (by omega) (by omega) (by omega) (by omega))) | (go_at_call 14; exact calls_grows (awake_any _))))
          refine wpQuiet_nil ?_
          rintro _ ⟨⟨O16, d16⟩, rfl⟩
          go_wp2_with fail
          go_ret
          exact ⟨rfl, by repeat (first | with_reducible exact HG.out | with_reducible refine Gr.setCell hb _ ?_ | with_reducible refine Gr.xt _ _ ?_ | with_reducible refine Gr.alloc _ ?_)⟩
end Go.Proofs.Ytdbofdjjecoeeaa
