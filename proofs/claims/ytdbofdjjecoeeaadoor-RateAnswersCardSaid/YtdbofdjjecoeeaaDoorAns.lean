/- The walk of RateAnswers (printed by wip/tools/ans2.py). -/
import Derived.Test.YtdbofdjjecoeeaaDoorAnR6
import Derived.Test.YtdbofdjjecoeeaaDoorAnL2
import Derived.Test.YtdbofdjjecoeeaaDoorAnL4
import Derived.Test.YtdbofdjjecoeeaaDoorAnL6
import Derived.Test.YtdbofdjjecoeeaaDoorAnL8
import Derived.Test.YtdbofdjjecoeeaaDoorAnR22
import Derived.Test.YtdbofdjjecoeeaaDoorAnR28
set_option linter.unusedVariables false
set_option linter.unusedSimpArgs false
namespace Go.Proofs.YtdbofdjjecoeeaaDoor
open Go.RowKit
set_option maxRecDepth 100000 in
set_option maxHeartbeats 16000000 in
theorem answers_walk (a : Option Addr) (len cap : Nat) (zs : List Int) (r0 r1 nu de k : Int) (l : List UInt8) (w : World) (h : RowIn w a len cap zs) (hl : Libs w)
    (hr0 : Wide r0) (hr1 : Wide r1) (hnu : Wide nu) (hde : Wide de) (hk : Wide k) :
    Calls Tryd.prog 5 #[.slice a len cap, .agg #[.int .i64 r0, .int .i64 r1], .int .i64 nu, .int .i64 de, .int .i64 k, .string ⟨l.toArray⟩] w (Grows w (.bool true)) := by
  have H := Lib.hid h
  have HL := Lib.hid hl
  clear h hl
  unfold Wide at hr0 hr1 hnu hde hk
  obtain ⟨r00, r01⟩ := hr0
  obtain ⟨r10, r11⟩ := hr1
  obtain ⟨nu0, nu1⟩ := hnu
  obtain ⟨de0, de1⟩ := hde
  obtain ⟨kk0, kk1⟩ := hk
  by_cases hbig : 200 < l.length
  · have q1 : decide ((200 : Int) < l.length) = true := by simp; omega
    have q2 : decide (200 < l.length) = true := by simpa using hbig
    go_enter Tryd.func5, Tryd.ntmps5
    go_wp2_with fail
    refine (awake_any _).mono ?_
    rintro e W3 ⟨rfl, O1, D1, rfl⟩
    go_wp2_with fail
    go_ret
    exact ⟨rfl, (by repeat (first | with_reducible exact Gr.refl _ | with_reducible refine Gr.drew ?_ | with_reducible refine Gr.drewN _ ?_ | with_reducible refine Gr.xt _ _ ?_ | with_reducible refine Gr.alloc _ ?_))⟩
  have q1 : decide ((200 : Int) < l.length) = false := by simp; omega
  have q2 : decide (200 < l.length) = false := by simpa using hbig
  have hll : l.length ≤ 200 := by omega
  clear hbig
  go_enter Tryd.func5, Tryd.ntmps5
  go_wp2_with fail
  clear q1 q2
  obtain ⟨Wa, hWa⟩ : ∃ Wa : World, Hid (Wa = w.alloc (.cells #[.int .i64 r0, .int .i64 r1] 27)) := ⟨_, Lib.hid rfl⟩
  have Ga : Hid (Gr w Wa) := Lib.hid (by rw [hWa.out]; exact (Gr.refl _).alloc _)
  have Ra : Hid (Row Wa w.heap.size 27 [.int .i64 r0, .int .i64 r1]) := Lib.hid (by rw [hWa.out]; exact Row.new w _ _)
  rw [← hWa.out]
  clear hWa
  refine (newTape_any Wa a len cap zs (H.out.gr Ga.out)).mono ?_
  rintro e W0 ⟨b, nn, rfl, ht, hg, hb, _⟩
  have T0 : Hid (Tp W0 b nn) := Lib.hid ⟨_, ht⟩
  have G0 := Lib.hid (Ga.out.trans hg)
  have R0 := Lib.hid (Ra.out.gr hg)
  have wb : Hid (w.heap.size < b) := Lib.hid (Nat.lt_of_lt_of_le Ra.out.has hb)
  have bs : Hid (b < W0.heap.size) := Lib.hid T0.out.has
  clear ht hg hb Ra Ga
  go_wp2_with fail
  refine (madeM_any W0 b nn T0.out).mono ?_
  rintro e W1 ⟨an, ad, rfl, va, hm⟩
  have VA := Lib.hid va
  obtain ⟨an0, an1, ad0, ad1, -⟩ := valid_parts va
  have M1 : Hid (Mv b nn W0 W1) := Lib.hid hm
  have T1 := Lib.hid (hm.tp T0.out)
  clear hm va
  go_wp2_with fail
  refine (madeM_any W1 b nn T1.out).mono ?_
  rintro e W2 ⟨bn, bd, rfl, vb, hm⟩
  obtain ⟨bn0, bn1, bd0, bd1, -⟩ := valid_parts vb
  have M2 : Hid (Mv b nn W0 W2) := Lib.hid (M1.out.trans bs.out hm)
  have T2 := Lib.hid (hm.tp T1.out)
  have G2 := Lib.hid (Mv.out G0.out M2.out (Nat.le_of_lt wb.out))
  have R2 := Lib.hid (M2.out.row R0.out (by have := wb.out; omega))
  have bs2 : Hid (b < W2.heap.size) := Lib.hid T2.out.has
  have wb2 : Hid (w.heap.size < W2.heap.size) := Lib.hid (Nat.lt_trans wb.out bs2.out)
  clear hm vb M1 T1 M2 T0 R0 G0
  go_wp2_with fail
  obtain ⟨W3, hW3⟩ : ∃ W3 : World, Hid (W3 = ((W2.alloc (.cells #[.int .i64 an, .int .i64 ad] 27)).alloc (.cells #[.int .i64 bn, .int .i64 bd] 27)).alloc (.cells #[.int .i64 an, .int .i64 ad] 27)) := ⟨_, Lib.hid rfl⟩
  rw [← hW3.out]
  have A3 : Hid (Row W3 W2.heap.size 27 [.int .i64 an, .int .i64 ad]) := Lib.hid (by rw [hW3.out]; exact Row.alloc _ (Row.alloc _ (Row.new W2 _ _)))
  have B3 : Hid (Row W3 (W2.heap.size + 1) 27 [.int .i64 bn, .int .i64 bd]) := Lib.hid (by
    have q := Row.new (W2.alloc (.cells #[.int .i64 an, .int .i64 ad] 27)) #[.int .i64 bn, .int .i64 bd] 27
    rw [World.size_alloc] at q
    rw [hW3.out]; exact Row.alloc _ q)
  have C3 : Hid (Row W3 (W2.heap.size + 1 + 1) 27 [.int .i64 an, .int .i64 ad]) := Lib.hid (by
    have q := Row.new ((W2.alloc (.cells #[.int .i64 an, .int .i64 ad] 27)).alloc (.cells #[.int .i64 bn, .int .i64 bd] 27)) #[.int .i64 an, .int .i64 ad] 27
    rw [World.size_alloc, World.size_alloc] at q
    rw [hW3.out]; exact q)
  have R3 : Hid (Row W3 w.heap.size 27 [.int .i64 r0, .int .i64 r1]) := Lib.hid (by rw [hW3.out]; exact Row.alloc _ (Row.alloc _ (Row.alloc _ R2.out)))
  have M3 : Hid (Mv b nn W2 W3) := Lib.hid (by rw [hW3.out]; exact Mv.of_gr T2.out ((((Gr.refl _).alloc _).alloc _).alloc _))
  clear hW3 R2
  obtain ⟨sz, hsz⟩ : ∃ sz : Nat, Hid (W2.heap.size = sz) := ⟨_, Lib.hid rfl⟩
  rw [hsz.out] at A3 B3 C3 bs2 wb2 ⊢
  have z0 := C3.out.cell 0 (by simp)
  have z1 := C3.out.cell 1 (by simp)
  have zf := C3.out.free 1
  have zh := C3.out.has
  simp only [List.getElem_cons_zero, List.getElem_cons_succ] at z0 z1
  go_cut [] (fun wx => ∃ y : Int, 0 ≤ y ∧ y ≤ 2 ∧ Row wx sz 27 [.int .i64 an, .int .i64 ad] ∧ Row wx (sz + 1) 27 [.int .i64 bn, .int .i64 bd] ∧ Row wx (sz + 1 + 1) 27 [.int .i64 an, .int .i64 (ad + y)] ∧ Row wx w.heap.size 27 [.int .i64 r0, .int .i64 r1] ∧ Mv b nn W2 wx)
  case first =>
    refine wp_code_eq (c := Code.region 6 (regIn 6 Tryd.f5) true) (by kernel_rfl) (wp_then_of (ans_r6 M3 T2 hsz bs2 wb wb2 A3 B3 C3 R3 (by omega) (by omega) ?_))
    intro t54 t55 t56 t57 t58 t59 y wx y0 y1 q1 q2 q3 q4 hm
    go_wp2_with fail
    go_meet
    exact ⟨y, y0, y1, q1, q2, q3, q4, hm⟩
  obtain ⟨y, y0, y1, hA, hB, hC, hR, hm⟩ := hcut
  obtain ⟨WC, rfl⟩ : ∃ WC : World, WC = wc := ⟨_, rfl⟩
  have A5 := Lib.hid hA
  have B5 := Lib.hid hB
  have M5 := Lib.hid hm
  have T5 := Lib.hid (hm.tp T2.out)
  have G5 := Lib.hid (Mv.out G2.out hm (Nat.le_of_lt wb.out))
  have u0 := hR.cell 0 (by simp)
  have u1 := hR.cell 1 (by simp)
  have u2 := hA.cell 0 (by simp)
  have u3 := hA.cell 1 (by simp)
  have u4 := hC.cell 0 (by simp)
  have u5 := hC.cell 1 (by simp)
  have v0 := hR.has
  have v1 := hA.has
  have v2 := hC.has
  simp only [List.getElem_cons_zero, List.getElem_cons_succ] at u0 u1 u2 u3 u4 u5
  clear hA hB hC hR hm z0 z1 zf zh A3 B3 C3 R3 M3
  go_wp2_with fail
  clear u0 u1 u2 u3 u4 u5 v0 v1 v2
  obtain ⟨WL, hWL⟩ : ∃ WL : World, Hid (WL = WC.alloc (.cells #[.int .i64 r0, .int .i64 r1, .int .i64 an, .int .i64 ad, .int .i64 an, .int .i64 (ad + y), .int .i64 0, .int .i64 0] 27)) := ⟨_, Lib.hid rfl⟩
  rw [← hWL.out]
  obtain ⟨bl, hbl⟩ : ∃ bl : Nat, Hid (WC.heap.size = bl) := ⟨_, Lib.hid rfl⟩
  rw [hbl.out]
  have X8 : Hid (Row WL bl 27 [.int .i64 r0, .int .i64 r1, .int .i64 an, .int .i64 ad, .int .i64 an, .int .i64 (ad + y), .int .i64 0, .int .i64 0]) := Lib.hid (by rw [hWL.out, ← hbl.out]; exact Row.new WC _ _)
  have A6 : Hid (Row WL sz 27 [.int .i64 an, .int .i64 ad]) := Lib.hid (by rw [hWL.out]; exact Row.alloc _ A5.out)
  have B6 : Hid (Row WL (sz + 1) 27 [.int .i64 bn, .int .i64 bd]) := Lib.hid (by rw [hWL.out]; exact Row.alloc _ B5.out)
  have TL : Hid (Tp WL b nn) := Lib.hid (by rw [hWL.out]; exact T5.out.gr ((Gr.refl _).alloc _))
  have GL : Hid (Gr w WL) := Lib.hid (by rw [hWL.out]; exact G5.out.alloc _)
  have sb : Hid (sz < bl) := Lib.hid (by have := A5.out.has; rw [← hbl.out]; exact this)
  have bL : Hid (b < WL.heap.size) := Lib.hid TL.out.has
  have KX : Hid (∀ W', Mv b nn WL W' → Row W' bl 27 [.int .i64 r0, .int .i64 r1, .int .i64 an, .int .i64 ad, .int .i64 an, .int .i64 (ad + y), .int .i64 0, .int .i64 0]) := Lib.hid fun W' M => M.row X8.out (by have := bs2.out; have := sb.out; omega)
  have KA : Hid (∀ W', Mv b nn WL W' → Row W' sz 27 [.int .i64 an, .int .i64 ad]) := Lib.hid fun W' M => M.row A6.out (by have := bs2.out; omega)
  have KB : Hid (∀ W', Mv b nn WL W' → Row W' (sz + 1) 27 [.int .i64 bn, .int .i64 bd]) := Lib.hid fun W' M => M.row B6.out (by have := bs2.out; omega)
  have KG : Hid (∀ W', Mv b nn WL W' → Gr w W') := Lib.hid fun W' M => Mv.out GL.out M (Nat.le_of_lt wb.out)
  clear hWL hbl A5 B5 T5 G5 M5 A6 B6 X8 GL G2 T2
  go_loopw [66] (fun i wr => ∃ j : Nat, j ≤ 4 ∧ i = .int .i64 j ∧ Mv b nn WL wr) (fun i _ => 4 - (intOf i).toNat)
  case atStart => exact ⟨0, Nat.zero_le _, rfl, Mv.refl TL.out⟩
  case round =>
    obtain ⟨j, hj, rfl, hm⟩ := hrel
    have M := Lib.hid hm
    clear hm
    by_cases hlt : j < 4
    · have j1 : (j : Int) < 4 := by omega
      obtain ⟨xn, xd, x0, x1, xn0, xn1, xd0, xd1⟩ : ∃ xn xd : Int, wr.cell? ⟨bl, j * 2, none⟩ = some (.int .i64 xn) ∧ wr.cell? ⟨bl, j * 2 + 1, none⟩ = some (.int .i64 xd) ∧ -9223372036854775808 ≤ xn ∧ xn ≤ 9223372036854775807 ∧ -9223372036854775808 ≤ xd ∧ xd ≤ 9223372036854775807 := by
        have q := KX.out _ M.out
        obtain rfl | rfl | rfl | rfl : j = 0 ∨ j = 1 ∨ j = 2 ∨ j = 3 := by omega
        · exact ⟨_, _, q.cell 0 (by simp), q.cell 1 (by simp), by omega, by omega, by omega, by omega⟩
        · exact ⟨_, _, q.cell 2 (by simp), q.cell 3 (by simp), by omega, by omega, by omega, by omega⟩
        · exact ⟨_, _, q.cell 4 (by simp), q.cell 5 (by simp), by omega, by omega, by omega, by omega⟩
        · exact ⟨_, _, q.cell 6 (by simp), q.cell 7 (by simp), by omega, by omega, by omega, by omega⟩
      have xh := has_of_cell x0
      obtain ⟨wo, rfl⟩ : ∃ wo : World, wo = wr := ⟨_, rfl⟩
      go_wp2_with fail
      clear x0 x1 xh
      obtain ⟨W9, hW9⟩ : ∃ W9 : World, Hid (W9 = wo.alloc (.cells #[.int .i64 xn, .int .i64 xd] 27)) := ⟨_, Lib.hid rfl⟩
      rw [← hW9.out]
      obtain ⟨bx, hbx⟩ : ∃ bx : Nat, Hid (wo.heap.size = bx) := ⟨_, Lib.hid rfl⟩
      rw [hbx.out]
      have X9 : Hid (Row W9 bx 27 [.int .i64 xn, .int .i64 xd]) := Lib.hid (by rw [hW9.out, ← hbx.out]; exact Row.new wo _ _)
      have M9 : Hid (Mv b nn WL W9) := Lib.hid (by rw [hW9.out]; exact M.out.alloc _)
      have bxb : Hid (b < bx ∧ sz < bx) := Lib.hid (by rw [← hbx.out]; exact ⟨(M.out.tp TL.out).has, (KA.out _ M.out).has⟩)
      have T9 := Lib.hid (M9.out.tp TL.out)
      clear hW9 hbx M
      have u0 := X9.out.cell 0 (by simp)
      have u1 := X9.out.cell 1 (by simp)
      have u2 := (KA.out _ M9.out).cell 0 (by simp)
      have u3 := (KA.out _ M9.out).cell 1 (by simp)
      have u4 := (KB.out _ M9.out).cell 0 (by simp)
      have u5 := (KB.out _ M9.out).cell 1 (by simp)
      have v0 := X9.out.has
      have v1 := (KA.out _ M9.out).has
      have v2 := (KB.out _ M9.out).has
      simp only [List.getElem_cons_zero, List.getElem_cons_succ] at u0 u1 u2 u3 u4 u5
      refine wp_region_grows (by kernel_rfl) (by kernel_rfl) ?_
      repeat (go_big_quiet_step (first | (go_at_call 16; exact calls_grows (valid_any _ _ _ (by omega) (by omega) (by omega) (by omega))) | (go_at_call 17; exact calls_grows (ref_valid_any _ _ _ (by omega) (by omega) (by omega) (by omega))) | (go_at_call 8; exact calls_grows (floor_any _ _ _ (by omega) (by omega) (by omega) (by omega))) | (go_at_call 18; exact calls_grows (refFloor_any _ _ _ (by omega) (by omega) (by omega) (by omega))) | (go_at_call 10; exact calls_grows (format_any _ _ _ (by omega) (by omega) (by omega) (by omega) (HL.out.1.gr ((KG.out _ M9.out).trans (by repeat (first | with_reducible exact Gr.refl _ | with_reducible refine Gr.drew ?_ | with_reducible refine Gr.drewN _ ?_ | with_reducible refine Gr.xt _ _ ?_ | with_reducible refine Gr.alloc _ ?_)))))) | (go_at_call 19; exact calls_grows (refFormat_any _ _ _ (by omega) (by omega) (by omega) (by omega))) | (go_at_call 20; exact calls_grows (compare_any _ _ _ _ _ (by omega) (by omega) (by omega) (by omega) (by omega) (by omega) (by omega) (by omega))) | (go_at_call 21; exact calls_grows (refCompare_any _ _ _ _ _ (by omega) (by omega) (by omega) (by omega) (by omega) (by omega) (by omega) (by omega)))))
      refine wpQuiet_nil ?_
      rintro _ ⟨⟨O1, D1⟩, rfl⟩
      clear u0 u1 u2 u3 u4 u5 v0 v1 v2
      obtain ⟨W10, hW10⟩ : ∃ W10 : World, Hid (W10 = xt W9 O1 D1) := ⟨_, Lib.hid rfl⟩
      rw [← hW10.out]
      have G10 : Hid (Gr W9 W10) := Lib.hid ⟨_, _, hW10.out⟩
      have M10 := Lib.hid (M9.out.gr G10.out)
      have X10 := Lib.hid (X9.out.gr G10.out)
      have T10 := Lib.hid (M10.out.tp TL.out)
      clear hW10
      go_wp2_with fail
      refine (rangeM_any _ b nn 0 66 T10.out (by omega) (by omega) (by omega)).mono ?_
      rintro e W11 ⟨z, rfl, hz, hm⟩
      obtain ⟨z0, z1⟩ := hz
      have M11 := Lib.hid (M10.out.trans bL.out hm)
      have X11 := Lib.hid (hm.row X10.out (by have := bxb.out.1; omega))
      have T11 := Lib.hid (M11.out.tp TL.out)
      clear hm M10 X10 T10 G10 M9 X9 T9
      go_wp2_with fail
      obtain ⟨W12, hW12⟩ : ∃ W12 : World, Hid (W12 = W11.alloc (.cells #[.int .i64 k, .int .i64 z] 3)) := ⟨_, Lib.hid rfl⟩
      rw [← hW12.out]
      obtain ⟨bk, hbk⟩ : ∃ bk : Nat, Hid (W11.heap.size = bk) := ⟨_, Lib.hid rfl⟩
      rw [hbk.out]
      have Y12 : Hid (Row W12 bk 3 [.int .i64 k, .int .i64 z]) := Lib.hid (by rw [hW12.out, ← hbk.out]; exact Row.new W11 _ _)
      have X12 : Hid (Row W12 bx 27 [.int .i64 xn, .int .i64 xd]) := Lib.hid (by rw [hW12.out]; exact Row.alloc _ X11.out)
      have M12 : Hid (Mv b nn WL W12) := Lib.hid (by rw [hW12.out]; exact M11.out.alloc _)
      have bkb : Hid (b < bk) := Lib.hid (by rw [← hbk.out]; exact T11.out.has)
      have T12 := Lib.hid (M12.out.tp TL.out)
      have b12 : Hid (b < W12.heap.size) := Lib.hid T12.out.has
      have KX2 : Hid (∀ W', Mv b nn W12 W' → Row W' bx 27 [.int .i64 xn, .int .i64 xd]) := Lib.hid fun W' M => M.row X12.out (by have := bxb.out.1; omega)
      have KY2 : Hid (∀ W', Mv b nn W12 W' → Row W' bk 3 [.int .i64 k, .int .i64 z]) := Lib.hid fun W' M => M.row Y12.out (by have := bkb.out; omega)
      have KM2 : Hid (∀ W', Mv b nn W12 W' → Mv b nn WL W') := Lib.hid fun W' M => M12.out.trans bL.out M
      clear hW12 hbk Y12 X12 M11 X11 T11 M12
      refine wp_code_eq (c := codeIn 2 Tryd.f5) (by kernel_rfl) (ans_l2 T12 KX2 KY2 (by omega) (by omega) (by omega) (by omega) ?_)
      intro t12 t20 t21 t22 t23 t24 t25 t26 t27 t28 t113 t114 t115 t116 t117 t118 t119 t120 t121 t122 t123 t124 t125 t126 t127 t128 t129 t130 t131 t132 t133 t134 t135 t136 t137 t138 t139 t140 t141 t142 t143 t144 t145 t146 t147 t148 t149 t150 t151 t152 t153 t154 t155 t156 t157 t158 wi hm
      have M := Lib.hid hm
      clear hm
      go_wp2_with fail
      have MW := Lib.hid (KM2.out _ M.out)
      have XW := Lib.hid (KX2.out _ M.out)
      clear M KX2 KY2 KM2 T12 b12
      have c0 := XW.out.cell 0 (by simp)
      have c1 := XW.out.cell 1 (by simp)
      have ch := XW.out.has
      simp only [List.getElem_cons_zero, List.getElem_cons_succ] at c0 c1
      go_cut [173, 174, 175] (fun s n i wx => ∃ (bq T : Nat) (e1 e2 e3 : Int), s = .slice (some ⟨bq, 0, none⟩) 3 3 ∧ n = .int .i64 3 ∧ i = .int .i64 0 ∧ Row wx bq T [.int .i64 nu, .int .i64 de, .int .i64 e1, .int .i64 e2, .int .i64 0, .int .i64 e3] ∧ Row wx bx 27 [.int .i64 xn, .int .i64 xd] ∧ b < bq ∧ Mv b nn WL wx)
      case first =>
        refine wp_code_eq (c := Code.region 22 (regIn 22 Tryd.f5) true) (by kernel_rfl) (wp_then_of (ans_r22 TL bL bxb MW XW (by omega) (by omega) (by omega) (by omega) ?_))
        intro t159 t160 t161 t162 t163 t164 t165 t166 t167 t168 t169 t170 t171 t172 bq T e1 e2 e3 wx q1 q2 q3 hm
        go_wp2_with fail
        go_meet
        exact ⟨bq, T, e1, e2, e3, rfl, rfl, rfl, q1, q2, q3, hm⟩
      obtain ⟨bq, T, e1, e2, e3, rfl, rfl, rfl, hq, hx, hbq, hm⟩ := hcut
      obtain ⟨WQ, rfl⟩ : ∃ WQ : World, WQ = wc := ⟨_, rfl⟩
      have Q3 := Lib.hid hq
      have X3 := Lib.hid hx
      have B3 := Lib.hid hbq
      have M3 := Lib.hid hm
      have TWQ := Lib.hid (M3.out.tp TL.out)
      have bWQ : Hid (b < WQ.heap.size) := Lib.hid TWQ.out.has
      have KM3 : Hid (∀ W', Mv b nn WQ W' → Mv b nn WL W') := Lib.hid fun W' M => M3.out.trans bL.out M
      have KX3 : Hid (∀ W', Mv b nn WQ W' → Row W' bx 27 [.int .i64 xn, .int .i64 xd]) := Lib.hid fun W' M => M.row X3.out (by have := bxb.out.1; omega)
      have KQ3 : Hid (∀ W', Mv b nn WQ W' → Row W' bq T [.int .i64 nu, .int .i64 de, .int .i64 e1, .int .i64 e2, .int .i64 0, .int .i64 e3]) := Lib.hid fun W' M => M.row Q3.out (by have := B3.out; omega)
      clear hq hx hbq hm MW XW c0 c1 ch Q3 X3 M3
      go_wp2_with fail
      refine wp_code_eq (c := codeIn 4 Tryd.f5) (by kernel_rfl) (ans_l4 TWQ KX3 KQ3 (by omega) (by omega) (by omega) (by omega) ?_)
      intro t12 t30 t176 t177 t178 t179 t180 t181 t182 t183 t184 t185 t186 t187 t188 t189 t190 t191 t192 wi hm
      have M := Lib.hid hm
      clear hm
      go_wp2_with fail
      have MW := Lib.hid (KM3.out _ M.out)
      have XW := Lib.hid (KX3.out _ M.out)
      clear M KX3 KQ3 KM3 TWQ bWQ
      have fl := fmt_len' xn xd
      have s1 : ∀ W : World, (Op.stringOp .add ⟨#[48]⟩ ⟨(fmtL xn xd).toArray⟩).run Tryd.prog W = .ok (.string ⟨(48 :: fmtL xn xd).toArray⟩) W := fun W => run_string_add_lists W [48] _ (by simp) (by omega)
      have c0 := XW.out.cell 0 (by simp)
      have c1 := XW.out.cell 1 (by simp)
      have ch := XW.out.has
      simp only [List.getElem_cons_zero, List.getElem_cons_succ] at c0 c1
      go_cut [203, 204, 205] (fun s n i wx => ∃ (bt T : Nat) (l2 : List UInt8), s = .slice (some ⟨bt, 0, none⟩) 4 4 ∧ n = .int .i64 4 ∧ i = .int .i64 0 ∧ l2.length ≤ 921 ∧ Row wx bt T [.string ⟨l.toArray⟩, .string ⟨(fmtL xn xd).toArray⟩, .string ⟨l2.toArray⟩, .string ⟨(48 :: fmtL xn xd).toArray⟩] ∧ b < bt ∧ Mv b nn WL wx)
      case first =>
        refine wp_code_eq (c := Code.region 28 (regIn 28 Tryd.f5) true) (by kernel_rfl) (wp_then_of (ans_r28 TL bL bxb MW XW (by omega) (by omega) (by omega) (by omega) fl ?_))
        intro t193 t194 t195 t196 t197 t198 t199 t200 t201 t202 bt T l2 wx q0 q1 q2 hm
        go_wp2_with fail
        go_meet
        exact ⟨bt, T, l2, rfl, rfl, rfl, q0, q1, q2, hm⟩
      obtain ⟨bt, T, l2, rfl, rfl, rfl, hl2, hq, hbt, hm⟩ := hcut
      obtain ⟨WT, rfl⟩ : ∃ WT : World, WT = wc := ⟨_, rfl⟩
      have Q4 := Lib.hid hq
      have B4 := Lib.hid hbt
      have M4 := Lib.hid hm
      have TWT := Lib.hid (M4.out.tp TL.out)
      have bWT : Hid (b < WT.heap.size) := Lib.hid TWT.out.has
      have KM4 : Hid (∀ W', Mv b nn WT W' → Mv b nn WL W') := Lib.hid fun W' M => M4.out.trans bL.out M
      have KQ4 : Hid (∀ W', Mv b nn WT W' → Row W' bt T [.string ⟨l.toArray⟩, .string ⟨(fmtL xn xd).toArray⟩, .string ⟨l2.toArray⟩, .string ⟨(48 :: fmtL xn xd).toArray⟩]) := Lib.hid fun W' M => M.row Q4.out (by have := B4.out; omega)
      clear hq hbt hm MW XW c0 c1 ch Q4 M4 s1
      go_wp2_with fail
      refine wp_code_eq (c := codeIn 6 Tryd.f5) (by kernel_rfl) (ans_l6 TWT HL KG KM4 KQ4 hll hl2 fl ?_)
      intro t12 t32 t33 t34 t35 t36 t206 t207 t208 t209 t210 t211 t212 t213 t214 t215 t216 t217 t218 t219 t220 t221 t222 t223 t224 t225 t226 t227 wi hm
      have M := Lib.hid hm
      clear hm
      go_wp2_with fail
      go_roundw
      case rel => exact ⟨j + 1, by omega, by go_num, KM4.out _ M.out⟩
      case measure => simp [intOf]; omega
    · obtain rfl : j = 4 := by omega
      go_wp2_with fail
      refine (rangeM_any _ b nn (-1) 1000 (M.out.tp TL.out) (by omega) (by omega) (by omega)).mono ?_
      rintro e V1 ⟨pa, rfl, hp, hm⟩
      obtain ⟨pa0, pa1⟩ := hp
      have N1 := Lib.hid (M.out.trans bL.out hm)
      clear hm
      go_wp2_with fail
      refine (rangeM_any _ b nn (-1) 1000 (N1.out.tp TL.out) (by omega) (by omega) (by omega)).mono ?_
      rintro e V2 ⟨pb, rfl, hp, hm⟩
      obtain ⟨pb0, pb1⟩ := hp
      have N2 := Lib.hid (N1.out.trans bL.out hm)
      clear hm
      go_wp2_with fail
      refine (rangeM_any _ b nn (1) 9 (N2.out.tp TL.out) (by omega) (by omega) (by omega)).mono ?_
      rintro e V3 ⟨pc, rfl, hp, hm⟩
      obtain ⟨pc0, pc1⟩ := hp
      have N3 := Lib.hid (N2.out.trans bL.out hm)
      clear hm
      go_wp2_with fail
      obtain ⟨V4, hV4⟩ : ∃ V4 : World, Hid (V4 = V3.alloc (.cells #[.int .i64 nu, .int .i64 de, .int .i64 pa, .int .i64 pb, .int .i64 144115188075855872, .int .i64 pc] 43)) := ⟨_, Lib.hid rfl⟩
      rw [← hV4.out]
      obtain ⟨bv, hbv⟩ : ∃ bv : Nat, Hid (V3.heap.size = bv) := ⟨_, Lib.hid rfl⟩
      rw [hbv.out]
      have Q5 : Hid (Row V4 bv 43 [.int .i64 nu, .int .i64 de, .int .i64 pa, .int .i64 pb, .int .i64 144115188075855872, .int .i64 pc]) := Lib.hid (by rw [hV4.out, ← hbv.out]; exact Row.new V3 _ _)
      have N4 : Hid (Mv b nn WL V4) := Lib.hid (by rw [hV4.out]; exact N3.out.alloc _)
      have B5 : Hid (b < bv) := Lib.hid (by rw [← hbv.out]; exact (N3.out.tp TL.out).has)
      have TV4 := Lib.hid (N4.out.tp TL.out)
      have bV4 : Hid (b < V4.heap.size) := Lib.hid TV4.out.has
      have KM5 : Hid (∀ W', Mv b nn V4 W' → Mv b nn WL W') := Lib.hid fun W' M => N4.out.trans bL.out M
      have KQ5 : Hid (∀ W', Mv b nn V4 W' → Row W' bv 43 [.int .i64 nu, .int .i64 de, .int .i64 pa, .int .i64 pb, .int .i64 144115188075855872, .int .i64 pc]) := Lib.hid fun W' M => M.row Q5.out (by have := B5.out; omega)
      clear hV4 hbv Q5 N1 N2 N3 N4 M
      refine wp_code_eq (c := codeIn 8 Tryd.f5) (by kernel_rfl) (ans_l8 TV4 KQ5 (by omega) (by omega) (by omega) (by omega) (by omega) (by omega) (by omega) (by omega) (by omega) (by omega) ?_)
      intro t12 t38 t39 t40 t41 t42 t243 t244 t245 t246 t247 t248 t249 t250 t251 t252 t253 t254 t255 t256 t257 t258 t259 t260 t261 t262 t263 t264 t265 t266 t267 t268 t269 t270 wi hm
      have M := Lib.hid hm
      clear hm
      go_wp2_with fail
      refine (awake_any _).mono ?_
      rintro e w' ⟨rfl, O1, D1, rfl⟩
      go_wp2_with fail
      go_ret
      exact ⟨rfl, (KG.out _ (KM5.out _ M.out)).trans (by repeat (first | with_reducible exact Gr.refl _ | with_reducible refine Gr.drew ?_ | with_reducible refine Gr.drewN _ ?_ | with_reducible refine Gr.xt _ _ ?_ | with_reducible refine Gr.alloc _ ?_))⟩
end Go.Proofs.YtdbofdjjecoeeaaDoor
