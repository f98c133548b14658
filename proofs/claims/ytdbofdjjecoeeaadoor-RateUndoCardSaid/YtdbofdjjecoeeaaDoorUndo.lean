/- RateUndo: the walk through the statement (printed by wip/tools/undo.py). -/
import Derived.Test.YtdbofdjjecoeeaaDoorRead
import Derived.Test.YtdbofdjjecoeeaaDoorUnd
import Derived.Test.YtdbofdjjecoeeaaDoorNewTape
set_option linter.unusedVariables false
set_option linter.unusedSimpArgs false
namespace Go.Proofs.YtdbofdjjecoeeaaDoor
open Go.RowKit
@[go_sem] theorem neq_rate (a b c d : Int) (w : World) : (binOp .neq 27 (.agg #[.int .i64 a, .int .i64 b]) (.agg #[.int .i64 c, .int .i64 d])).run Tryd.prog w = .ok (.bool (!(a == c && b == d))) w := by
  have hu : Tryd.prog.underlying 27 = some (.struct (Tryd.prog.fieldsOf 27)) := by kernel_rfl
  have hs : Tryd.prog.stoodInHeld 27 = false := by kernel_rfl
  rw [run_neq_struct, run_equalIn_agg w 9999 _ _ _ hu hs]
  cases h1 : (a == c) <;> cases h2 : (b == d) <;> simp [go_sem, h1, h2]
theorem read_fmt (n d : Int) (w : World) (hv : validB n d = true) (h : Libs w) :
    Calls Tryd.prog 14 #[.string ⟨(fmtL n d).toArray⟩] w (Grows w (.tuple #[.agg #[.int .i64 n, .int .i64 d], .int .i64 0])) := by
  refine (read_any _ w (by have := fmt_len n d hv; omega) h).mono ?_
  rintro e w' ⟨m, f, r, rfl, ⟨h1, h2, rfl⟩ | ⟨h1, -⟩, hg⟩
  · obtain ⟨rfl, rfl⟩ := fmt_inj m f n d h1 hv h2
    exact ⟨rfl, hg⟩
  · exact absurd rfl (h1 n d hv)
set_option maxHeartbeats 4000000 in
theorem undo_walk (a : Option Addr) (len cap : Nat) (zs : List Int) (a1 a2 : Int) (w : World) (h : RowIn w a len cap zs) (hl : Libs w) (p0 : 0 ≤ a1) (p1 : a1 ≤ 255) (q0 : 0 ≤ a2) (q1 : a2 ≤ 255) :
    Calls Tryd.prog 4 #[.slice a len cap, .int .u8 a1, .int .u8 a2] w (Grows w (.bool true)) := by
  have H := Lib.hid h
  have HL := Lib.hid hl
  clear h hl
  go_enter Tryd.func4, Tryd.ntmps4
  go_wp2_with fail
  refine (newTape_any w a len cap zs H.out).mono ?_
  rintro e w1 ⟨b, nn, rfl, T, hg, hb, _⟩
  have HTp := Lib.hid T
  have HG := Lib.hid hg
  clear T hg
  go_wp2_with fail
  refine (made_any w1 b nn _ HTp.out).mono ?_
  rintro e w2 ⟨rn, rd, p', rfl, hv, -, -, hg2⟩
  have HG2 : Hid (Gr w w2) := Lib.hid ((HG.out.setCell (a := ⟨b, 1, none⟩) hb _).trans hg2)
  have HV := Lib.hid hv
  obtain ⟨v1, v2, v3, v4, -⟩ := valid_parts hv
  clear hv hg2 HG HTp
  go_wp2_with fail
  have i0 : 1 ≤ 1 + a1 % 64 := by omega
  have i1 : 1 + a1 % 64 ≤ 64 := by omega
  have k0 : 1 ≤ 1 + a2 % 64 := by omega
  have k1 : 1 + a2 % 64 ≤ 64 := by omega
  generalize 1 + a1 % 64 = i at *
  generalize 1 + a2 % 64 = k at *
  by_cases L0 : oE rn rd i = 0
  · by_cases E0 : tE rn rd i = 0
    · by_cases G0 : tE (tN rn rd i) (tD rn rd i) k = 0
      · obtain ⟨f1, f2, f3⟩ := times_over rn rd i E0
        obtain ⟨g1, g2, g3, g4⟩ := times_times rn rd i k E0 G0
        obtain ⟨m1, m2, m3⟩ := over_times rn rd i L0
        have tw1 := t_wide rn rd i
        have tw2 := t_wide rn rd k
        have ow1 := o_wide rn rd i
        generalize hxn : tN rn rd i = xn at *
        generalize hxd : tD rn rd i = xd at *
        generalize hee : tE rn rd i = ee at *
        generalize hvn : tN rn rd k = vn at *
        generalize hvd : tD rn rd k = vd at *
        generalize hve : tE rn rd k = ve at *
        generalize hon : oN rn rd i = on at *
        generalize hod : oD rn rd i = od at *
        generalize hoe : oE rn rd i = oe at *
        have ow2 := o_wide xn xd i
        have tw3 := t_wide xn xd k
        have tw4 := t_wide vn vd i
        have tw5 := t_wide on od i
        generalize hun : tN xn xd k = Un at *
        generalize hud : tD xn xd k = Ud at *
        generalize hue : tE xn xd k = Ue at *
        generalize hyn : oN xn xd i = yn at *
        generalize hyd : oD xn xd i = yd at *
        generalize hye : oE xn xd i = ye at *
        generalize hwn : tN vn vd i = wn at *
        generalize hwd : tD vn vd i = wd at *
        generalize hwe : tE vn vd i = we at *
        generalize hpn : tN on od i = pn at *
        generalize hpd : tD on od i = pd at *
        generalize hpe : tE on od i = pe at *
        refine (times_any rn rd i _ (by omega) (by omega) (by omega) (by omega)).mono ?_
        rw [hxn, hxd, hee, E0]
        rintro e w' ⟨rfl, O1, d1, rfl⟩
        go_wp2_with fail
        refine (over_any xn xd i _ (by omega) (by omega) (by omega) (by omega)).mono ?_
        rw [hyn, hyd, hye, f1, f2, f3]
        rintro e w' ⟨rfl, O2, d2, rfl⟩
        go_wp2_with fail
        refine (times_any xn xd k _ (by omega) (by omega) (by omega) (by omega)).mono ?_
        rw [hun, hud, hue, G0]
        rintro e w' ⟨rfl, O3, d3, rfl⟩
        go_wp2_with fail
        refine (times_any rn rd k _ (by omega) (by omega) (by omega) (by omega)).mono ?_
        rw [hvn, hvd, hve, g1]
        rintro e w' ⟨rfl, O4, d4, rfl⟩
        go_wp2_with fail
        refine (times_any vn vd i _ (by omega) (by omega) (by omega) (by omega)).mono ?_
        rw [hwn, hwd, hwe, g2, g3, g4]
        rintro e w' ⟨rfl, O5, d5, rfl⟩
        go_wp2_with fail
        refine (over_any rn rd i _ (by omega) (by omega) (by omega) (by omega)).mono ?_
        rw [hon, hod, hoe, L0]
        rintro e w' ⟨rfl, O6, d6, rfl⟩
        go_wp2_with fail
        refine (times_any on od i _ (by omega) (by omega) (by omega) (by omega)).mono ?_
        rw [hpn, hpd, hpe, m1, m2, m3]
        rintro e w' ⟨rfl, O7, d7, rfl⟩
        go_wp2_with fail
        refine (format_any rn rd _ (by omega) (by omega) (by omega) (by omega) (HL.out.1.gr (by repeat (first | with_reducible exact HG2.out | with_reducible refine Gr.xt _ _ ?_ | with_reducible refine Gr.alloc _ ?_ | with_reducible refine Gr.drewN _ ?_ | with_reducible refine Gr.drew ?_)))).mono ?_
        rintro e w' ⟨rfl, O8, d8, rfl⟩
        go_wp2_with fail
        refine (read_fmt rn rd _ HV.out (HL.out.gr (by repeat (first | with_reducible exact HG2.out | with_reducible refine Gr.xt _ _ ?_ | with_reducible refine Gr.alloc _ ?_ | with_reducible refine Gr.drewN _ ?_ | with_reducible refine Gr.drew ?_)))).mono ?_
        rintro e w' ⟨rfl, O9, d9, rfl⟩
        go_wp2_with fail
        refine (awake_any _).mono ?_
        rintro e w' ⟨rfl, O10, d10, rfl⟩
        go_wp2_with fail
        go_ret
        exact ⟨rfl, (by repeat (first | with_reducible exact HG2.out | with_reducible refine Gr.xt _ _ ?_ | with_reducible refine Gr.alloc _ ?_ | with_reducible refine Gr.drewN _ ?_ | with_reducible refine Gr.drew ?_))⟩
      · obtain ⟨f1, f2, f3⟩ := times_over rn rd i E0
        obtain ⟨m1, m2, m3⟩ := over_times rn rd i L0
        have tw1 := t_wide rn rd i
        have tw2 := t_wide rn rd k
        have ow1 := o_wide rn rd i
        generalize hxn : tN rn rd i = xn at *
        generalize hxd : tD rn rd i = xd at *
        generalize hee : tE rn rd i = ee at *
        generalize hvn : tN rn rd k = vn at *
        generalize hvd : tD rn rd k = vd at *
        generalize hve : tE rn rd k = ve at *
        generalize hon : oN rn rd i = on at *
        generalize hod : oD rn rd i = od at *
        generalize hoe : oE rn rd i = oe at *
        have ow2 := o_wide xn xd i
        have tw3 := t_wide xn xd k
        have tw4 := t_wide vn vd i
        have tw5 := t_wide on od i
        generalize hun : tN xn xd k = Un at *
        generalize hud : tD xn xd k = Ud at *
        generalize hue : tE xn xd k = Ue at *
        generalize hyn : oN xn xd i = yn at *
        generalize hyd : oD xn xd i = yd at *
        generalize hye : oE xn xd i = ye at *
        generalize hwn : tN vn vd i = wn at *
        generalize hwd : tD vn vd i = wd at *
        generalize hwe : tE vn vd i = we at *
        generalize hpn : tN on od i = pn at *
        generalize hpd : tD on od i = pd at *
        generalize hpe : tE on od i = pe at *
        refine (times_any rn rd i _ (by omega) (by omega) (by omega) (by omega)).mono ?_
        rw [hxn, hxd, hee, E0]
        rintro e w' ⟨rfl, O1, d1, rfl⟩
        go_wp2_with fail
        refine (over_any xn xd i _ (by omega) (by omega) (by omega) (by omega)).mono ?_
        rw [hyn, hyd, hye, f1, f2, f3]
        rintro e w' ⟨rfl, O2, d2, rfl⟩
        go_wp2_with fail
        refine (times_any xn xd k _ (by omega) (by omega) (by omega) (by omega)).mono ?_
        rw [hun, hud, hue]
        rintro e w' ⟨rfl, O3, d3, rfl⟩
        go_wp2_with fail
        refine (times_any rn rd k _ (by omega) (by omega) (by omega) (by omega)).mono ?_
        rw [hvn, hvd, hve]
        rintro e w' ⟨rfl, O4, d4, rfl⟩
        go_wp2_with fail
        refine (times_any vn vd i _ (by omega) (by omega) (by omega) (by omega)).mono ?_
        rw [hwn, hwd, hwe]
        rintro e w' ⟨rfl, O5, d5, rfl⟩
        go_wp2_with fail
        refine (over_any rn rd i _ (by omega) (by omega) (by omega) (by omega)).mono ?_
        rw [hon, hod, hoe, L0]
        rintro e w' ⟨rfl, O6, d6, rfl⟩
        go_wp2_with fail
        refine (times_any on od i _ (by omega) (by omega) (by omega) (by omega)).mono ?_
        rw [hpn, hpd, hpe, m1, m2, m3]
        rintro e w' ⟨rfl, O7, d7, rfl⟩
        go_wp2_with fail
        refine (format_any rn rd _ (by omega) (by omega) (by omega) (by omega) (HL.out.1.gr (by repeat (first | with_reducible exact HG2.out | with_reducible refine Gr.xt _ _ ?_ | with_reducible refine Gr.alloc _ ?_ | with_reducible refine Gr.drewN _ ?_ | with_reducible refine Gr.drew ?_)))).mono ?_
        rintro e w' ⟨rfl, O8, d8, rfl⟩
        go_wp2_with fail
        refine (read_fmt rn rd _ HV.out (HL.out.gr (by repeat (first | with_reducible exact HG2.out | with_reducible refine Gr.xt _ _ ?_ | with_reducible refine Gr.alloc _ ?_ | with_reducible refine Gr.drewN _ ?_ | with_reducible refine Gr.drew ?_)))).mono ?_
        rintro e w' ⟨rfl, O9, d9, rfl⟩
        go_wp2_with fail
        refine (awake_any _).mono ?_
        rintro e w' ⟨rfl, O10, d10, rfl⟩
        go_wp2_with fail
        go_ret
        exact ⟨rfl, (by repeat (first | with_reducible exact HG2.out | with_reducible refine Gr.xt _ _ ?_ | with_reducible refine Gr.alloc _ ?_ | with_reducible refine Gr.drewN _ ?_ | with_reducible refine Gr.drew ?_))⟩
    · obtain ⟨m1, m2, m3⟩ := over_times rn rd i L0
      have tw1 := t_wide rn rd i
      have tw2 := t_wide rn rd k
      have ow1 := o_wide rn rd i
      generalize hxn : tN rn rd i = xn at *
      generalize hxd : tD rn rd i = xd at *
      generalize hee : tE rn rd i = ee at *
      generalize hvn : tN rn rd k = vn at *
      generalize hvd : tD rn rd k = vd at *
      generalize hve : tE rn rd k = ve at *
      generalize hon : oN rn rd i = on at *
      generalize hod : oD rn rd i = od at *
      generalize hoe : oE rn rd i = oe at *
      have ow2 := o_wide xn xd i
      have tw3 := t_wide xn xd k
      have tw4 := t_wide vn vd i
      have tw5 := t_wide on od i
      generalize hun : tN xn xd k = Un at *
      generalize hud : tD xn xd k = Ud at *
      generalize hue : tE xn xd k = Ue at *
      generalize hyn : oN xn xd i = yn at *
      generalize hyd : oD xn xd i = yd at *
      generalize hye : oE xn xd i = ye at *
      generalize hwn : tN vn vd i = wn at *
      generalize hwd : tD vn vd i = wd at *
      generalize hwe : tE vn vd i = we at *
      generalize hpn : tN on od i = pn at *
      generalize hpd : tD on od i = pd at *
      generalize hpe : tE on od i = pe at *
      refine (times_any rn rd i _ (by omega) (by omega) (by omega) (by omega)).mono ?_
      rw [hxn, hxd, hee]
      rintro e w' ⟨rfl, O1, d1, rfl⟩
      go_wp2_with fail
      refine (over_any xn xd i _ (by omega) (by omega) (by omega) (by omega)).mono ?_
      rw [hyn, hyd, hye]
      rintro e w' ⟨rfl, O2, d2, rfl⟩
      go_wp2_with fail
      refine (times_any xn xd k _ (by omega) (by omega) (by omega) (by omega)).mono ?_
      rw [hun, hud, hue]
      rintro e w' ⟨rfl, O3, d3, rfl⟩
      go_wp2_with fail
      refine (times_any rn rd k _ (by omega) (by omega) (by omega) (by omega)).mono ?_
      rw [hvn, hvd, hve]
      rintro e w' ⟨rfl, O4, d4, rfl⟩
      go_wp2_with fail
      refine (times_any vn vd i _ (by omega) (by omega) (by omega) (by omega)).mono ?_
      rw [hwn, hwd, hwe]
      rintro e w' ⟨rfl, O5, d5, rfl⟩
      go_wp2_with fail
      refine (over_any rn rd i _ (by omega) (by omega) (by omega) (by omega)).mono ?_
      rw [hon, hod, hoe, L0]
      rintro e w' ⟨rfl, O6, d6, rfl⟩
      go_wp2_with fail
      refine (times_any on od i _ (by omega) (by omega) (by omega) (by omega)).mono ?_
      rw [hpn, hpd, hpe, m1, m2, m3]
      rintro e w' ⟨rfl, O7, d7, rfl⟩
      go_wp2_with fail
      refine (format_any rn rd _ (by omega) (by omega) (by omega) (by omega) (HL.out.1.gr (by repeat (first | with_reducible exact HG2.out | with_reducible refine Gr.xt _ _ ?_ | with_reducible refine Gr.alloc _ ?_ | with_reducible refine Gr.drewN _ ?_ | with_reducible refine Gr.drew ?_)))).mono ?_
      rintro e w' ⟨rfl, O8, d8, rfl⟩
      go_wp2_with fail
      refine (read_fmt rn rd _ HV.out (HL.out.gr (by repeat (first | with_reducible exact HG2.out | with_reducible refine Gr.xt _ _ ?_ | with_reducible refine Gr.alloc _ ?_ | with_reducible refine Gr.drewN _ ?_ | with_reducible refine Gr.drew ?_)))).mono ?_
      rintro e w' ⟨rfl, O9, d9, rfl⟩
      go_wp2_with fail
      refine (awake_any _).mono ?_
      rintro e w' ⟨rfl, O10, d10, rfl⟩
      go_wp2_with fail
      go_ret
      exact ⟨rfl, (by repeat (first | with_reducible exact HG2.out | with_reducible refine Gr.xt _ _ ?_ | with_reducible refine Gr.alloc _ ?_ | with_reducible refine Gr.drewN _ ?_ | with_reducible refine Gr.drew ?_))⟩
  · by_cases E0 : tE rn rd i = 0
    · by_cases G0 : tE (tN rn rd i) (tD rn rd i) k = 0
      · obtain ⟨f1, f2, f3⟩ := times_over rn rd i E0
        obtain ⟨g1, g2, g3, g4⟩ := times_times rn rd i k E0 G0
        have tw1 := t_wide rn rd i
        have tw2 := t_wide rn rd k
        have ow1 := o_wide rn rd i
        generalize hxn : tN rn rd i = xn at *
        generalize hxd : tD rn rd i = xd at *
        generalize hee : tE rn rd i = ee at *
        generalize hvn : tN rn rd k = vn at *
        generalize hvd : tD rn rd k = vd at *
        generalize hve : tE rn rd k = ve at *
        generalize hon : oN rn rd i = on at *
        generalize hod : oD rn rd i = od at *
        generalize hoe : oE rn rd i = oe at *
        have ow2 := o_wide xn xd i
        have tw3 := t_wide xn xd k
        have tw4 := t_wide vn vd i
        have tw5 := t_wide on od i
        generalize hun : tN xn xd k = Un at *
        generalize hud : tD xn xd k = Ud at *
        generalize hue : tE xn xd k = Ue at *
        generalize hyn : oN xn xd i = yn at *
        generalize hyd : oD xn xd i = yd at *
        generalize hye : oE xn xd i = ye at *
        generalize hwn : tN vn vd i = wn at *
        generalize hwd : tD vn vd i = wd at *
        generalize hwe : tE vn vd i = we at *
        generalize hpn : tN on od i = pn at *
        generalize hpd : tD on od i = pd at *
        generalize hpe : tE on od i = pe at *
        refine (times_any rn rd i _ (by omega) (by omega) (by omega) (by omega)).mono ?_
        rw [hxn, hxd, hee, E0]
        rintro e w' ⟨rfl, O1, d1, rfl⟩
        go_wp2_with fail
        refine (over_any xn xd i _ (by omega) (by omega) (by omega) (by omega)).mono ?_
        rw [hyn, hyd, hye, f1, f2, f3]
        rintro e w' ⟨rfl, O2, d2, rfl⟩
        go_wp2_with fail
        refine (times_any xn xd k _ (by omega) (by omega) (by omega) (by omega)).mono ?_
        rw [hun, hud, hue, G0]
        rintro e w' ⟨rfl, O3, d3, rfl⟩
        go_wp2_with fail
        refine (times_any rn rd k _ (by omega) (by omega) (by omega) (by omega)).mono ?_
        rw [hvn, hvd, hve, g1]
        rintro e w' ⟨rfl, O4, d4, rfl⟩
        go_wp2_with fail
        refine (times_any vn vd i _ (by omega) (by omega) (by omega) (by omega)).mono ?_
        rw [hwn, hwd, hwe, g2, g3, g4]
        rintro e w' ⟨rfl, O5, d5, rfl⟩
        go_wp2_with fail
        refine (over_any rn rd i _ (by omega) (by omega) (by omega) (by omega)).mono ?_
        rw [hon, hod, hoe]
        rintro e w' ⟨rfl, O6, d6, rfl⟩
        go_wp2_with fail
        refine (times_any on od i _ (by omega) (by omega) (by omega) (by omega)).mono ?_
        rw [hpn, hpd, hpe]
        rintro e w' ⟨rfl, O7, d7, rfl⟩
        go_wp2_with fail
        refine (format_any rn rd _ (by omega) (by omega) (by omega) (by omega) (HL.out.1.gr (by repeat (first | with_reducible exact HG2.out | with_reducible refine Gr.xt _ _ ?_ | with_reducible refine Gr.alloc _ ?_ | with_reducible refine Gr.drewN _ ?_ | with_reducible refine Gr.drew ?_)))).mono ?_
        rintro e w' ⟨rfl, O8, d8, rfl⟩
        go_wp2_with fail
        refine (read_fmt rn rd _ HV.out (HL.out.gr (by repeat (first | with_reducible exact HG2.out | with_reducible refine Gr.xt _ _ ?_ | with_reducible refine Gr.alloc _ ?_ | with_reducible refine Gr.drewN _ ?_ | with_reducible refine Gr.drew ?_)))).mono ?_
        rintro e w' ⟨rfl, O9, d9, rfl⟩
        go_wp2_with fail
        refine (awake_any _).mono ?_
        rintro e w' ⟨rfl, O10, d10, rfl⟩
        go_wp2_with fail
        go_ret
        exact ⟨rfl, (by repeat (first | with_reducible exact HG2.out | with_reducible refine Gr.xt _ _ ?_ | with_reducible refine Gr.alloc _ ?_ | with_reducible refine Gr.drewN _ ?_ | with_reducible refine Gr.drew ?_))⟩
      · obtain ⟨f1, f2, f3⟩ := times_over rn rd i E0
        have tw1 := t_wide rn rd i
        have tw2 := t_wide rn rd k
        have ow1 := o_wide rn rd i
        generalize hxn : tN rn rd i = xn at *
        generalize hxd : tD rn rd i = xd at *
        generalize hee : tE rn rd i = ee at *
        generalize hvn : tN rn rd k = vn at *
        generalize hvd : tD rn rd k = vd at *
        generalize hve : tE rn rd k = ve at *
        generalize hon : oN rn rd i = on at *
        generalize hod : oD rn rd i = od at *
        generalize hoe : oE rn rd i = oe at *
        have ow2 := o_wide xn xd i
        have tw3 := t_wide xn xd k
        have tw4 := t_wide vn vd i
        have tw5 := t_wide on od i
        generalize hun : tN xn xd k = Un at *
        generalize hud : tD xn xd k = Ud at *
        generalize hue : tE xn xd k = Ue at *
        generalize hyn : oN xn xd i = yn at *
        generalize hyd : oD xn xd i = yd at *
        generalize hye : oE xn xd i = ye at *
        generalize hwn : tN vn vd i = wn at *
        generalize hwd : tD vn vd i = wd at *
        generalize hwe : tE vn vd i = we at *
        generalize hpn : tN on od i = pn at *
        generalize hpd : tD on od i = pd at *
        generalize hpe : tE on od i = pe at *
        refine (times_any rn rd i _ (by omega) (by omega) (by omega) (by omega)).mono ?_
        rw [hxn, hxd, hee, E0]
        rintro e w' ⟨rfl, O1, d1, rfl⟩
        go_wp2_with fail
        refine (over_any xn xd i _ (by omega) (by omega) (by omega) (by omega)).mono ?_
        rw [hyn, hyd, hye, f1, f2, f3]
        rintro e w' ⟨rfl, O2, d2, rfl⟩
        go_wp2_with fail
        refine (times_any xn xd k _ (by omega) (by omega) (by omega) (by omega)).mono ?_
        rw [hun, hud, hue]
        rintro e w' ⟨rfl, O3, d3, rfl⟩
        go_wp2_with fail
        refine (times_any rn rd k _ (by omega) (by omega) (by omega) (by omega)).mono ?_
        rw [hvn, hvd, hve]
        rintro e w' ⟨rfl, O4, d4, rfl⟩
        go_wp2_with fail
        refine (times_any vn vd i _ (by omega) (by omega) (by omega) (by omega)).mono ?_
        rw [hwn, hwd, hwe]
        rintro e w' ⟨rfl, O5, d5, rfl⟩
        go_wp2_with fail
        refine (over_any rn rd i _ (by omega) (by omega) (by omega) (by omega)).mono ?_
        rw [hon, hod, hoe]
        rintro e w' ⟨rfl, O6, d6, rfl⟩
        go_wp2_with fail
        refine (times_any on od i _ (by omega) (by omega) (by omega) (by omega)).mono ?_
        rw [hpn, hpd, hpe]
        rintro e w' ⟨rfl, O7, d7, rfl⟩
        go_wp2_with fail
        refine (format_any rn rd _ (by omega) (by omega) (by omega) (by omega) (HL.out.1.gr (by repeat (first | with_reducible exact HG2.out | with_reducible refine Gr.xt _ _ ?_ | with_reducible refine Gr.alloc _ ?_ | with_reducible refine Gr.drewN _ ?_ | with_reducible refine Gr.drew ?_)))).mono ?_
        rintro e w' ⟨rfl, O8, d8, rfl⟩
        go_wp2_with fail
        refine (read_fmt rn rd _ HV.out (HL.out.gr (by repeat (first | with_reducible exact HG2.out | with_reducible refine Gr.xt _ _ ?_ | with_reducible refine Gr.alloc _ ?_ | with_reducible refine Gr.drewN _ ?_ | with_reducible refine Gr.drew ?_)))).mono ?_
        rintro e w' ⟨rfl, O9, d9, rfl⟩
        go_wp2_with fail
        refine (awake_any _).mono ?_
        rintro e w' ⟨rfl, O10, d10, rfl⟩
        go_wp2_with fail
        go_ret
        exact ⟨rfl, (by repeat (first | with_reducible exact HG2.out | with_reducible refine Gr.xt _ _ ?_ | with_reducible refine Gr.alloc _ ?_ | with_reducible refine Gr.drewN _ ?_ | with_reducible refine Gr.drew ?_))⟩
    · have tw1 := t_wide rn rd i
      have tw2 := t_wide rn rd k
      have ow1 := o_wide rn rd i
      generalize hxn : tN rn rd i = xn at *
      generalize hxd : tD rn rd i = xd at *
      generalize hee : tE rn rd i = ee at *
      generalize hvn : tN rn rd k = vn at *
      generalize hvd : tD rn rd k = vd at *
      generalize hve : tE rn rd k = ve at *
      generalize hon : oN rn rd i = on at *
      generalize hod : oD rn rd i = od at *
      generalize hoe : oE rn rd i = oe at *
      have ow2 := o_wide xn xd i
      have tw3 := t_wide xn xd k
      have tw4 := t_wide vn vd i
      have tw5 := t_wide on od i
      generalize hun : tN xn xd k = Un at *
      generalize hud : tD xn xd k = Ud at *
      generalize hue : tE xn xd k = Ue at *
      generalize hyn : oN xn xd i = yn at *
      generalize hyd : oD xn xd i = yd at *
      generalize hye : oE xn xd i = ye at *
      generalize hwn : tN vn vd i = wn at *
      generalize hwd : tD vn vd i = wd at *
      generalize hwe : tE vn vd i = we at *
      generalize hpn : tN on od i = pn at *
      generalize hpd : tD on od i = pd at *
      generalize hpe : tE on od i = pe at *
      refine (times_any rn rd i _ (by omega) (by omega) (by omega) (by omega)).mono ?_
      rw [hxn, hxd, hee]
      rintro e w' ⟨rfl, O1, d1, rfl⟩
      go_wp2_with fail
      refine (over_any xn xd i _ (by omega) (by omega) (by omega) (by omega)).mono ?_
      rw [hyn, hyd, hye]
      rintro e w' ⟨rfl, O2, d2, rfl⟩
      go_wp2_with fail
      refine (times_any xn xd k _ (by omega) (by omega) (by omega) (by omega)).mono ?_
      rw [hun, hud, hue]
      rintro e w' ⟨rfl, O3, d3, rfl⟩
      go_wp2_with fail
      refine (times_any rn rd k _ (by omega) (by omega) (by omega) (by omega)).mono ?_
      rw [hvn, hvd, hve]
      rintro e w' ⟨rfl, O4, d4, rfl⟩
      go_wp2_with fail
      refine (times_any vn vd i _ (by omega) (by omega) (by omega) (by omega)).mono ?_
      rw [hwn, hwd, hwe]
      rintro e w' ⟨rfl, O5, d5, rfl⟩
      go_wp2_with fail
      refine (over_any rn rd i _ (by omega) (by omega) (by omega) (by omega)).mono ?_
      rw [hon, hod, hoe]
      rintro e w' ⟨rfl, O6, d6, rfl⟩
      go_wp2_with fail
      refine (times_any on od i _ (by omega) (by omega) (by omega) (by omega)).mono ?_
      rw [hpn, hpd, hpe]
      rintro e w' ⟨rfl, O7, d7, rfl⟩
      go_wp2_with fail
      refine (format_any rn rd _ (by omega) (by omega) (by omega) (by omega) (HL.out.1.gr (by repeat (first | with_reducible exact HG2.out | with_reducible refine Gr.xt _ _ ?_ | with_reducible refine Gr.alloc _ ?_ | with_reducible refine Gr.drewN _ ?_ | with_reducible refine Gr.drew ?_)))).mono ?_
      rintro e w' ⟨rfl, O8, d8, rfl⟩
      go_wp2_with fail
      refine (read_fmt rn rd _ HV.out (HL.out.gr (by repeat (first | with_reducible exact HG2.out | with_reducible refine Gr.xt _ _ ?_ | with_reducible refine Gr.alloc _ ?_ | with_reducible refine Gr.drewN _ ?_ | with_reducible refine Gr.drew ?_)))).mono ?_
      rintro e w' ⟨rfl, O9, d9, rfl⟩
      go_wp2_with fail
      refine (awake_any _).mono ?_
      rintro e w' ⟨rfl, O10, d10, rfl⟩
      go_wp2_with fail
      go_ret
      exact ⟨rfl, (by repeat (first | with_reducible exact HG2.out | with_reducible refine Gr.xt _ _ ?_ | with_reducible refine Gr.alloc _ ?_ | with_reducible refine Gr.drewN _ ?_ | with_reducible refine Gr.drew ?_))⟩
end Go.Proofs.YtdbofdjjecoeeaaDoor
