/- The walk of RampBack (the beginning printed by wip/tools/ramps.py). -/
import Derived.Test.YtoenkcojfogmmaaRmpG
import Derived.Test.YtoenkcojfogmmaaRmpH
import Derived.Test.YtoenkcojfogmmaaNewTape
import Derived.Test.YtoenkcojfogmmaaMkD
import Derived.Test.YtoenkcojfogmmaaPlB
import Derived.Test.YtoenkcojfogmmaaRpA
import Derived.Deep.DeepCutAuto
set_option linter.unusedVariables false
set_option linter.unusedSimpArgs false
namespace Go.Proofs.Ytoenkcojfogmmaa
open Go.RowKit
open Classical

set_option maxRecDepth 100000 in
set_option maxHeartbeats 8000000 in
theorem back_walk (a : Option Addr) (len cap : Nat) (zs : List Int) (w : World) (h : RowIn w a len cap zs) :
    Calls Try.prog 5 #[.slice a len cap] w (Grows w (.bool true)) := by
  have H := Lib.hid h
  clear h
  go_enter Try.func5, Try.ntmps5
  go_wp2_with fail
  refine (newTape_any w a len cap zs H.out).mono ?_
  rintro e W0 ⟨b, n, rfl, ht, hg, hb, _⟩
  have TT : Hid (Tp W0 b n) := Lib.hid ⟨_, ht⟩
  have G0 := Lib.hid hg
  have HB := Lib.hid hb
  clear ht hg hb
  go_wp2_with fail
  refine (supplies_any W0 b n 8 TT.out (by omega) (by omega)).mono ?_
  rintro e W1 ⟨l, ao, cp, rfl, hc, hl1, hl7, hlc, hl, hm⟩
  have HL := Lib.hid hl
  have HC := Lib.hid hc
  have M1 := Lib.hid hm
  clear hl hc hm
  have T1 := Lib.hid (M1.out.tp TT.out)
  go_wp2_with fail
  refine (mkDraws_any l ao cp W1 b n 4 T1.out HL.out HC.out (by omega) (by omega)).mono ?_
  rintro e W2 ⟨d, ad, cd, rfl, hd, hdc, hdh, hm⟩
  have HD := Lib.hid hd
  have DH := Lib.hid hdh
  have M2 := Lib.hid hm
  have T2 := Lib.hid (hm.tp T1.out)
  have HL2 := Lib.hid (HL.out.mv T1.out.has hm (mono_sups _ _))
  clear hd hdh hm
  go_wp2_with fail
  refine (near_any l d ao ad cp cd W2 b n T2.out HL2.out DH.out HD.out (by omega)).mono ?_
  rintro e W3 ⟨ra, va, oka, rfl, hva, hma, hm⟩
  have M3 := Lib.hid hm
  have T3 := Lib.hid (hm.tp T2.out)
  have HL3 := Lib.hid (HL2.out.mv T2.out.has hm (mono_sups _ _))
  have DH3 := Lib.hid (DH.out.mv T2.out.has hm (mono_drws _ _))
  have HMA := Lib.hid hma
  have VA := Lib.hid hva
  clear hm hma HL2 DH HL
  obtain ⟨a1, a2, c1, c2, rfl, k1, k2, s1, s2⟩ := hva
  have K1 : Hid (ra.on.length ≤ c1 ∧ ra.level.length ≤ c2) := Lib.hid ⟨k1, k2⟩
  clear k1 k2 s1 s2
  have gb : Hid (Gr W3 (W3.alloc (.cells #[.slice a1 ra.on.length c1, .slice a2 ra.level.length c2] 31))) := Lib.hid ((Gr.refl _).alloc _)
  have M13 : Hid (Mv b n W0 (W3.alloc (.cells #[.slice a1 ra.on.length c1, .slice a2 ra.level.length c2] 31))) := Lib.hid ((M1.out.trans TT.out.has (M2.out.trans T1.out.has M3.out)).gr gb.out)
  clear M1 M2 M3
  go_wp2_with fail
  refine (near_any l d ao ad cp cd _ b n (T3.out.gr gb.out) (HL3.out.gr T3.out.has gb.out (mono_sups _ _)) (DH3.out.gr T3.out.has gb.out (mono_drws _ _)) HD.out (by omega)).mono ?_
  rintro e W4 ⟨rb, vb, okb, rfl, hvb, hmb, hm⟩
  have hbg := (T3.out.gr gb.out).has
  have T4 := Lib.hid (hm.tp (T3.out.gr gb.out))
  have SL := Lib.hid (((HL3.out.gr T3.out.has gb.out (mono_sups _ _)).mv hbg hm (mono_sups _ _)).now T4.out)
  have SD := Lib.hid (((DH3.out.gr T3.out.has gb.out (mono_drws _ _)).mv hbg hm (mono_drws _ _)).now T4.out)
  have GW4 : Hid (Gr w W4) := Lib.hid (Mv.out G0.out (M13.out.trans TT.out.has hm) HB.out)
  have HMB := Lib.hid hmb
  have BA : Hid (Row W4 W3.heap.size 31 [.slice a1 ra.on.length c1, .slice a2 ra.level.length c2]) := Lib.hid (hm.row (Row.new W3 _ _) (by have := T3.out.has; omega))
  obtain ⟨a1', a2', c1', c2', ee, _, _, s1, s2⟩ := (VA.out.gr T3.out.has gb.out).mv hbg hm
  simp only [Value.agg.injEq, Array.mk.injEq, List.cons.injEq, Value.slice.injEq, and_true, true_and] at ee
  obtain ⟨⟨rfl, rfl⟩, ⟨rfl, rfl⟩⟩ := ee
  obtain ⟨a3, a4, c3, c4, rfl, k3, k4, s3, s4⟩ := hvb
  have S1 := Lib.hid (s1.now T4.out)
  have S2 := Lib.hid (s2.now T4.out)
  have S3 := Lib.hid (s3.now T4.out)
  have S4 := Lib.hid (s4.now T4.out)
  have K : Hid (ra.on.length ≤ c1 ∧ ra.level.length ≤ c2 ∧ rb.on.length ≤ c3 ∧ rb.level.length ≤ c4) := Lib.hid ⟨K1.out.1, K1.out.2, k3, k4⟩
  clear hm hmb hbg s1 s2 s3 s4 k3 k4 VA HL3 DH3 M13 T1 T2 T3 T4 G0 HB TT gb K1
  have ba0 := BA.out.cell 0 (by simp)
  have ba1 := BA.out.cell 1 (by simp)
  have bah := BA.out.has
  simp only [List.getElem_cons_zero, List.getElem_cons_succ] at ba0 ba1
  by_cases hok : ¬ (oka = true ∧ okb = true)
  · have ho : (oka = false) ∨ (oka = true ∧ okb = false) := by cases oka <;> cases okb <;> simp_all
    clear hok
    rcases ho with rfl | ⟨rfl, rfl⟩
    all_goals
      go_wp2_with fail
      refine (awake_any _).mono ?_
      rintro e w' ⟨rfl, hg⟩
      have HE := Lib.hid hg
      clear hg
      go_wp2_with fail
      go_ret
      exact ⟨rfl, GW4.out.trans (Gr.trans (by repeat (first | with_reducible exact Gr.refl _ | with_reducible refine Gr.alloc _ ?_ | with_reducible refine Gr.xt _ _ ?_ | with_reducible refine Gr.drew ?_)) HE.out)⟩
  obtain ⟨rfl, rfl⟩ := Classical.not_not.1 hok
  clear hok
  have MA := Lib.hid (HMA.out rfl)
  have MB := Lib.hid (HMB.out rfl)
  clear HMA HMB
  have RA := Lib.hid MA.out.2.1
  have RB' := Lib.hid MB.out.2.1
  have wa := ok_wide RA.out
  have wb := ok_wide RB'.out
  have F1 := Lib.hid wa.2.1
  have F2 := Lib.hid wa.2.2
  have F3 := Lib.hid wb.2.1
  have F4 := Lib.hid wb.2.2
  clear wa wb
  have FL : Hid (Fit l.length) := Lib.hid (by unfold Fit; omega)
  have FD : Hid (Fit d.length) := Lib.hid (by have := HD.out.2.1; unfold Fit; omega)
  go_wp2_with fail
  have hPE : Hid (planE l ra rb d = 0) := Lib.hid (planE_zero MA.out MB.out)
  have hPP : Hid (planP l ra rb d = planL l.length ra rb) := Lib.hid (by rw [planP, if_pos hPE.out])
  refine (plan_any l ra rb d ao a1 a2 a3 a4 ad cp c1 c2 c3 c4 cd _ (sups_gr SL.out (by repeat (first | with_reducible exact Gr.refl _ | with_reducible refine Gr.alloc _ ?_ | with_reducible refine Gr.xt _ _ ?_ | with_reducible refine Gr.drew ?_))) FL.out (S1.out.giB (by repeat (first | with_reducible exact Gr.refl _ | with_reducible refine Gr.alloc _ ?_ | with_reducible refine Gr.xt _ _ ?_ | with_reducible refine Gr.drew ?_))) (S2.out.giI (by repeat (first | with_reducible exact Gr.refl _ | with_reducible refine Gr.alloc _ ?_ | with_reducible refine Gr.xt _ _ ?_ | with_reducible refine Gr.drew ?_))) (S3.out.giB (by repeat (first | with_reducible exact Gr.refl _ | with_reducible refine Gr.alloc _ ?_ | with_reducible refine Gr.xt _ _ ?_ | with_reducible refine Gr.drew ?_))) (S4.out.giI (by repeat (first | with_reducible exact Gr.refl _ | with_reducible refine Gr.alloc _ ?_ | with_reducible refine Gr.xt _ _ ?_ | with_reducible refine Gr.drew ?_))) (drws_gr SD.out (by repeat (first | with_reducible exact Gr.refl _ | with_reducible refine Gr.alloc _ ?_ | with_reducible refine Gr.xt _ _ ?_ | with_reducible refine Gr.drew ?_))) K.out.1 K.out.2.1 K.out.2.2.1 K.out.2.2.2 F1.out F2.out F3.out F4.out FD.out).mono ?_
  rw [hPP.out, hPE.out]
  rintro e W5 ⟨ap, cpl, rfl, kp, sp, hg⟩
  obtain ⟨ps, hps⟩ : ∃ ps, Hid (ps = planL l.length ra rb) := ⟨_, Lib.hid rfl⟩
  rw [← hps.out] at kp sp ⊢
  have SP := Lib.hid sp
  have G5 : Hid (Gr W4 W5) := Lib.hid (Gr.trans ((Gr.refl _).alloc _) hg)
  have PL := Lib.hid (plan_law MA.out MB.out)
  rw [← hps.out] at PL
  have PN : ps.length ≤ 1000 := by have := planL_len l.length ra rb; rw [← hps.out] at this; omega
  have WW : Hid (∀ p ∈ ps, WOk l p) := Lib.hid (by
    obtain ⟨c, htr, _⟩ := PL.out
    intro p hp
    obtain ⟨i, hi, rfl⟩ := List.getElem_of_mem hp
    exact (htr i hi).1.1)
  have bb0 : W5.cell? ⟨W4.heap.size, 0, none⟩ = some (.slice a3 rb.on.length c3) := cell_gr hg (by simp [go_sem])
  have bb1 : W5.cell? ⟨W4.heap.size, 1, none⟩ = some (.slice a4 rb.level.length c4) := cell_gr hg (by simp [go_sem])
  replace ba0 := cell_gr G5.out ba0
  replace ba1 := cell_gr G5.out ba1
  replace bah := has_of_cell ba0
  have bbh := has_of_cell bb0
  clear hg sp hPE hPP
  go_wp2_with fail
  refine (refStates_ok l ra ps ao a1 a2 ap cp c1 c2 cpl _ (sups_gr SL.out (G5.out.trans (by repeat (first | with_reducible exact Gr.refl _ | with_reducible refine Gr.alloc _ ?_ | with_reducible refine Gr.xt _ _ ?_ | with_reducible refine Gr.drew ?_)))) (S1.out.giB (G5.out.trans (by repeat (first | with_reducible exact Gr.refl _ | with_reducible refine Gr.alloc _ ?_ | with_reducible refine Gr.xt _ _ ?_ | with_reducible refine Gr.drew ?_)))) (S2.out.giI (G5.out.trans (by repeat (first | with_reducible exact Gr.refl _ | with_reducible refine Gr.alloc _ ?_ | with_reducible refine Gr.xt _ _ ?_ | with_reducible refine Gr.drew ?_)))) (SP.out.gr RWri.mono (by repeat (first | with_reducible exact Gr.refl _ | with_reducible refine Gr.alloc _ ?_ | with_reducible refine Gr.xt _ _ ?_ | with_reducible refine Gr.drew ?_))) K.out.1 K.out.2.1 RA.out WW.out (by omega) PN).mono ?_
  rintro e W7 ⟨as', cs, rfl, ks, ss, hg⟩
  have SS := Lib.hid ss
  have G7 : Hid (Gr W5 W7) := Lib.hid hg
  have G47 : Hid (Gr W4 W7) := Lib.hid (G5.out.trans hg)
  obtain ⟨c, htr, hend⟩ := PL.out
  have TR := Lib.hid htr
  have EN := Lib.hid hend
  have MT := Lib.hid (tr_meets MA.out htr)
  replace ba0 := cell_gr hg ba0
  replace ba1 := cell_gr hg ba1
  replace bah := has_of_cell ba0
  replace bb0 := cell_gr hg bb0
  replace bb1 := cell_gr hg bb1
  replace bbh := has_of_cell bb0
  have BA7 : Hid (W7.cell? ⟨W3.heap.size, 0, none⟩ = some (.slice a1 ra.on.length c1) ∧ W7.cell? ⟨W3.heap.size, 1, none⟩ = some (.slice a2 ra.level.length c2)) := Lib.hid ⟨ba0, ba1⟩
  clear hg ss htr hend PL
  rw [stsK_len]
  go_wp2_with fail
  have hst : Hid (runW ra (ps.take ps.length) = rb) := Lib.hid (by rw [List.take_length]; exact EN.out)
  go_loopw [15] (fun i wr => ∃ (k : Nat) (x1 x2 : Option Addr) (y1 y2 : Nat), k ≤ ps.length ∧ i = .int .i64 ((k : Int) - 1) ∧ Gr W7 wr ∧ Row wr W7.heap.size 31 [.slice x1 (runW ra (ps.take k)).on.length y1, .slice x2 (runW ra (ps.take k)).level.length y2] ∧ (runW ra (ps.take k)).on.length ≤ y1 ∧ (runW ra (ps.take k)).level.length ≤ y2 ∧ SlOf 1 RB wr x1 (runW ra (ps.take k)).on ∧ SlOf 1 RI wr x2 (runW ra (ps.take k)).level) (fun i _ => (intOf i + 1).toNat)
  case atStart =>
    refine ⟨ps.length, a3, a4, c3, c4, Nat.le_refl _, rfl, (Gr.refl _).alloc _, ?_⟩
    rw [hst.out]
    exact ⟨Row.new W7 _ _, K.out.2.2.1, K.out.2.2.2, S3.out.giB (G47.out.trans ((Gr.refl _).alloc _)), S4.out.giI (G47.out.trans ((Gr.refl _).alloc _))⟩
  case round =>
    clear ba0 ba1 bah bb0 bb1 bbh
    obtain ⟨k, x1, x2, y1, y2, hk, rfl, hg, hr, ky1, ky2, hs1, hs2⟩ := hrel
    have HG := Lib.hid hg
    have HR := Lib.hid hr
    have KY : Hid ((runW ra (ps.take k)).on.length ≤ y1 ∧ (runW ra (ps.take k)).level.length ≤ y2) := Lib.hid ⟨ky1, ky2⟩
    have H1 := Lib.hid hs1
    have H2 := Lib.hid hs2
    clear hg hr ky1 ky2 hs1 hs2
    by_cases h0 : 0 < k
    · obtain ⟨j, rfl⟩ : ∃ j, k = j + 1 := ⟨k - 1, by omega⟩
      have hlt : j < ps.length := by omega
      rw [show ((j + 1 : Nat) : Int) - 1 = (j : Int) from by omega]
      obtain ⟨bp, op, rfl, ⟨p0, -⟩, ⟨p1, -⟩, ⟨p2, -⟩⟩ := (SP.out.gr RWri.mono (G7.out.trans HG.out)) j hlt
      obtain ⟨bs, os, rfl, ⟨z0, m0, q0, l0, -, s0⟩, ⟨z1, m1, q1, l1, -, s1⟩⟩ := (SS.out.gr RRls.mono HG.out) j (by rw [stsK_len]; omega)
      rw [stsK_at] at q0 q1
      simp only [stsK_at] at s0 s1 l0 l1
      have hP := TR.out j hlt
      have hok := runW_take_ok ps RA.out WW.out j
      have hokk := runW_take_ok ps RA.out WW.out (j + 1)
      have MJ := Lib.hid (MT.out j (by omega))
      have hw := WW.out ps[j] (List.getElem_mem hlt)
      have hsu := runW_succ ra ps j hlt
      obtain ⟨X, hX⟩ : ∃ X, X = runW ra (ps.take j) := ⟨_, rfl⟩
      obtain ⟨Y, hY⟩ : ∃ Y, Y = runW ra (ps.take (j + 1)) := ⟨_, rfl⟩
      rw [← hX] at q0 q1 s0 s1 hP hok l0 l1 hsu MJ
      rw [← hY] at HR KY H1 H2 hokk hsu
      obtain ⟨pk, hpk⟩ : ∃ pk, pk = ps[j] := ⟨_, rfl⟩
      rw [← hpk] at p0 p1 p2 hP hw hsu
      have EX := Lib.hid hX
      clear hX hpk hY
      have HUA : Hid (applyR Y (undoW X pk) = X) := Lib.hid (by rw [hsu]; exact undo_app hok hw hP.1.2.2)
      have HUW := Lib.hid (undo_wok hok hw)
      have ROX := Lib.hid hok
      have ROY := Lib.hid hokk
      have wx := ok_wide hok
      have FX1 := Lib.hid wx.2.1
      have FX2 := Lib.hid wx.2.2
      have wy := ok_wide hokk
      have FY1 := Lib.hid wy.2.1
      have FY2 := Lib.hid wy.2.2
      have hvv := undo_val hw
      have n2 := hok.2.2.1
      obtain ⟨kd, un, vl⟩ := pk
      obtain ⟨hkd, hu0, hu1, -⟩ := hw
      simp only at p0 p1 p2 hkd hu0 hu1 hvv
      obtain ⟨u, rfl⟩ : ∃ u : Nat, un = (u : Int) := ⟨un.toNat, by omega⟩
      obtain ⟨b2, o2, rfl, v2, -⟩ := s1.one u (by omega)
      rw [← lvAt_eq (by omega)] at v2
      have i2 : (u : Int) < X.level.length := by omega
      have ZO := Lib.hid s0
      have ZL := Lib.hid s1
      have VL := Lib.hid v2
      have Q0 := Lib.hid q0
      have Q1 := Lib.hid q1
      have UW : Hid (WWide (undoW X ⟨kd, u, vl⟩)) := Lib.hid (by
        refine ⟨?_, ?_, ?_⟩
        · show Wide kd
          unfold Wide; omega
        · show Wide (u : Int)
          unfold Wide; omega
        · show Wide (if kd = 2 then lvAt X (u : Int).toNat else 1 - vl)
          split
          · exact rls_wide hok _
          · have := hvv (by omega)
            unfold Wide; omega)
      have ph := has_of_cell p0
      have kp : (j : Int) < ps.length := by omega
      have k0 : (0 : Int) ≤ j := by omega
      have kq : (j : Int) < ps.length + 1 := by omega
      clear hP hok hokk hsu wx wy s0 s1 v2 q0 q1 n2 l0 l1
      go_upto_if 82 with fail
      obtain ⟨uv, huv⟩ : ∃ uv, Hid (uv = (undoW X ⟨kd, u, vl⟩).value) := ⟨_, Lib.hid rfl⟩
      obtain ⟨wb, hwb⟩ : ∃ wb : World, Hid (wb = wr.alloc (.cells #[.int .i64 kd, .int .i64 u, .int .i64 vl] 46)) := ⟨_, Lib.hid rfl⟩
      have GB : Hid (Gr wr wb) := Lib.hid (by rw [hwb.out]; exact (Gr.refl _).alloc _)
      have RWB : Hid (Row wb wr.heap.size 46 [.int .i64 kd, .int .i64 u, .int .i64 vl]) := Lib.hid (by rw [hwb.out]; exact Row.new wr _ _)
      rw [← hwb.out]
      clear p0 p1 p2 ph
      go_cut [] (fun wx => Gr wr wx ∧ Row wx wr.heap.size 46 [.int .i64 kd, .int .i64 u, .int .i64 uv])
      case first =>
        have p0 := RWB.out.cell 0 (by simp)
        have p1 := RWB.out.cell 1 (by simp)
        have p2 := RWB.out.cell 2 (by simp)
        have pf := RWB.out.free 2
        have ph := RWB.out.has
        simp only [List.getElem_cons_zero, List.getElem_cons_succ] at p0 p1 p2
        have q1 := cell_gr GB.out Q1.out
        have v2 := cell_gr GB.out VL.out
        have q1h := has_of_cell q1
        have v2h := has_of_cell v2
        have u0 : (0 : Int) ≤ u := by omega
        rcases hkd with hkd | hkd
        · subst hkd
          go_wp2_with fail
          refine wp_region_grows_tail 10 (by kernel_rfl) (by kernel_rfl) ?_
          simp only [List.take_succ_cons, List.take_zero, List.drop_succ_cons, List.drop_zero]
          repeat (go_big_quiet_step (fail))
          refine wpQuiet_nil ?_
          rintro _ ⟨⟨O5, d5⟩, rfl⟩
          go_wp2_with fail
          go_meet
          have e : uv = lvAt X u := by rw [huv.out]; simp [undoW]
          rw [e]
          exact ⟨((GB.out.setc (Nat.le_refl _)).xt _ _), (RWB.out.set 2 _).xt _ _⟩
        · subst hkd
          have h1 := hvv rfl
          have h2 : (0 : Int) ≤ vl := by omega
          have h3 : vl ≤ 1 := by omega
          clear h1
          go_wp2_with fail
          go_meet
          have e : uv = 1 - vl := by rw [huv.out]; simp [undoW]
          rw [e]
          exact ⟨GB.out.setc (Nat.le_refl _), RWB.out.set 2 _⟩
      obtain ⟨hgc, hrc⟩ := hcut
      obtain ⟨W8, rfl⟩ : ∃ W8 : World, W8 = wc := ⟨_, rfl⟩
      have GC := Lib.hid hgc
      have p0 := hrc.cell 0 (by simp)
      have p1 := hrc.cell 1 (by simp)
      have p2 := hrc.cell 2 (by simp)
      have ph := hrc.has
      have A := HR.out.gr hgc
      have r0 := A.cell 0 (by simp)
      have r1 := A.cell 1 (by simp)
      have rh := A.has
      simp only [List.getElem_cons_zero, List.getElem_cons_succ] at p0 p1 p2 r0 r1
      have HP0 : Hid (appE l Y (undoW X ⟨kd, u, vl⟩) = 0) := Lib.hid (HUW.out.appE ROY.out)
      have HPP : Hid (appP l Y (undoW X ⟨kd, u, vl⟩) = X) := Lib.hid (by rw [appP, if_pos HP0.out, HUA.out])
      have hun : Hid (undoW X ⟨kd, u, vl⟩ = ⟨kd, u, uv⟩) := Lib.hid (by rw [huv.out]; rfl)
      clear hgc hrc A hwb GB RWB
      go_wp2_with fail
      refine (apply_any l Y ⟨kd, u, uv⟩ _ x1 x2 cp y1 y2 _ (sups_gr SL.out (G47.out.trans (HG.out.trans (GC.out.trans (by repeat (first | with_reducible exact Gr.refl _ | with_reducible refine Gr.alloc _ ?_ | with_reducible refine Gr.xt _ _ ?_ | with_reducible refine Gr.drew ?_)))))) FL.out (H1.out.giB (GC.out.trans (by repeat (first | with_reducible exact Gr.refl _ | with_reducible refine Gr.alloc _ ?_ | with_reducible refine Gr.xt _ _ ?_ | with_reducible refine Gr.drew ?_)))) (H2.out.giI (GC.out.trans (by repeat (first | with_reducible exact Gr.refl _ | with_reducible refine Gr.alloc _ ?_ | with_reducible refine Gr.xt _ _ ?_ | with_reducible refine Gr.drew ?_)))) KY.out.1 KY.out.2 FY1.out FY2.out (by rw [← hun.out]; exact UW.out)).mono ?_
      rw [← hun.out, HPP.out, HP0.out]
      rintro e W9 ⟨g1, g2, cg1, cg2, rfl, kg1, kg2, og1, og2, hg9⟩
      have SG1 := Lib.hid og1.slB
      have SG2 := Lib.hid (og2.slI (ok_wide ROX.out).1)
      have G9 : Hid (Gr wr W9) := Lib.hid (GC.out.trans hg9)
      have G79 : Hid (Gr W7 W9) := Lib.hid (HG.out.trans G9.out)
      have G49 : Hid (Gr W4 W9) := Lib.hid (G47.out.trans G79.out)
      have KG : Hid (X.on.length ≤ cg1 ∧ X.level.length ≤ cg2) := Lib.hid ⟨kg1, kg2⟩
      clear p0 p1 p2 ph r0 r1 rh og1 og2 hg9 kg1 kg2
      have q0 := cell_gr G9.out Q0.out
      have q1 := cell_gr G9.out Q1.out
      have q1h := has_of_cell q1
      have RB9 := Lib.hid (HR.out.gr G9.out)
      have r0 := RB9.out.cell 0 (by simp)
      have r1 := RB9.out.cell 1 (by simp)
      have rf0 := RB9.out.free 0
      have rf1 := RB9.out.free 1
      have rh := RB9.out.has
      simp only [List.getElem_cons_zero, List.getElem_cons_succ] at r0 r1
      go_wp2_with fail
      refine wp_region_grows (by kernel_rfl) (by kernel_rfl) ?_
      repeat (go_big_quiet_step (first
        | (go_at_call 18; exact calls_grows (sameRails_yes X g1 g2 z0 _ cg1 cg2 m0 m1 _ (SG1.out.giB (by repeat (first | with_reducible exact Gr.refl _ | with_reducible refine Gr.alloc _ ?_ | with_reducible refine Gr.xt _ _ ?_ | with_reducible refine Gr.drew ?_))) (SG2.out.giI (by repeat (first | with_reducible exact Gr.refl _ | with_reducible refine Gr.alloc _ ?_ | with_reducible refine Gr.xt _ _ ?_ | with_reducible refine Gr.drew ?_))) (ZO.out.giB (G9.out.trans (by repeat (first | with_reducible exact Gr.refl _ | with_reducible refine Gr.alloc _ ?_ | with_reducible refine Gr.xt _ _ ?_ | with_reducible refine Gr.drew ?_)))) (ZL.out.giI (G9.out.trans (by repeat (first | with_reducible exact Gr.refl _ | with_reducible refine Gr.alloc _ ?_ | with_reducible refine Gr.xt _ _ ?_ | with_reducible refine Gr.drew ?_)))) FX1.out FX2.out))
        | (go_at_call 16; exact calls_grows (refMeets_yes l X d MJ.out ao g1 g2 ad cp cg1 cg2 cd _ (sups_gr SL.out (G49.out.trans (by repeat (first | with_reducible exact Gr.refl _ | with_reducible refine Gr.alloc _ ?_ | with_reducible refine Gr.xt _ _ ?_ | with_reducible refine Gr.drew ?_)))) FL.out (SG1.out.giB (by repeat (first | with_reducible exact Gr.refl _ | with_reducible refine Gr.alloc _ ?_ | with_reducible refine Gr.xt _ _ ?_ | with_reducible refine Gr.drew ?_))) (SG2.out.giI (by repeat (first | with_reducible exact Gr.refl _ | with_reducible refine Gr.alloc _ ?_ | with_reducible refine Gr.xt _ _ ?_ | with_reducible refine Gr.drew ?_))) (drws_gr SD.out (G49.out.trans (by repeat (first | with_reducible exact Gr.refl _ | with_reducible refine Gr.alloc _ ?_ | with_reducible refine Gr.xt _ _ ?_ | with_reducible refine Gr.drew ?_)))) FX1.out FX2.out FD.out))))
      refine wpQuiet_nil ?_
      rintro _ ⟨⟨O6, d6⟩, rfl⟩
      go_wp2_with fail
      go_roundw
      case rel =>
        refine ⟨j, g1, g2, cg1, cg2, by omega, by go_num, ?_, ?_⟩
        · (repeat (first | with_reducible exact G79.out | with_reducible refine Gr.setc (Nat.le_refl _) ?_ | with_reducible refine Gr.alloc _ ?_ | with_reducible refine Gr.xt _ _ ?_))
        · rw [← EX.out]
          have KB1 := SG1.out.keepB (v' := .slice g1 X.on.length cg1) r0 (by intro x e; cases e)
          have KB2 := SG2.out.keepI (v' := .slice g1 X.on.length cg1) r0 (by intro k x e; cases e)
          have r1' : (W9.setCell ⟨W7.heap.size, 0, none⟩ (.slice g1 X.on.length cg1)).cell? ⟨W7.heap.size, 1, none⟩ = some (.slice x2 Y.level.length y2) := by
            rw [World.cell?_setCell_other]
            · exact r1
            · simp
          refine ⟨?_, KG.out.1, KG.out.2, ?_, ?_⟩
          · (repeat (first | with_reducible refine Row.alloc _ ?_ | with_reducible refine Row.xt _ _ ?_))
            exact (RB9.out.set 0 _).set 1 _
          · exact (KB1.keepB (v' := .slice g2 X.level.length cg2) r1' (by intro x e; cases e)).giB (by repeat (first | with_reducible exact Gr.refl _ | with_reducible refine Gr.alloc _ ?_ | with_reducible refine Gr.xt _ _ ?_ | with_reducible refine Gr.drew ?_))
          · exact (KB2.keepI (v' := .slice g2 X.level.length cg2) r1' (by intro k x e; cases e)).giI (by repeat (first | with_reducible exact Gr.refl _ | with_reducible refine Gr.alloc _ ?_ | with_reducible refine Gr.xt _ _ ?_ | with_reducible refine Gr.drew ?_))
      case measure => simp [intOf]
    · have hk0 : k = 0 := by omega
      subst hk0
      rw [show ((0 : Nat) : Int) - 1 = -1 from by omega]
      have e0 : runW ra (ps.take 0) = ra := by simp [runW]
      rw [e0] at HR KY H1 H2
      clear e0
      have r0 := HR.out.cell 0 (by simp)
      have r1 := HR.out.cell 1 (by simp)
      have rh := HR.out.has
      simp only [List.getElem_cons_zero, List.getElem_cons_succ] at r0 r1
      have ba0 := cell_gr HG.out BA7.out.1
      have ba1 := cell_gr HG.out BA7.out.2
      have bah := has_of_cell ba0
      go_wp2_with fail
      refine (sameRails_yes ra x1 x2 a1 a2 y1 y2 c1 c2 _ H1.out H2.out (S1.out.giB (G47.out.trans HG.out)) (S2.out.giI (G47.out.trans HG.out)) F1.out F2.out).mono ?_
      rintro e w' ⟨rfl, O1, d1, rfl⟩
      go_wp2_with fail
      refine (awake_any _).mono ?_
      rintro e w' ⟨rfl, hg⟩
      have HE := Lib.hid hg
      clear hg
      go_wp2_with fail
      go_ret
      exact ⟨rfl, GW4.out.trans (G47.out.trans (HG.out.trans (Gr.trans (by repeat (first | with_reducible exact Gr.refl _ | with_reducible refine Gr.alloc _ ?_ | with_reducible refine Gr.xt _ _ ?_ | with_reducible refine Gr.drew ?_)) HE.out)))⟩
end Go.Proofs.Ytoenkcojfogmmaa
