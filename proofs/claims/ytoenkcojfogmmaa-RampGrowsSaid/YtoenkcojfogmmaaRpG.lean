/- The walk of RampGrows (the beginning printed by wip/tools/ramps.py). -/
import Derived.Test.YtoenkcojfogmmaaRmpG
import Derived.Test.YtoenkcojfogmmaaRmpH
import Derived.Test.YtoenkcojfogmmaaNewTape
import Derived.Test.YtoenkcojfogmmaaMkD
import Derived.Test.YtoenkcojfogmmaaPlB
import Derived.Test.YtoenkcojfogmmaaRpA
import Derived.Test.YtoenkcojfogmmaaRgA
import Derived.Test.YtoenkcojfogmmaaRgB
import Derived.Test.YtoenkcojfogmmaaRgC
import Derived.Deep.DeepCutAuto
set_option linter.unusedVariables false
set_option linter.unusedSimpArgs false
namespace Go.Proofs.Ytoenkcojfogmmaa
open Go.RowKit
open Classical

set_option maxRecDepth 100000 in
set_option maxHeartbeats 8000000 in
theorem grows_walk (a : Option Addr) (len cap : Nat) (zs : List Int) (w : World) (h : RowIn w a len cap zs) :
    Calls Try.prog 3 #[.slice a len cap] w (Grows w (.bool true)) := by
  have H := Lib.hid h
  clear h
  go_enter Try.func3, Try.ntmps3
  go_wp2_with fail
  refine (newTape_any w a len cap zs H.out).mono ?_
  rintro e W0 ⟨b, n, rfl, ht, hg, hb, _⟩
  have TT : Hid (Tp W0 b n) := Lib.hid ⟨_, ht⟩
  have G0 := Lib.hid hg
  have HB := Lib.hid hb
  clear ht hg hb
  go_wp2_with fail
  refine (supplies_any W0 b n 8 TT.out (by omega) (by omega)).mono ?_
  rintro e W1 ⟨l, ao, cp, rfl, hc, hl1, hl7, hlc, hl, hm⟩
  have HL := Lib.hid hl
  have HC := Lib.hid hc
  have M1 := Lib.hid hm
  clear hl hc hm
  have T1 := Lib.hid (M1.out.tp TT.out)
  go_wp2_with fail
  refine (mkDraws_any l ao cp W1 b n 3 T1.out HL.out HC.out (by omega) (by omega)).mono ?_
  rintro e W2 ⟨d, ad, cd, rfl, hd, hdc, hdh, hm⟩
  have HD := Lib.hid hd
  have DH := Lib.hid hdh
  have M2 := Lib.hid hm
  have T2 := Lib.hid (hm.tp T1.out)
  have HL2 := Lib.hid (HL.out.mv T1.out.has hm (mono_sups _ _))
  clear hd hdh hm
  go_wp2_with fail
  refine (near_any l d ao ad cp cd W2 b n T2.out HL2.out DH.out HD.out (by omega)).mono ?_
  rintro e W3 ⟨ra, va, oka, rfl, hva, hma, hm⟩
  have M3 := Lib.hid hm
  have T3 := Lib.hid (hm.tp T2.out)
  have HL3 := Lib.hid (HL2.out.mv T2.out.has hm (mono_sups _ _))
  have DH3 := Lib.hid (DH.out.mv T2.out.has hm (mono_drws _ _))
  have HMA := Lib.hid hma
  have VA := Lib.hid hva
  clear hm hma HL2 DH HL
  obtain ⟨a1, a2, c1, c2, rfl, k1, k2, s1, s2⟩ := hva
  have K1 : Hid (ra.on.length ≤ c1 ∧ ra.level.length ≤ c2) := Lib.hid ⟨k1, k2⟩
  clear k1 k2 s1 s2
  have gb : Hid (Gr W3 (W3.alloc (.cells #[.slice a1 ra.on.length c1, .slice a2 ra.level.length c2] 31))) := Lib.hid ((Gr.refl _).alloc _)
  have M13 : Hid (Mv b n W0 (W3.alloc (.cells #[.slice a1 ra.on.length c1, .slice a2 ra.level.length c2] 31))) := Lib.hid ((M1.out.trans TT.out.has (M2.out.trans T1.out.has M3.out)).gr gb.out)
  clear M1 M2 M3
  go_wp2_with fail
  refine (near_any l d ao ad cp cd _ b n (T3.out.gr gb.out) (HL3.out.gr T3.out.has gb.out (mono_sups _ _)) (DH3.out.gr T3.out.has gb.out (mono_drws _ _)) HD.out (by omega)).mono ?_
  rintro e W4 ⟨rb, vb, okb, rfl, hvb, hmb, hm⟩
  have hbg := (T3.out.gr gb.out).has
  have T4 := Lib.hid (hm.tp (T3.out.gr gb.out))
  have SL := Lib.hid (((HL3.out.gr T3.out.has gb.out (mono_sups _ _)).mv hbg hm (mono_sups _ _)).now T4.out)
  have SD := Lib.hid (((DH3.out.gr T3.out.has gb.out (mono_drws _ _)).mv hbg hm (mono_drws _ _)).now T4.out)
  have GW4 : Hid (Gr w W4) := Lib.hid (Mv.out G0.out (M13.out.trans TT.out.has hm) HB.out)
  have HMB := Lib.hid hmb
  have BA : Hid (Row W4 W3.heap.size 31 [.slice a1 ra.on.length c1, .slice a2 ra.level.length c2]) := Lib.hid (hm.row (Row.new W3 _ _) (by have := T3.out.has; omega))
  obtain ⟨a1', a2', c1', c2', ee, _, _, s1, s2⟩ := (VA.out.gr T3.out.has gb.out).mv hbg hm
  simp only [Value.agg.injEq, Array.mk.injEq, List.cons.injEq, Value.slice.injEq, and_true, true_and] at ee
  obtain ⟨⟨rfl, rfl⟩, ⟨rfl, rfl⟩⟩ := ee
  obtain ⟨a3, a4, c3, c4, rfl, k3, k4, s3, s4⟩ := hvb
  have S1 := Lib.hid (s1.now T4.out)
  have S2 := Lib.hid (s2.now T4.out)
  have S3 := Lib.hid (s3.now T4.out)
  have S4 := Lib.hid (s4.now T4.out)
  have K : Hid (ra.on.length ≤ c1 ∧ ra.level.length ≤ c2 ∧ rb.on.length ≤ c3 ∧ rb.level.length ≤ c4) := Lib.hid ⟨K1.out.1, K1.out.2, k3, k4⟩
  clear hm hmb hbg s1 s2 s3 s4 k3 k4 VA HL3 DH3 M13 T1 T2 T3 T4 G0 HB TT gb K1
  have ba0 := BA.out.cell 0 (by simp)
  have ba1 := BA.out.cell 1 (by simp)
  have bah := BA.out.has
  simp only [List.getElem_cons_zero, List.getElem_cons_succ] at ba0 ba1
  by_cases hok : ¬ (oka = true ∧ okb = true)
  · have ho : (oka = false) ∨ (oka = true ∧ okb = false) := by cases oka <;> cases okb <;> simp_all
    clear hok
    rcases ho with rfl | ⟨rfl, rfl⟩
    all_goals
      go_wp2_with fail
      refine (awake_any _).mono ?_
      rintro e w' ⟨rfl, hg⟩
      have HE := Lib.hid hg
      clear hg
      go_wp2_with fail
      go_ret
      exact ⟨rfl, GW4.out.trans (Gr.trans (by repeat (first | with_reducible exact Gr.refl _ | with_reducible refine Gr.alloc _ ?_ | with_reducible refine Gr.xt _ _ ?_ | with_reducible refine Gr.drew ?_)) HE.out)⟩
  obtain ⟨rfl, rfl⟩ := Classical.not_not.1 hok
  clear hok
  have MA := Lib.hid (HMA.out rfl)
  have MB := Lib.hid (HMB.out rfl)
  clear HMA HMB
  have RA := Lib.hid MA.out.2.1
  have RB' := Lib.hid MB.out.2.1
  have wa := ok_wide RA.out
  have wb := ok_wide RB'.out
  have F1 := Lib.hid wa.2.1
  have F2 := Lib.hid wa.2.2
  have F3 := Lib.hid wb.2.1
  have F4 := Lib.hid wb.2.2
  clear wa wb
  have FL : Hid (Fit l.length) := Lib.hid (by unfold Fit; omega)
  have FD : Hid (Fit d.length) := Lib.hid (by have := HD.out.2.1; unfold Fit; omega)
  go_wp2_with fail
  have hPE : Hid (planE l ra rb d = 0) := Lib.hid (planE_zero MA.out MB.out)
  have hPP : Hid (planP l ra rb d = planL l.length ra rb) := Lib.hid (by rw [planP, if_pos hPE.out])
  refine (plan_any l ra rb d ao a1 a2 a3 a4 ad cp c1 c2 c3 c4 cd _ (sups_gr SL.out (by repeat (first | with_reducible exact Gr.refl _ | with_reducible refine Gr.alloc _ ?_ | with_reducible refine Gr.xt _ _ ?_ | with_reducible refine Gr.drew ?_))) FL.out (S1.out.giB (by repeat (first | with_reducible exact Gr.refl _ | with_reducible refine Gr.alloc _ ?_ | with_reducible refine Gr.xt _ _ ?_ | with_reducible refine Gr.drew ?_))) (S2.out.giI (by repeat (first | with_reducible exact Gr.refl _ | with_reducible refine Gr.alloc _ ?_ | with_reducible refine Gr.xt _ _ ?_ | with_reducible refine Gr.drew ?_))) (S3.out.giB (by repeat (first | with_reducible exact Gr.refl _ | with_reducible refine Gr.alloc _ ?_ | with_reducible refine Gr.xt _ _ ?_ | with_reducible refine Gr.drew ?_))) (S4.out.giI (by repeat (first | with_reducible exact Gr.refl _ | with_reducible refine Gr.alloc _ ?_ | with_reducible refine Gr.xt _ _ ?_ | with_reducible refine Gr.drew ?_))) (drws_gr SD.out (by repeat (first | with_reducible exact Gr.refl _ | with_reducible refine Gr.alloc _ ?_ | with_reducible refine Gr.xt _ _ ?_ | with_reducible refine Gr.drew ?_))) K.out.1 K.out.2.1 K.out.2.2.1 K.out.2.2.2 F1.out F2.out F3.out F4.out FD.out).mono ?_
  rw [hPP.out, hPE.out]
  rintro e W5 ⟨ap, cpl, rfl, kp, sp, hg⟩
  obtain ⟨ps, hps⟩ : ∃ ps, Hid (ps = planL l.length ra rb) := ⟨_, Lib.hid rfl⟩
  rw [← hps.out] at kp sp ⊢
  have SP := Lib.hid sp
  have G5 : Hid (Gr W4 W5) := Lib.hid (Gr.trans ((Gr.refl _).alloc _) hg)
  have PL := Lib.hid (plan_law MA.out MB.out)
  rw [← hps.out] at PL
  have PN : ps.length ≤ 1000 := by have := planL_len l.length ra rb; rw [← hps.out] at this; omega
  have WW : Hid (∀ p ∈ ps, WOk l p) := Lib.hid (by
    obtain ⟨c, htr, _⟩ := PL.out
    intro p hp
    obtain ⟨i, hi, rfl⟩ := List.getElem_of_mem hp
    exact (htr i hi).1.1)
  have bb0 : W5.cell? ⟨W4.heap.size, 0, none⟩ = some (.slice a3 rb.on.length c3) := cell_gr hg (by simp [go_sem])
  have bb1 : W5.cell? ⟨W4.heap.size, 1, none⟩ = some (.slice a4 rb.level.length c4) := cell_gr hg (by simp [go_sem])
  replace ba0 := cell_gr G5.out ba0
  replace ba1 := cell_gr G5.out ba1
  replace bah := has_of_cell ba0
  have bbh := has_of_cell bb0
  clear hg sp hPE hPP
  have hBab : Hid (begR l [ra, rb] = 0) := Lib.hid (begR_of MA.out.1.1 (by simp; exact ⟨RA.out, RB'.out⟩))
  have hJab : Hid (joinP l ra rb = joinR ra rb) := Lib.hid (by rw [joinP, if_pos hBab.out])
  go_wp2_with fail
  refine (bigJoin_any l ra rb ao a1 a2 a3 a4 cp c1 c2 c3 c4 _ (sups_gr SL.out (G5.out.trans (by repeat (first | with_reducible exact Gr.refl _ | with_reducible refine Gr.alloc _ ?_ | with_reducible refine Gr.xt _ _ ?_ | with_reducible refine Gr.drew ?_)))) FL.out (S1.out.giB (G5.out.trans (by repeat (first | with_reducible exact Gr.refl _ | with_reducible refine Gr.alloc _ ?_ | with_reducible refine Gr.xt _ _ ?_ | with_reducible refine Gr.drew ?_)))) (S2.out.giI (G5.out.trans (by repeat (first | with_reducible exact Gr.refl _ | with_reducible refine Gr.alloc _ ?_ | with_reducible refine Gr.xt _ _ ?_ | with_reducible refine Gr.drew ?_)))) (S3.out.giB (G5.out.trans (by repeat (first | with_reducible exact Gr.refl _ | with_reducible refine Gr.alloc _ ?_ | with_reducible refine Gr.xt _ _ ?_ | with_reducible refine Gr.drew ?_)))) (S4.out.giI (G5.out.trans (by repeat (first | with_reducible exact Gr.refl _ | with_reducible refine Gr.alloc _ ?_ | with_reducible refine Gr.xt _ _ ?_ | with_reducible refine Gr.drew ?_)))) K.out.1 K.out.2.1 K.out.2.2.1 K.out.2.2.2 F1.out F2.out F3.out F4.out).mono ?_
  rw [hJab.out, hBab.out]
  rintro e W6 ⟨j1, j2, cj1, cj2, rfl, kj1, kj2, sj1, sj2, hg⟩
  have J1 := Lib.hid sj1
  have J2 := Lib.hid sj2
  have G6 : Hid (Gr W5 W6) := Lib.hid hg
  have G46 : Hid (Gr W4 W6) := Lib.hid (G5.out.trans hg)
  have JM := Lib.hid (join_meets MA.out MB.out)
  have jw := ok_wide JM.out.2.1
  have FJ1 := Lib.hid jw.2.1
  have FJ2 := Lib.hid jw.2.2
  replace ba0 := cell_gr G6.out ba0
  replace ba1 := cell_gr G6.out ba1
  replace bah := has_of_cell ba0
  clear sj1 sj2 hg jw hBab hJab bb0 bb1 bbh
  go_wp2_with fail
  refine (refStates_ok l ra ps ao a1 a2 ap cp c1 c2 cpl _ (sups_gr SL.out (G46.out.trans (by repeat (first | with_reducible exact Gr.refl _ | with_reducible refine Gr.alloc _ ?_ | with_reducible refine Gr.xt _ _ ?_ | with_reducible refine Gr.drew ?_)))) (S1.out.giB (G46.out.trans (by repeat (first | with_reducible exact Gr.refl _ | with_reducible refine Gr.alloc _ ?_ | with_reducible refine Gr.xt _ _ ?_ | with_reducible refine Gr.drew ?_)))) (S2.out.giI (G46.out.trans (by repeat (first | with_reducible exact Gr.refl _ | with_reducible refine Gr.alloc _ ?_ | with_reducible refine Gr.xt _ _ ?_ | with_reducible refine Gr.drew ?_)))) (SP.out.gr RWri.mono (G6.out.trans (by repeat (first | with_reducible exact Gr.refl _ | with_reducible refine Gr.alloc _ ?_ | with_reducible refine Gr.xt _ _ ?_ | with_reducible refine Gr.drew ?_)))) K.out.1 K.out.2.1 RA.out WW.out (by omega) PN).mono ?_
  rintro e W7 ⟨as', cs, rfl, ks, ss, hg⟩
  have SS := Lib.hid ss
  have G7 : Hid (Gr W6 W7) := Lib.hid (Gr.trans ((Gr.refl _).alloc _) hg)
  have jb0 : W7.cell? ⟨W6.heap.size, 0, none⟩ = some (.slice j1 (joinR ra rb).on.length cj1) := cell_gr hg (by simp [go_sem])
  have jb1 : W7.cell? ⟨W6.heap.size, 1, none⟩ = some (.slice j2 (joinR ra rb).level.length cj2) := cell_gr hg (by simp [go_sem])
  have jbh := has_of_cell jb0
  clear hg ss ba0 ba1 bah
  go_wp2_with fail
  refine (refMeets_any l (joinR ra rb) d ao j1 j2 ad cp cj1 cj2 cd _ (sups_gr SL.out (G46.out.trans (G7.out.trans (by repeat (first | with_reducible exact Gr.refl _ | with_reducible refine Gr.alloc _ ?_ | with_reducible refine Gr.xt _ _ ?_ | with_reducible refine Gr.drew ?_))))) FL.out (J1.out.giB (G7.out.trans (by repeat (first | with_reducible exact Gr.refl _ | with_reducible refine Gr.alloc _ ?_ | with_reducible refine Gr.xt _ _ ?_ | with_reducible refine Gr.drew ?_)))) (J2.out.giI (G7.out.trans (by repeat (first | with_reducible exact Gr.refl _ | with_reducible refine Gr.alloc _ ?_ | with_reducible refine Gr.xt _ _ ?_ | with_reducible refine Gr.drew ?_)))) (drws_gr SD.out (G46.out.trans (G7.out.trans (by repeat (first | with_reducible exact Gr.refl _ | with_reducible refine Gr.alloc _ ?_ | with_reducible refine Gr.xt _ _ ?_ | with_reducible refine Gr.drew ?_))))) FJ1.out FJ2.out FD.out).mono ?_
  rw [decide_eq_true JM.out]
  rintro e W8 ⟨rfl, hg⟩
  have G8 : Hid (Gr W7 W8) := Lib.hid hg
  have G58 : Hid (Gr W5 W8) := Lib.hid (G6.out.trans (G7.out.trans hg))
  have G48 : Hid (Gr W4 W8) := Lib.hid (G5.out.trans G58.out)
  have SP8 := Lib.hid (SP.out.gr RWri.mono G58.out)
  have SS8 := Lib.hid (SS.out.gr RRls.mono G8.out)
  rw [stsK_len] at *
  obtain ⟨c, htr, hend⟩ := PL.out
  have TR := Lib.hid htr
  clear hg jb0 jb1 jbh SP SS PL htr hend
  go_wp2_with fail
  go_loopw [91, 16] (fun i dn wr => ∃ (k : Nat) (bd : Bool), k ≤ ps.length ∧ i = .int .i64 k ∧ dn = .bool bd ∧ (bd = true → c ≤ k) ∧ Gr W8 wr) (fun i _ _ => ps.length - (intOf i).toNat)
  case atStart => exact ⟨0, false, Nat.zero_le _, rfl, rfl, (fun h => by cases h), Gr.refl _⟩
  case round =>
    obtain ⟨k, bd, hk, rfl, rfl, hbd, hg⟩ := hrel
    have HG := Lib.hid hg
    have BD := Lib.hid hbd
    clear hg hbd
    by_cases hlt : k < ps.length
    · obtain ⟨bp, op, rfl, ⟨p0, -⟩, ⟨p1, -⟩, ⟨p2, -⟩⟩ := (SP8.out.gr RWri.mono HG.out) k hlt
      obtain ⟨bs, os, rfl, ⟨x0, m0, q0, -, -, s0⟩, ⟨x1, m1, q1, -, -, s1⟩⟩ := (SS8.out.gr RRls.mono HG.out) k (by rw [stsK_len]; omega)
      obtain ⟨bs', os', ee, ⟨x2, m2, q2, -, -, s2⟩, ⟨x3, m3, q3, -, -, s3⟩⟩ := (SS8.out.gr RRls.mono HG.out) (k + 1) (by rw [stsK_len]; omega)
      cases ee
      rw [stsK_at] at q0 q1 q2 q3
      simp only [stsK_at] at s0 s1 s2 s3
      have hP := TR.out k hlt
      have hok := runW_take_ok ps RA.out WW.out k
      have hok2 := runW_take_ok ps RA.out WW.out (k + 1)
      rw [runW_succ ra ps k hlt] at q2 q3 s2 s3 hok2
      have hw := WW.out ps[k] (List.getElem_mem hlt)
      obtain ⟨X, hX⟩ : ∃ X, X = runW ra (ps.take k) := ⟨_, rfl⟩
      rw [← hX] at q0 q1 q2 q3 s0 s1 s2 s3 hP hok hok2
      clear hX
      obtain ⟨pk, hpk⟩ : ∃ pk, pk = ps[k] := ⟨_, rfl⟩
      rw [← hpk] at p0 p1 p2 q2 q3 s2 s3 hP hok2 hw
      clear hpk
      obtain ⟨kd, un, vl⟩ := pk
      obtain ⟨hkd, hu0, hu1, hbad⟩ := hw
      simp only at p0 p1 p2 hkd hu0 hu1
      obtain ⟨u, rfl⟩ : ∃ u : Nat, un = (u : Int) := ⟨un.toNat, by omega⟩
      have hul : u < l.length := by omega
      have n1 := hok.2.1
      have n2 := hok.2.2.1
      have n3 := hok2.2.1
      have n4 := hok2.2.2.1
      obtain ⟨b1, o1, rfl, y1⟩ := s0.one u (by omega)
      obtain ⟨b2, o2, rfl, y2, -⟩ := s1.one u (by omega)
      obtain ⟨b4, o4, rfl, y4, -⟩ := s3.one u (by omega)
      unfold RB at y1
      rw [← onAt_eq (by omega)] at y1
      rw [← lvAt_eq (by omega)] at y2 y4
      have i1 : (u : Int) < X.on.length := by omega
      have i2 : (u : Int) < X.level.length := by omega
      have i4 : (u : Int) < (applyR X ⟨kd, u, vl⟩).level.length := by omega
      have hD : Hid (IsDown X ⟨kd, u, vl⟩ → c ≤ k) := Lib.hid fun q => Nat.le_of_not_lt fun q' => hP.2.1 q' q
      have hU : Hid (IsUp X ⟨kd, u, vl⟩ → ¬ c ≤ k) := Lib.hid fun q q' => hP.2.2 q' q
      have hV : Hid (kd = 3 → vl = 0 ∨ vl = 1) := Lib.hid fun q => by
        simp only [BadVal, not_or, not_and] at hbad
        have h1 := hbad.1
        have h2 := hbad.2.2 (by omega)
        omega
      obtain ⟨ob, hob⟩ : ∃ ob, ob = onAt X u := ⟨_, rfl⟩
      obtain ⟨lx, hlx⟩ : ∃ lx, lx = lvAt X u := ⟨_, rfl⟩
      obtain ⟨ly, hly⟩ : ∃ ly, ly = lvAt (applyR X ⟨kd, u, vl⟩) u := ⟨_, rfl⟩
      rw [← hob] at y1
      rw [← hlx] at y2
      rw [← hly] at y4
      have OB := Lib.hid hob
      have LX := Lib.hid hlx
      have LY := Lib.hid hly
      have Y1 := Lib.hid y1
      have Y2 := Lib.hid y2
      have Y4 := Lib.hid y4
      have Q0 := Lib.hid q0
      have Q1 := Lib.hid q1
      have Q2 := Lib.hid q2
      have Q3 := Lib.hid q3
      obtain ⟨nx1, hn1⟩ : ∃ n, n = X.on.length := ⟨_, rfl⟩
      obtain ⟨nx2, hn2⟩ : ∃ n, n = X.level.length := ⟨_, rfl⟩
      obtain ⟨nx3, hn3⟩ : ∃ n, n = (applyR X ⟨kd, u, vl⟩).on.length := ⟨_, rfl⟩
      obtain ⟨nx4, hn4⟩ : ∃ n, n = (applyR X ⟨kd, u, vl⟩).level.length := ⟨_, rfl⟩
      rw [← hn1] at Q0 i1
      rw [← hn2] at Q1 i2
      rw [← hn3] at Q2
      rw [← hn4] at Q3 i4
      clear q0 q1 q2 q3 s0 s1 s2 s3 y1 y2 y4 hob hlx hly hP hok hok2 hbad n1 n2 n3 n4 hn1 hn2 hn3 hn4
      have ph := has_of_cell p0
      have kp : (k : Int) < ps.length := by omega
      have k0 : (0 : Int) ≤ k := by omega
      go_wp2_with fail
      obtain ⟨wb, hwb⟩ : ∃ wb : World, Hid (wb = wr.alloc (.cells #[.int .i64 kd, .int .i64 u, .int .i64 vl] 46)) := ⟨_, Lib.hid rfl⟩
      have GB : Hid (Gr wr wb) := Lib.hid (by rw [hwb.out]; exact (Gr.refl _).alloc _)
      have b0 : wb.cell? ⟨wr.heap.size, 0, none⟩ = some (.int .i64 kd) := by rw [hwb.out]; simp [go_sem]
      have b1' : wb.cell? ⟨wr.heap.size, 1, none⟩ = some (.int .i64 u) := by rw [hwb.out]; simp [go_sem]
      have b2' : wb.cell? ⟨wr.heap.size, 2, none⟩ = some (.int .i64 vl) := by rw [hwb.out]; simp [go_sem]
      rw [← hwb.out]
      have R0 := Lib.hid b0
      have R1 := Lib.hid b1'
      have R2 := Lib.hid b2'
      clear b0 b1' b2' p0 p1 p2 ph hwb
      refine wp_code_eq (c := Code.region 17 (regIn 17 Try.f3) true) (by kernel_rfl) ?_
      refine rg17 (cell_gr GB.out Q0.out) (cell_gr GB.out Q1.out) (cell_gr GB.out Q2.out) (cell_gr GB.out Q3.out) (by omega) (by omega) ?_
      intro t96 t97 t98 t99 t100 t101 t102 t103 t104 B19 B20 wx r19 r20 g19 g20 gx
      unfold rg17A
      have GX := Lib.hid gx
      have e3 := Lib.hid (r19.cell 0 (by simp))
      have e4 := Lib.hid (r19.cell 1 (by simp))
      have e5 := Lib.hid (r20.cell 0 (by simp))
      have e6 := Lib.hid (r20.cell 1 (by simp))
      simp only [List.getElem_cons_zero, List.getElem_cons_succ] at e3 e4 e5 e6
      have GWX := Lib.hid (GB.out.trans gx)
      have R0 := Lib.hid (cell_gr gx R0.out)
      have R1 := Lib.hid (cell_gr gx R1.out)
      have R2 := Lib.hid (cell_gr gx R2.out)
      have Y1 := Lib.hid (cell_gr GWX.out Y1.out)
      have Y2 := Lib.hid (cell_gr GWX.out Y2.out)
      have Y4 := Lib.hid (cell_gr GWX.out Y4.out)
      clear gx r19 r20 g19 g20
      go_wp2_with fail
      refine wp_code_eq (c := Code.region 18 (regIn 18 Try.f3) true) (by kernel_rfl) ?_
      rcases hkd with hkd | hkd
      · subst hkd
        cases ob with
        | false =>
          refine rg18_f R0.out R1.out R2.out e3.out e4.out e5.out e6.out Y1.out Y2.out Y4.out i1 i2 i4 ?_
          intros
          rename_i O5 d5
          have G5' : Hid (Gr wx (xt wx O5 d5)) := Lib.hid ((Gr.refl _).xt _ _)
          go_wp2_with fail
          refine wp_code_eq (c := Code.region 20 (regIn 20 Try.f3) true) (by kernel_rfl) ?_
          refine rg20_f (cell_gr G5'.out R0.out) (cell_gr G5'.out R1.out) (cell_gr G5'.out R2.out) (cell_gr G5'.out e3.out) (cell_gr G5'.out e4.out) (cell_gr G5'.out e5.out) (cell_gr G5'.out e6.out) (cell_gr G5'.out Y1.out) (cell_gr G5'.out Y2.out) (cell_gr G5'.out Y4.out) i1 i2 i4 ?_
          intros
          go_wp2_with fail
          go_roundw
          case rel => exact ⟨k + 1, bd, by omega, by go_num, rfl, (fun h => Nat.le_succ_of_le ((BD.out) h)), (HG.out.trans GWX.out).trans (by repeat (first | with_reducible exact Gr.refl _ | with_reducible refine Gr.alloc _ ?_ | with_reducible refine Gr.xt _ _ ?_ | with_reducible refine Gr.drew ?_))⟩
          case measure => simp [intOf]; omega
        | true =>
          by_cases hlt2 : ly < lx
          · have hd1 : decide (ly < lx) = true := by simpa using hlt2
            have hd2 : decide (lx < ly) = false := by simp; omega
            have HD := Lib.hid (hD.out (.inr ⟨rfl, OB.out.symm, by show lvAt _ u < lvAt _ u; rw [← LX.out, ← LY.out]; exact hlt2⟩))
            refine rg18_t R0.out R1.out R2.out e3.out e4.out e5.out e6.out Y1.out Y2.out Y4.out i1 i2 i4 ?_
            intros
            rename_i O5 d5
            have G5' : Hid (Gr wx (xt wx O5 d5)) := Lib.hid ((Gr.refl _).xt _ _)
            go_wp2_with fail
            refine wp_code_eq (c := Code.region 20 (regIn 20 Try.f3) true) (by kernel_rfl) ?_
            refine rg20_t (cell_gr G5'.out R0.out) (cell_gr G5'.out R1.out) (cell_gr G5'.out R2.out) (cell_gr G5'.out e3.out) (cell_gr G5'.out e4.out) (cell_gr G5'.out e5.out) (cell_gr G5'.out e6.out) (cell_gr G5'.out Y1.out) (cell_gr G5'.out Y2.out) (cell_gr G5'.out Y4.out) i1 i2 i4 ?_
            intros
            go_wp2_with fail
            go_roundw
            case rel => exact ⟨k + 1, true, by omega, by go_num, rfl, (fun h => Nat.le_succ_of_le ((fun _ => HD.out) h)), (HG.out.trans GWX.out).trans (by repeat (first | with_reducible exact Gr.refl _ | with_reducible refine Gr.alloc _ ?_ | with_reducible refine Gr.xt _ _ ?_ | with_reducible refine Gr.drew ?_))⟩
            case measure => simp [intOf]; omega
          · by_cases hgt : lx < ly
            · have hd1 : decide (ly < lx) = false := by simp; omega
              have hd2 : decide (lx < ly) = true := by simpa using hgt
              have HU := hU.out (.inr ⟨rfl, OB.out.symm, by show lvAt _ u < lvAt _ u; rw [← LX.out, ← LY.out]; exact hgt⟩)
              have hbf : bd = false := by cases bd with | false => rfl | true => exact absurd (BD.out rfl) HU
              subst hbf
              refine rg18_t R0.out R1.out R2.out e3.out e4.out e5.out e6.out Y1.out Y2.out Y4.out i1 i2 i4 ?_
              intros
              rename_i O5 d5
              have G5' : Hid (Gr wx (xt wx O5 d5)) := Lib.hid ((Gr.refl _).xt _ _)
              go_wp2_with fail
              refine wp_code_eq (c := Code.region 20 (regIn 20 Try.f3) true) (by kernel_rfl) ?_
              refine rg20_t (cell_gr G5'.out R0.out) (cell_gr G5'.out R1.out) (cell_gr G5'.out R2.out) (cell_gr G5'.out e3.out) (cell_gr G5'.out e4.out) (cell_gr G5'.out e5.out) (cell_gr G5'.out e6.out) (cell_gr G5'.out Y1.out) (cell_gr G5'.out Y2.out) (cell_gr G5'.out Y4.out) i1 i2 i4 ?_
              intros
              go_wp2_with fail
              go_roundw
              case rel => exact ⟨k + 1, false, by omega, by go_num, rfl, (fun h => Nat.le_succ_of_le ((fun h => by cases h) h)), (HG.out.trans GWX.out).trans (by repeat (first | with_reducible exact Gr.refl _ | with_reducible refine Gr.alloc _ ?_ | with_reducible refine Gr.xt _ _ ?_ | with_reducible refine Gr.drew ?_))⟩
              case measure => simp [intOf]; omega
            · have hd1 : decide (ly < lx) = false := by simp; omega
              have hd2 : decide (lx < ly) = false := by simp; omega
              refine rg18_t R0.out R1.out R2.out e3.out e4.out e5.out e6.out Y1.out Y2.out Y4.out i1 i2 i4 ?_
              intros
              rename_i O5 d5
              have G5' : Hid (Gr wx (xt wx O5 d5)) := Lib.hid ((Gr.refl _).xt _ _)
              go_wp2_with fail
              refine wp_code_eq (c := Code.region 20 (regIn 20 Try.f3) true) (by kernel_rfl) ?_
              refine rg20_t (cell_gr G5'.out R0.out) (cell_gr G5'.out R1.out) (cell_gr G5'.out R2.out) (cell_gr G5'.out e3.out) (cell_gr G5'.out e4.out) (cell_gr G5'.out e5.out) (cell_gr G5'.out e6.out) (cell_gr G5'.out Y1.out) (cell_gr G5'.out Y2.out) (cell_gr G5'.out Y4.out) i1 i2 i4 ?_
              intros
              go_wp2_with fail
              go_roundw
              case rel => exact ⟨k + 1, bd, by omega, by go_num, rfl, (fun h => Nat.le_succ_of_le ((BD.out) h)), (HG.out.trans GWX.out).trans (by repeat (first | with_reducible exact Gr.refl _ | with_reducible refine Gr.alloc _ ?_ | with_reducible refine Gr.xt _ _ ?_ | with_reducible refine Gr.drew ?_))⟩
              case measure => simp [intOf]; omega
      · subst hkd
        rcases hV.out rfl with rfl | rfl
        · have HD := Lib.hid (hD.out (.inl ⟨rfl, rfl⟩))
          refine rg18_z R0.out R1.out R2.out e3.out e4.out e5.out e6.out Y1.out Y2.out Y4.out i1 i2 i4 ?_
          intros
          rename_i O5 d5
          have G5' : Hid (Gr wx (xt wx O5 d5)) := Lib.hid ((Gr.refl _).xt _ _)
          go_wp2_with fail
          refine wp_code_eq (c := Code.region 20 (regIn 20 Try.f3) true) (by kernel_rfl) ?_
          refine rg20_z (cell_gr G5'.out R0.out) (cell_gr G5'.out R1.out) (cell_gr G5'.out R2.out) (cell_gr G5'.out e3.out) (cell_gr G5'.out e4.out) (cell_gr G5'.out e5.out) (cell_gr G5'.out e6.out) (cell_gr G5'.out Y1.out) (cell_gr G5'.out Y2.out) (cell_gr G5'.out Y4.out) i1 i2 i4 ?_
          intros
          go_wp2_with fail
          go_roundw
          case rel => exact ⟨k + 1, true, by omega, by go_num, rfl, (fun h => Nat.le_succ_of_le ((fun _ => HD.out) h)), (HG.out.trans GWX.out).trans (by repeat (first | with_reducible exact Gr.refl _ | with_reducible refine Gr.alloc _ ?_ | with_reducible refine Gr.xt _ _ ?_ | with_reducible refine Gr.drew ?_))⟩
          case measure => simp [intOf]; omega
        · have HU := hU.out (.inl ⟨rfl, rfl⟩)
          have hbf : bd = false := by cases bd with | false => rfl | true => exact absurd (BD.out rfl) HU
          subst hbf
          refine rg18_o R0.out R1.out R2.out e3.out e4.out e5.out e6.out Y1.out Y2.out Y4.out i1 i2 i4 ?_
          intros
          rename_i O5 d5
          have G5' : Hid (Gr wx (xt wx O5 d5)) := Lib.hid ((Gr.refl _).xt _ _)
          go_wp2_with fail
          refine wp_code_eq (c := Code.region 20 (regIn 20 Try.f3) true) (by kernel_rfl) ?_
          refine rg20_o (cell_gr G5'.out R0.out) (cell_gr G5'.out R1.out) (cell_gr G5'.out R2.out) (cell_gr G5'.out e3.out) (cell_gr G5'.out e4.out) (cell_gr G5'.out e5.out) (cell_gr G5'.out e6.out) (cell_gr G5'.out Y1.out) (cell_gr G5'.out Y2.out) (cell_gr G5'.out Y4.out) i1 i2 i4 ?_
          intros
          go_wp2_with fail
          go_roundw
          case rel => exact ⟨k + 1, false, by omega, by go_num, rfl, (fun h => Nat.le_succ_of_le ((fun h => by cases h) h)), (HG.out.trans GWX.out).trans (by repeat (first | with_reducible exact Gr.refl _ | with_reducible refine Gr.alloc _ ?_ | with_reducible refine Gr.xt _ _ ?_ | with_reducible refine Gr.drew ?_))⟩
          case measure => simp [intOf]; omega
    · go_wp2_with fail
      refine (awake_any _).mono ?_
      rintro e w' ⟨rfl, hg⟩
      have HE := Lib.hid hg
      clear hg
      go_wp2_with fail
      go_ret
      exact ⟨rfl, GW4.out.trans (G48.out.trans (HG.out.trans HE.out))⟩
end Go.Proofs.Ytoenkcojfogmmaa
