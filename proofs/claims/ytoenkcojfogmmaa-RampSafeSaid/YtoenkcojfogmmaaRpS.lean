/- The walk of RampSafe (the beginning printed by wip/tools/ramps.py). -/
import Derived.Test.YtoenkcojfogmmaaRmpG
import Derived.Test.YtoenkcojfogmmaaRmpH
import Derived.Test.YtoenkcojfogmmaaNewTape
import Derived.Test.YtoenkcojfogmmaaMkD
import Derived.Test.YtoenkcojfogmmaaPlB
import Derived.Test.YtoenkcojfogmmaaRpC
import Derived.Test.YtoenkcojfogmmaaStB
import Derived.Deep.DeepCutAuto
set_option linter.unusedVariables false
set_option linter.unusedSimpArgs false
namespace Go.Proofs.Ytoenkcojfogmmaa
open Go.RowKit
open Classical

set_option maxRecDepth 100000 in
set_option maxHeartbeats 8000000 in
theorem safe_walk (a : Option Addr) (len cap : Nat) (zs : List Int) (w : World) (h : RowIn w a len cap zs) :
    Calls Try.prog 6 #[.slice a len cap] w (Grows w (.bool true)) := by
  have H := Lib.hid h
  clear h
  go_enter Try.func6, Try.ntmps6
  go_wp2_with fail
  refine (newTape_any w a len cap zs H.out).mono ?_
  rintro e W0 ⟨b, n, rfl, ht, hg, hb, _⟩
  have TT : Hid (Tp W0 b n) := Lib.hid ⟨_, ht⟩
  have G0 := Lib.hid hg
  have HB := Lib.hid hb
  clear ht hg hb
  go_wp2_with fail
  refine (supplies_any W0 b n 8 TT.out (by omega) (by omega)).mono ?_
  rintro e W1 ⟨l, ao, cp, rfl, hc, hl1, hl7, hlc, hl, hm⟩
  have HL := Lib.hid hl
  have HC := Lib.hid hc
  have M1 := Lib.hid hm
  clear hl hc hm
  have T1 := Lib.hid (M1.out.tp TT.out)
  go_wp2_with fail
  refine (mkDraws_any l ao cp W1 b n 4 T1.out HL.out HC.out (by omega) (by omega)).mono ?_
  rintro e W2 ⟨d, ad, cd, rfl, hd, hdc, hdh, hm⟩
  have HD := Lib.hid hd
  have DH := Lib.hid hdh
  have M2 := Lib.hid hm
  have T2 := Lib.hid (hm.tp T1.out)
  have HL2 := Lib.hid (HL.out.mv T1.out.has hm (mono_sups _ _))
  clear hd hdh hm
  go_wp2_with fail
  refine (near_any l d ao ad cp cd W2 b n T2.out HL2.out DH.out HD.out (by omega)).mono ?_
  rintro e W3 ⟨ra, va, oka, rfl, hva, hma, hm⟩
  have M3 := Lib.hid hm
  have T3 := Lib.hid (hm.tp T2.out)
  have HL3 := Lib.hid (HL2.out.mv T2.out.has hm (mono_sups _ _))
  have DH3 := Lib.hid (DH.out.mv T2.out.has hm (mono_drws _ _))
  have HMA := Lib.hid hma
  have VA := Lib.hid hva
  clear hm hma HL2 DH HL
  obtain ⟨a1, a2, c1, c2, rfl, k1, k2, s1, s2⟩ := hva
  have K1 : Hid (ra.on.length ≤ c1 ∧ ra.level.length ≤ c2) := Lib.hid ⟨k1, k2⟩
  clear k1 k2 s1 s2
  have gb : Hid (Gr W3 (W3.alloc (.cells #[.slice a1 ra.on.length c1, .slice a2 ra.level.length c2] 31))) := Lib.hid ((Gr.refl _).alloc _)
  have M13 : Hid (Mv b n W0 (W3.alloc (.cells #[.slice a1 ra.on.length c1, .slice a2 ra.level.length c2] 31))) := Lib.hid ((M1.out.trans TT.out.has (M2.out.trans T1.out.has M3.out)).gr gb.out)
  clear M1 M2 M3
  go_wp2_with fail
  refine (near_any l d ao ad cp cd _ b n (T3.out.gr gb.out) (HL3.out.gr T3.out.has gb.out (mono_sups _ _)) (DH3.out.gr T3.out.has gb.out (mono_drws _ _)) HD.out (by omega)).mono ?_
  rintro e W4 ⟨rb, vb, okb, rfl, hvb, hmb, hm⟩
  have hbg := (T3.out.gr gb.out).has
  have T4 := Lib.hid (hm.tp (T3.out.gr gb.out))
  have SL := Lib.hid (((HL3.out.gr T3.out.has gb.out (mono_sups _ _)).mv hbg hm (mono_sups _ _)).now T4.out)
  have SD := Lib.hid (((DH3.out.gr T3.out.has gb.out (mono_drws _ _)).mv hbg hm (mono_drws _ _)).now T4.out)
  have GW4 : Hid (Gr w W4) := Lib.hid (Mv.out G0.out (M13.out.trans TT.out.has hm) HB.out)
  have HMB := Lib.hid hmb
  have BA : Hid (Row W4 W3.heap.size 31 [.slice a1 ra.on.length c1, .slice a2 ra.level.length c2]) := Lib.hid (hm.row (Row.new W3 _ _) (by have := T3.out.has; omega))
  obtain ⟨a1', a2', c1', c2', ee, _, _, s1, s2⟩ := (VA.out.gr T3.out.has gb.out).mv hbg hm
  simp only [Value.agg.injEq, Array.mk.injEq, List.cons.injEq, Value.slice.injEq, and_true, true_and] at ee
  obtain ⟨⟨rfl, rfl⟩, ⟨rfl, rfl⟩⟩ := ee
  obtain ⟨a3, a4, c3, c4, rfl, k3, k4, s3, s4⟩ := hvb
  have S1 := Lib.hid (s1.now T4.out)
  have S2 := Lib.hid (s2.now T4.out)
  have S3 := Lib.hid (s3.now T4.out)
  have S4 := Lib.hid (s4.now T4.out)
  have K : Hid (ra.on.length ≤ c1 ∧ ra.level.length ≤ c2 ∧ rb.on.length ≤ c3 ∧ rb.level.length ≤ c4) := Lib.hid ⟨K1.out.1, K1.out.2, k3, k4⟩
  clear hm hmb hbg s1 s2 s3 s4 k3 k4 VA HL3 DH3 M13 T1 T2 T3 T4 G0 HB TT gb K1
  have ba0 := BA.out.cell 0 (by simp)
  have ba1 := BA.out.cell 1 (by simp)
  have bah := BA.out.has
  simp only [List.getElem_cons_zero, List.getElem_cons_succ] at ba0 ba1
  by_cases hok : ¬ (oka = true ∧ okb = true)
  · have ho : (oka = false) ∨ (oka = true ∧ okb = false) := by cases oka <;> cases okb <;> simp_all
    clear hok
    rcases ho with rfl | ⟨rfl, rfl⟩
    all_goals
      go_wp2_with fail
      refine (awake_any _).mono ?_
      rintro e w' ⟨rfl, hg⟩
      have HE := Lib.hid hg
      clear hg
      go_wp2_with fail
      go_ret
      exact ⟨rfl, GW4.out.trans (Gr.trans (by repeat (first | with_reducible exact Gr.refl _ | with_reducible refine Gr.alloc _ ?_ | with_reducible refine Gr.xt _ _ ?_ | with_reducible refine Gr.drew ?_)) HE.out)⟩
  obtain ⟨rfl, rfl⟩ := Classical.not_not.1 hok
  clear hok
  have MA := Lib.hid (HMA.out rfl)
  have MB := Lib.hid (HMB.out rfl)
  clear HMA HMB
  have RA := Lib.hid MA.out.2.1
  have RB' := Lib.hid MB.out.2.1
  have wa := ok_wide RA.out
  have wb := ok_wide RB'.out
  have F1 := Lib.hid wa.2.1
  have F2 := Lib.hid wa.2.2
  have F3 := Lib.hid wb.2.1
  have F4 := Lib.hid wb.2.2
  clear wa wb
  have FL : Hid (Fit l.length) := Lib.hid (by unfold Fit; omega)
  have FD : Hid (Fit d.length) := Lib.hid (by have := HD.out.2.1; unfold Fit; omega)
  go_wp2_with fail
  have hPE : Hid (planE l ra rb d = 0) := Lib.hid (planE_zero MA.out MB.out)
  have hPP : Hid (planP l ra rb d = planL l.length ra rb) := Lib.hid (by rw [planP, if_pos hPE.out])
  refine (plan_any l ra rb d ao a1 a2 a3 a4 ad cp c1 c2 c3 c4 cd _ (sups_gr SL.out (by repeat (first | with_reducible exact Gr.refl _ | with_reducible refine Gr.alloc _ ?_ | with_reducible refine Gr.xt _ _ ?_ | with_reducible refine Gr.drew ?_))) FL.out (S1.out.giB (by repeat (first | with_reducible exact Gr.refl _ | with_reducible refine Gr.alloc _ ?_ | with_reducible refine Gr.xt _ _ ?_ | with_reducible refine Gr.drew ?_))) (S2.out.giI (by repeat (first | with_reducible exact Gr.refl _ | with_reducible refine Gr.alloc _ ?_ | with_reducible refine Gr.xt _ _ ?_ | with_reducible refine Gr.drew ?_))) (S3.out.giB (by repeat (first | with_reducible exact Gr.refl _ | with_reducible refine Gr.alloc _ ?_ | with_reducible refine Gr.xt _ _ ?_ | with_reducible refine Gr.drew ?_))) (S4.out.giI (by repeat (first | with_reducible exact Gr.refl _ | with_reducible refine Gr.alloc _ ?_ | with_reducible refine Gr.xt _ _ ?_ | with_reducible refine Gr.drew ?_))) (drws_gr SD.out (by repeat (first | with_reducible exact Gr.refl _ | with_reducible refine Gr.alloc _ ?_ | with_reducible refine Gr.xt _ _ ?_ | with_reducible refine Gr.drew ?_))) K.out.1 K.out.2.1 K.out.2.2.1 K.out.2.2.2 F1.out F2.out F3.out F4.out FD.out).mono ?_
  rw [hPP.out, hPE.out]
  rintro e W5 ⟨ap, cpl, rfl, kp, sp, hg⟩
  obtain ⟨ps, hps⟩ : ∃ ps, Hid (ps = planL l.length ra rb) := ⟨_, Lib.hid rfl⟩
  rw [← hps.out] at kp sp ⊢
  have SP := Lib.hid sp
  have G5 : Hid (Gr W4 W5) := Lib.hid (Gr.trans ((Gr.refl _).alloc _) hg)
  have PL := Lib.hid (plan_law MA.out MB.out)
  rw [← hps.out] at PL
  have PN : ps.length ≤ 1000 := by have := planL_len l.length ra rb; rw [← hps.out] at this; omega
  have WW : Hid (∀ p ∈ ps, WOk l p) := Lib.hid (by
    obtain ⟨c, htr, _⟩ := PL.out
    intro p hp
    obtain ⟨i, hi, rfl⟩ := List.getElem_of_mem hp
    exact (htr i hi).1.1)
  have bb0 : W5.cell? ⟨W4.heap.size, 0, none⟩ = some (.slice a3 rb.on.length c3) := cell_gr hg (by simp [go_sem])
  have bb1 : W5.cell? ⟨W4.heap.size, 1, none⟩ = some (.slice a4 rb.level.length c4) := cell_gr hg (by simp [go_sem])
  replace ba0 := cell_gr G5.out ba0
  replace ba1 := cell_gr G5.out ba1
  replace bah := has_of_cell ba0
  have bbh := has_of_cell bb0
  clear hg sp hPE hPP
  obtain ⟨c, htr, hend⟩ := PL.out
  have TR := Lib.hid htr
  have EN := Lib.hid hend
  have MT := Lib.hid (tr_meets MA.out htr)
  clear htr hend PL
  go_wp2_with fail
  refine (states_ok l ra ps ao a1 a2 ap cp c1 c2 cpl _ (sups_gr SL.out (G5.out.trans (by repeat (first | with_reducible exact Gr.refl _ | with_reducible refine Gr.alloc _ ?_ | with_reducible refine Gr.xt _ _ ?_ | with_reducible refine Gr.drew ?_)))) (S1.out.giB (G5.out.trans (by repeat (first | with_reducible exact Gr.refl _ | with_reducible refine Gr.alloc _ ?_ | with_reducible refine Gr.xt _ _ ?_ | with_reducible refine Gr.drew ?_)))) (S2.out.giI (G5.out.trans (by repeat (first | with_reducible exact Gr.refl _ | with_reducible refine Gr.alloc _ ?_ | with_reducible refine Gr.xt _ _ ?_ | with_reducible refine Gr.drew ?_)))) (SP.out.gr RWri.mono (by repeat (first | with_reducible exact Gr.refl _ | with_reducible refine Gr.alloc _ ?_ | with_reducible refine Gr.xt _ _ ?_ | with_reducible refine Gr.drew ?_))) K.out.1 K.out.2.1 RA.out WW.out (by omega) PN).mono ?_
  rintro e W7 ⟨as', cs, rfl, ks, ss, hg⟩
  have SS := Lib.hid ss
  have G7 : Hid (Gr W5 W7) := Lib.hid hg
  have G47 : Hid (Gr W4 W7) := Lib.hid (G5.out.trans hg)
  replace ba0 := cell_gr hg ba0
  replace ba1 := cell_gr hg ba1
  replace bah := has_of_cell ba0
  replace bb0 := cell_gr hg bb0
  replace bb1 := cell_gr hg bb1
  replace bbh := has_of_cell bb0
  have BA7 : Hid (W7.cell? ⟨W3.heap.size, 0, none⟩ = some (.slice a1 ra.on.length c1) ∧ W7.cell? ⟨W3.heap.size, 1, none⟩ = some (.slice a2 ra.level.length c2)) := Lib.hid ⟨ba0, ba1⟩
  clear hg ss
  rw [stsK_len]
  have hst : Hid (runW ra (ps.take ps.length) = rb) := Lib.hid (by rw [List.take_length]; exact EN.out)
  obtain ⟨bs, os, rfl, ⟨z0, m0, q0, l0, -, s0⟩, ⟨z1, m1, q1, l1, -, s1⟩⟩ := SS.out ps.length (by rw [stsK_len]; omega)
  rw [stsK_at, hst.out] at q0 q1
  simp only [stsK_at, hst.out] at s0 s1 l0 l1
  have ZO := Lib.hid s0
  have ZL := Lib.hid s1
  have q0h := has_of_cell q0
  have g1 : (((ps.length + 1 : Nat) : Int) != (ps.length : Int) + 1) = false := by simp
  have g2 : (0 : Int) ≤ ps.length := by omega
  have g3 : (ps.length : Int) < ((ps.length + 1 : Nat) : Int) := by omega
  have g4 : IntKind.i64.wrap ((ps.length : Int) + 1) = (ps.length : Int) + 1 := by rw [IntKind.wrap_i64]; omega
  have FS : Hid (Fit (stsK ra ps ps.length).length) := Lib.hid (by rw [stsK_len]; unfold Fit; omega)
  have MS : Hid (∀ k (hk : k < (stsK ra ps ps.length).length), MeetsAll l (stsK ra ps ps.length)[k] d) := Lib.hid fun k hk => by rw [stsK_at]; exact MT.out k (by rw [stsK_len] at hk; omega)
  clear s0 s1 l0 l1
  go_wp2_with fail
  refine wp_region_grows (by kernel_rfl) (by kernel_rfl) ?_
  (try simp only [List.append_eq, List.cons_append, List.nil_append])
  repeat (go_big_quiet_step (first
    | (go_at_call 18; exact calls_grows (sameRails_yes rb z0 z1 a3 a4 m0 m1 c3 c4 _ (ZO.out.giB (by repeat (first | with_reducible exact Gr.refl _ | with_reducible refine Gr.alloc _ ?_ | with_reducible refine Gr.xt _ _ ?_ | with_reducible refine Gr.drew ?_))) (ZL.out.giI (by repeat (first | with_reducible exact Gr.refl _ | with_reducible refine Gr.alloc _ ?_ | with_reducible refine Gr.xt _ _ ?_ | with_reducible refine Gr.drew ?_))) (S3.out.giB (G47.out.trans (by repeat (first | with_reducible exact Gr.refl _ | with_reducible refine Gr.alloc _ ?_ | with_reducible refine Gr.xt _ _ ?_ | with_reducible refine Gr.drew ?_)))) (S4.out.giI (G47.out.trans (by repeat (first | with_reducible exact Gr.refl _ | with_reducible refine Gr.alloc _ ?_ | with_reducible refine Gr.xt _ _ ?_ | with_reducible refine Gr.drew ?_)))) F3.out F4.out))
    | (go_at_call 22; exact calls_grows (first_none l ra d ps (stsK ra ps ps.length) ao a1 a2 ap ad cp c1 c2 cpl cd _ (sups_gr SL.out (G47.out.trans (by repeat (first | with_reducible exact Gr.refl _ | with_reducible refine Gr.alloc _ ?_ | with_reducible refine Gr.xt _ _ ?_ | with_reducible refine Gr.drew ?_)))) FL.out (drws_gr SD.out (G47.out.trans (by repeat (first | with_reducible exact Gr.refl _ | with_reducible refine Gr.alloc _ ?_ | with_reducible refine Gr.xt _ _ ?_ | with_reducible refine Gr.drew ?_)))) FD.out FS.out HD.out MS.out (fun W hW => (states_ok l ra ps ao a1 a2 ap cp c1 c2 cpl _ (sups_gr SL.out (G47.out.trans (Gr.trans (by repeat (first | with_reducible exact Gr.refl _ | with_reducible refine Gr.alloc _ ?_ | with_reducible refine Gr.xt _ _ ?_ | with_reducible refine Gr.drew ?_)) hW))) (S1.out.giB (G47.out.trans (Gr.trans (by repeat (first | with_reducible exact Gr.refl _ | with_reducible refine Gr.alloc _ ?_ | with_reducible refine Gr.xt _ _ ?_ | with_reducible refine Gr.drew ?_)) hW))) (S2.out.giI (G47.out.trans (Gr.trans (by repeat (first | with_reducible exact Gr.refl _ | with_reducible refine Gr.alloc _ ?_ | with_reducible refine Gr.xt _ _ ?_ | with_reducible refine Gr.drew ?_)) hW))) (SP.out.gr RWri.mono (G7.out.trans (Gr.trans (by repeat (first | with_reducible exact Gr.refl _ | with_reducible refine Gr.alloc _ ?_ | with_reducible refine Gr.xt _ _ ?_ | with_reducible refine Gr.drew ?_)) hW))) K.out.1 K.out.2.1 RA.out WW.out (by omega) PN).mono fun _ _ h => h.e)))))
  refine wpQuiet_nil ?_
  rintro _ ⟨⟨O6, d6⟩, rfl⟩
  go_wp2_with fail
  obtain ⟨W8, hW8⟩ : ∃ W8 : World, Hid (W8 = xt W7 O6 d6) := ⟨_, Lib.hid rfl⟩
  have G8 : Hid (Gr W7 W8) := Lib.hid (by rw [hW8.out]; exact (Gr.refl _).xt _ _)
  have G48 : Hid (Gr W4 W8) := Lib.hid (G47.out.trans G8.out)
  rw [← hW8.out]
  clear hW8 ba0 ba1 bah bb0 bb1 bbh q0 q1 q0h g1 g2 g3 g4 ZO ZL
  go_loopw [95] (fun i wr => ∃ k : Nat, k ≤ ps.length + 1 ∧ i = .int .i64 k ∧ Gr W8 wr) (fun i _ => ps.length + 1 - (intOf i).toNat)
  case atStart => exact ⟨0, Nat.zero_le _, rfl, Gr.refl _⟩
  case round =>
    obtain ⟨k, hk, rfl, hg⟩ := hrel
    have HG := Lib.hid hg
    clear hg
    by_cases hlt : k < ps.length + 1
    · obtain ⟨bs', os', ee, ⟨x0, m0, q0, l0, -, s0⟩, ⟨x1, m1, q1, l1, -, s1⟩⟩ := (SS.out.gr RRls.mono (G8.out.trans HG.out)) k (by rw [stsK_len]; omega)
      cases ee
      rw [stsK_at] at q0 q1
      simp only [stsK_at] at s0 s1 l0 l1
      have MJ := Lib.hid (MT.out k (by omega))
      have wx := ok_wide (runW_take_ok ps RA.out WW.out k)
      have FX1 := Lib.hid wx.2.1
      have FX2 := Lib.hid wx.2.2
      have HX : Hid (∀ j (hj : j + 1 = k), runW ra (ps.take j) ≠ runW ra (ps.take k)) := Lib.hid fun j hj => by
        subst hj
        rw [runW_succ ra ps j (by omega)]
        exact Ne.symm (TR.out j (by omega)).1.2.2
      obtain ⟨X, hX⟩ : ∃ X, Hid (X = runW ra (ps.take k)) := ⟨_, Lib.hid rfl⟩
      rw [← hX.out] at q0 q1 s0 s1 MJ FX1 FX2 HX
      have ZO := Lib.hid s0
      have ZL := Lib.hid s1
      have q0h := has_of_cell q0
      have g2 : (0 : Int) ≤ k := by omega
      have g3 : (k : Int) < ((ps.length + 1 : Nat) : Int) := by omega
      clear s0 s1 l0 l1 wx
      go_wp2_with fail
      by_cases hk0 : k = 0
      · subst hk0
        refine wp_region_grows (by kernel_rfl) (by kernel_rfl) ?_
        repeat (go_big_quiet_step ((go_at_call 16; exact calls_grows (refMeets_yes l X d MJ.out ao x0 x1 ad cp m0 m1 cd _ (sups_gr SL.out (G48.out.trans (HG.out.trans (by repeat (first | with_reducible exact Gr.refl _ | with_reducible refine Gr.alloc _ ?_ | with_reducible refine Gr.xt _ _ ?_ | with_reducible refine Gr.drew ?_))))) FL.out (ZO.out.giB (by repeat (first | with_reducible exact Gr.refl _ | with_reducible refine Gr.alloc _ ?_ | with_reducible refine Gr.xt _ _ ?_ | with_reducible refine Gr.drew ?_))) (ZL.out.giI (by repeat (first | with_reducible exact Gr.refl _ | with_reducible refine Gr.alloc _ ?_ | with_reducible refine Gr.xt _ _ ?_ | with_reducible refine Gr.drew ?_))) (drws_gr SD.out (G48.out.trans (HG.out.trans (by repeat (first | with_reducible exact Gr.refl _ | with_reducible refine Gr.alloc _ ?_ | with_reducible refine Gr.xt _ _ ?_ | with_reducible refine Gr.drew ?_))))) FX1.out FX2.out FD.out))))
        refine wpQuiet_nil ?_
        rintro _ ⟨⟨O7, d7⟩, rfl⟩
        go_wp2_with fail
        go_roundw
        case rel => exact ⟨1, by omega, by go_num, HG.out.trans (by repeat (first | with_reducible exact Gr.refl _ | with_reducible refine Gr.alloc _ ?_ | with_reducible refine Gr.xt _ _ ?_ | with_reducible refine Gr.drew ?_))⟩
        case measure => simp [intOf]
      · obtain ⟨j, rfl⟩ : ∃ j, k = j + 1 := ⟨k - 1, by omega⟩
        obtain ⟨bs', os', ee, ⟨y0, n0, p0, -, -, t0⟩, ⟨y1, n1, p1, -, -, t1⟩⟩ := (SS.out.gr RRls.mono (G8.out.trans HG.out)) j (by rw [stsK_len]; omega)
        cases ee
        rw [stsK_at] at p0 p1
        simp only [stsK_at] at t0 t1
        have hxy := HX.out j rfl
        have wy := ok_wide (runW_take_ok ps RA.out WW.out j)
        obtain ⟨Y, hY⟩ : ∃ Y, Hid (Y = runW ra (ps.take j)) := ⟨_, Lib.hid rfl⟩
        rw [← hY.out] at p0 p1 t0 t1 hxy wy
        have FY1 := Lib.hid wy.2.1
        have FY2 := Lib.hid wy.2.2
        have YO := Lib.hid t0
        have YL := Lib.hid t1
        have NE := Lib.hid hxy
        have p0h := has_of_cell p0
        have i1 : (0 : Int) < ((j + 1 : Nat) : Int) := by omega
        have i2 : ((j + 1 : Nat) : Int) - 1 = (j : Int) := by omega
        have i3 : (0 : Int) ≤ (j : Int) := by omega
        have i4 : (j : Int) < ((ps.length + 1 : Nat) : Int) := by omega
        have i5 : IntKind.i64.wrap (j : Int) = (j : Int) := by rw [IntKind.wrap_i64]; omega
        clear t0 t1 hxy wy hk0
        refine wp_region_grows (by kernel_rfl) (by kernel_rfl) ?_
        repeat (go_big_quiet_step (first
          | (go_at_call 16; exact calls_grows (refMeets_yes l X d MJ.out ao x0 x1 ad cp m0 m1 cd _ (sups_gr SL.out (G48.out.trans (HG.out.trans (by repeat (first | with_reducible exact Gr.refl _ | with_reducible refine Gr.alloc _ ?_ | with_reducible refine Gr.xt _ _ ?_ | with_reducible refine Gr.drew ?_))))) FL.out (ZO.out.giB (by repeat (first | with_reducible exact Gr.refl _ | with_reducible refine Gr.alloc _ ?_ | with_reducible refine Gr.xt _ _ ?_ | with_reducible refine Gr.drew ?_))) (ZL.out.giI (by repeat (first | with_reducible exact Gr.refl _ | with_reducible refine Gr.alloc _ ?_ | with_reducible refine Gr.xt _ _ ?_ | with_reducible refine Gr.drew ?_))) (drws_gr SD.out (G48.out.trans (HG.out.trans (by repeat (first | with_reducible exact Gr.refl _ | with_reducible refine Gr.alloc _ ?_ | with_reducible refine Gr.xt _ _ ?_ | with_reducible refine Gr.drew ?_))))) FX1.out FX2.out FD.out))
          | (go_at_call 18; exact calls_grows (sameRails_no Y X NE.out y0 y1 x0 x1 n0 n1 m0 m1 _ (YO.out.giB (by repeat (first | with_reducible exact Gr.refl _ | with_reducible refine Gr.alloc _ ?_ | with_reducible refine Gr.xt _ _ ?_ | with_reducible refine Gr.drew ?_))) (YL.out.giI (by repeat (first | with_reducible exact Gr.refl _ | with_reducible refine Gr.alloc _ ?_ | with_reducible refine Gr.xt _ _ ?_ | with_reducible refine Gr.drew ?_))) (ZO.out.giB (by repeat (first | with_reducible exact Gr.refl _ | with_reducible refine Gr.alloc _ ?_ | with_reducible refine Gr.xt _ _ ?_ | with_reducible refine Gr.drew ?_))) (ZL.out.giI (by repeat (first | with_reducible exact Gr.refl _ | with_reducible refine Gr.alloc _ ?_ | with_reducible refine Gr.xt _ _ ?_ | with_reducible refine Gr.drew ?_))) FY1.out FY2.out FX1.out FX2.out))))
        refine wpQuiet_nil ?_
        rintro _ ⟨⟨O7, d7⟩, rfl⟩
        clear i2 i5
        go_wp2_with fail
        go_roundw
        case rel => exact ⟨j + 1 + 1, by omega, by go_num, HG.out.trans (by repeat (first | with_reducible exact Gr.refl _ | with_reducible refine Gr.alloc _ ?_ | with_reducible refine Gr.xt _ _ ?_ | with_reducible refine Gr.drew ?_))⟩
        case measure => simp [intOf]; omega
    · have ba0 := cell_gr (G8.out.trans HG.out) BA7.out.1
      have ba1 := cell_gr (G8.out.trans HG.out) BA7.out.2
      have bah := has_of_cell ba0
      have hPE : Hid (planE l ra ra d = 0) := Lib.hid (planE_zero MA.out MA.out)
      have hPP : Hid (planP l ra ra d = []) := Lib.hid (by rw [planP, if_pos hPE.out, planL_self RA.out])
      go_wp2_with fail
      refine (plan_any l ra ra d ao a1 a2 a1 a2 ad cp c1 c2 c1 c2 cd _ (sups_gr SL.out (G48.out.trans HG.out)) FL.out (S1.out.giB (G48.out.trans HG.out)) (S2.out.giI (G48.out.trans HG.out)) (S1.out.giB (G48.out.trans HG.out)) (S2.out.giI (G48.out.trans HG.out)) (drws_gr SD.out (G48.out.trans HG.out)) K.out.1 K.out.2.1 K.out.1 K.out.2.1 F1.out F2.out F1.out F2.out FD.out).mono ?_
      rw [hPP.out, hPE.out]
      rintro e W9 ⟨an, cn, rfl, -, -, hg9⟩
      have G9 := Lib.hid hg9
      clear hg9 ba0 ba1 bah
      go_wp2_with fail
      refine (awake_any _).mono ?_
      rintro e w' ⟨rfl, hg⟩
      have HE := Lib.hid hg
      clear hg
      go_wp2_with fail
      go_ret
      exact ⟨rfl, GW4.out.trans (G48.out.trans (HG.out.trans (G9.out.trans HE.out)))⟩
end Go.Proofs.Ytoenkcojfogmmaa
