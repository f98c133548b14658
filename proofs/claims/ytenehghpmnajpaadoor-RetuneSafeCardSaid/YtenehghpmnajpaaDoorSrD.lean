/- Contracts of the reference's calm and Calm, of retune.Calm, where clocks, settings and limits are right. -/
import Derived.Test.YtenehghpmnajpaaDoorSrC
set_option linter.unusedVariables false
set_option linter.unusedSimpArgs false
namespace Go.Proofs.YtenehghpmnajpaaDoor
open Go.RowKit
open Classical

set_option maxRecDepth 100000 in
set_option maxHeartbeats 2000000 in
theorem refCalm1_any (l : List Clk) (ms : List Lmt) (s : List Int) (al aS am : Option Addr) (cl cs cm : Nat) (w : World) (h : SlOf 5 RClk w al l) (hs : SlOf 1 RI w aS s) (hm : SlOf 3 RLmt w am ms) (hc : cchk l = 0) (hset : SetOk l s) (hlm : ms.length ≤ 32 ∧ ∀ j (h : j < ms.length), LmtOk l ms[j]) :
    Calls Tryd.prog 59 #[.slice al l.length cl, .slice aS s.length cs, .slice am ms.length cm] w (Grows w (.bool (calS l ms s))) := by
  have hl := small_len (cchk_zero hc).1
  have hRl : (rts l s).length = l.length := rts_len _ _ hset.1.symm
  have ST := Lib.hid (states_any l s al aS cl cs w h hs hc hset)
  rw [hset.1] at ST
  have RG := Lib.hid (rts_good hc hset)
  have H := Lib.hid h
  have HM := Lib.hid hm
  have LM := Lib.hid hlm.2
  have hml := hlm.1
  obtain ⟨R, eR⟩ : ∃ R, rts l s = R := ⟨_, rfl⟩
  have ST2 : Hid (Calls Tryd.prog 25 #[.slice al l.length cl, .slice aS l.length cs] w (fun e w' => ∃ v1 v2, e = .returned (.tuple #[v1, v2]) ∧ w'.ownsRow w.heap.size 56 2 v1 l.length (encP (R.map prR)) ∧ w'.ownsRow w.heap.size 4 1 v2 l.length (bools (onL R)) ∧ Gr w w')) := Lib.hid (by rw [← eR]; exact ST.out)
  rw [eR] at RG hRl
  have cal : calS l ms s = decide (CalmR R l ms) := by rw [← eR]; rfl
  have HL := Lib.hid hRl
  rw [cal, hset.1]
  clear cal ST h hs hm hc hset hlm eR hRl
  go_enter Tryd.func59, Tryd.ntmps59
  go_wp2_with fail
  refine ST2.out.mono ?_
  rintro e w1 ⟨v1, v2, rfl, ho1, ho2, hg⟩
  obtain ⟨a1, c1, rfl, hr⟩ := rates_of_owns HL.out ho1
  obtain ⟨a2, c2, rfl, hon⟩ := ons_of_owns HL.out ho2
  have HR := Lib.hid hr
  have HO := Lib.hid hon
  have G1 := Lib.hid hg
  clear ho1 ho2 hr hon hg ST2
  go_wp2_with fail
  go_loopw [19] (fun i wr => ∃ k : Nat, k ≤ ms.length ∧ i = .int .i64 k ∧ (∀ j (h : j < ms.length), j < k → okIn (rtAt R ms[j].clock.toNat) 0 ms[j].high = true) ∧ Gr w1 wr) (fun i _ => ms.length - (intOf i).toNat)
  case atStart => exact ⟨0, Nat.zero_le _, rfl, fun j _ h => absurd h (by omega), Gr.refl _⟩
  case round =>
    obtain ⟨k, hk, rfl, hall, hg⟩ := hrel
    have HA := Lib.hid hall
    have HG := Lib.hid hg
    clear hall hg
    obtain ⟨wo, rfl⟩ : ∃ wo : World, wo = wr := ⟨_, rfl⟩
    by_cases hlt : k < ms.length
    · obtain ⟨b, o, rfl, ⟨d0, _⟩, ⟨d1, _⟩, ⟨d2, _⟩⟩ := lmts_gr HM.out (G1.out.trans HG.out) k hlt
      obtain ⟨u0, u1, _⟩ := LM.out k hlt
      obtain ⟨q, hq⟩ : ∃ q : Nat, ms[k].clock = q := ⟨_, (Int.toNat_of_nonneg u0).symm⟩
      have eq : ms[k].clock.toNat = q := by omega
      have hql : q < R.length := by have := HL.out; omega
      obtain ⟨g1, rfl, r0, r1⟩ := (HR.out.gr HG.out) q hql
      obtain ⟨g2, rfl, r2⟩ := (HO.out.gr HG.out) q hql
      have e := rtAt_eq hql
      have hgd := RG.out q hql
      rw [← e] at hgd
      obtain ⟨r, hrr⟩ : ∃ r, rtAt R q = r := ⟨_, rfl⟩
      rw [hrr] at r0 r1 r2 hgd
      have gh1 := has_of_cell r0
      have gh2 := has_of_cell r2
      have q2 : (q : Int) < l.length := by omega
      have RR : Hid (rtAt R ms[k].clock.toNat = r) := Lib.hid (by rw [eq]; exact hrr)
      have NX : Hid (okIn r 0 ms[k].high = true → ∀ j (h : j < ms.length), j < k + 1 → okIn (rtAt R ms[j].clock.toNat) 0 ms[j].high = true) := Lib.hid fun q j h1 hj => by
        by_cases e : j = k
        · subst e; rw [RR.out]; exact q
        · exact HA.out j h1 (by omega)
      have BAD : Hid (okIn r 0 ms[k].high = false → ¬ CalmR R l ms) := Lib.hid fun q h => by
        have := h.2 k hlt
        rw [RR.out, q] at this; cases this
      rw [hq] at d0
      clear hrr e eq u0 u1 hq
      cases r with
      | none =>
        simp only [numR, denR, Option.isSome_none] at r0 r1 r2
        have bad := Lib.hid (BAD.out rfl)
        clear hgd NX BAD
        go_wp2_with fail
        refine wp_region_grows (by kernel_rfl) (by kernel_rfl) ?_
        repeat (go_big_quiet_step (fail))
        refine wpQuiet_nil ?_
        rintro _ ⟨⟨O, d⟩, rfl⟩
        go_wp2_with fail
        go_ret
        exact ⟨ret_bool (decide_eq_false bad.out).symm, ((G1.out.trans HG.out).alloc _).xt _ _⟩
      | some nd =>
        obtain ⟨n, d⟩ := nd
        obtain ⟨hv, hn1⟩ := hgd n d rfl
        obtain ⟨v1, v2, v3, v4, v5⟩ := valid_parts hv
        simp only [numR, denR, Option.isSome_some] at r0 r1 r2
        clear hv v5 hgd
        cases hq : withinB n d 0 ms[k].high with
        | true =>
          have NX3 := Lib.hid (NX.out (by simp [okIn, hq]))
          have wq := refWithin_any n d 0 ms[k].high
          rw [hq] at wq
          clear NX BAD hq
          go_wp2_with fail
          refine wp_region_grows (by kernel_rfl) (by kernel_rfl) ?_
          repeat (go_big_quiet_step (first | (go_at_call 26; exact calls_grows (wq _ (by omega) (by omega) (by omega) (by omega)))))
          refine wpQuiet_nil ?_
          rintro _ ⟨⟨O, d⟩, rfl⟩
          go_wp2_with fail
          go_roundw
          case rel => exact ⟨k + 1, by omega, by go_num, NX3.out, (HG.out.alloc _).xt _ _⟩
          case measure => simp [intOf]; omega
        | false =>
          have bad := Lib.hid (BAD.out (by simp [okIn, hq]))
          have wq := refWithin_any n d 0 ms[k].high
          rw [hq] at wq
          clear NX BAD hq
          go_wp2_with fail
          refine wp_region_grows (by kernel_rfl) (by kernel_rfl) ?_
          repeat (go_big_quiet_step (first | (go_at_call 26; exact calls_grows (wq _ (by omega) (by omega) (by omega) (by omega)))))
          refine wpQuiet_nil ?_
          rintro _ ⟨⟨O, d⟩, rfl⟩
          go_wp2_with fail
          go_ret
          exact ⟨ret_bool (decide_eq_false bad.out).symm, ((G1.out.trans HG.out).alloc _).xt _ _⟩
    · have HA2 : Hid (∀ j (h : j < ms.length), okIn (rtAt R ms[j].clock.toNat) 0 ms[j].high = true) := Lib.hid fun j h => HA.out j h (by omega)
      have OW := refOwn_any l R al a1 a2 cl c1 c2 wo (clks_gr H.out (G1.out.trans HG.out)) (by omega) RG.out HL.out (HR.out.gr HG.out) (HO.out.gr HG.out)
      have OW' := Lib.hid OW
      have EQ : Hid (decide (OwnR R l) = decide (CalmR R l ms)) := Lib.hid (by rw [decide_eq_decide]; exact ⟨fun q => ⟨q, HA2.out⟩, fun q => q.1⟩)
      clear HA OW
      go_wp2_with fail
      refine OW'.out.mono ?_
      rintro e w5 ⟨rfl, hg5⟩
      have G5 := Lib.hid ((G1.out.trans HG.out).trans hg5)
      clear hg5
      go_wp2_with fail
      go_ret
      exact ⟨ret_bool EQ.out, G5.out⟩
set_option maxRecDepth 100000 in
set_option maxHeartbeats 1000000 in
theorem refCalm_any (l : List Clk) (ms : List Lmt) (s : List Int) (al aS am : Option Addr) (cl cs cm : Nat) (w : World) (h : SlOf 5 RClk w al l) (hs : SlOf 1 RI w aS s) (hm : SlOf 3 RLmt w am ms) (hc : cchk l = 0) (hset : SetOk l s) (hlm : ms.length ≤ 32 ∧ ∀ j (h : j < ms.length), LmtOk l ms[j]) :
    Calls Tryd.prog 22 #[.slice al l.length cl, .slice aS s.length cs, .slice am ms.length cm] w (Grows w (.bool (calS l ms s))) := by
  have S1 := Lib.hid (fun W (hW : Gr w W) => refSetting_ok l s al aS cl cs W (clks_gr h hW) (hs.giI hW) hc hset)
  have S2 := Lib.hid (fun W (hW : Gr w W) => refLimits_ok l ms al am cl cm W (clks_gr h hW) (lmts_gr hm hW) hc hlm)
  have S3 := Lib.hid (fun W (hW : Gr w W) => refCalm1_any l ms s al aS am cl cs cm W (clks_gr h hW) (hs.giI hW) (lmts_gr hm hW) hc hset hlm)
  clear h hs hm hc hset hlm
  go_enter Tryd.func22, Tryd.ntmps22
  go_wp2_with fail
  refine (S1.out _ (Gr.refl _)).mono ?_
  rintro e w1 ⟨rfl, hg1⟩
  have G1 := Lib.hid hg1
  clear hg1
  go_wp2_with fail
  refine (S2.out _ G1.out).mono ?_
  rintro e w2 ⟨rfl, hg2⟩
  have G2 := Lib.hid (G1.out.trans hg2)
  clear hg2
  go_wp2_with fail
  refine (S3.out _ G2.out).mono ?_
  rintro e w3 ⟨rfl, hg3⟩
  have G3 := Lib.hid (G2.out.trans hg3)
  clear hg3
  go_wp2_with fail
  go_ret
  exact ⟨rfl, G3.out⟩
set_option maxRecDepth 100000 in
set_option maxHeartbeats 1000000 in
theorem proCalm_any (l : List Clk) (ms : List Lmt) (s : List Int) (al aS am : Option Addr) (cl cs cm : Nat) (w : World) (henv : Env w l ms al am) (hs : SlOf 1 RI w aS s) (hset : SetOk l s) :
    Calls Tryd.prog 21 #[.slice al l.length cl, .slice aS s.length cs, .slice am ms.length cm] w (Grows w (.bool (calS l ms s))) := by
  have hl := small_len (cchk_zero henv.chk).1
  have ff : Fit l.length := by unfold Fit; omega
  have fs : Fit s.length := by rw [hset.1]; exact ff
  have fm : Fit ms.length := by have := henv.lims.1; unfold Fit; omega
  have S1 : Hid (∀ W, Gr w W → Calls Tryd.prog 54 #[.slice al l.length cl, .slice am ms.length cm] W (Grows W (.bool true))) := Lib.hid fun W hW => by
    have := pLimits_any l ms al am cl cm W (clks_gr henv.clks hW) ff (lmts_gr henv.lmts hW) fm
    rwa [decide_eq_true (show LmtsOk l ms from ⟨henv.chk, henv.lims.1, henv.lims.2⟩)] at this
  have S2 : Hid (∀ W, Gr w W → Calls Tryd.prog 55 #[.slice al l.length cl, .slice aS s.length cs] W (Grows W (.bool true))) := Lib.hid fun W hW => by
    have := pSetting_any l s al aS cl cs W (clks_gr henv.clks hW) (hs.giI hW) ff fs
    rwa [decide_eq_true ⟨henv.chk, hset⟩] at this
  have S3 := Lib.hid (fun W (hW : Gr w W) => calm_any l ms s al aS am cl cs cm W (clks_gr henv.clks hW) (hs.giI hW) (lmts_gr henv.lmts hW) henv.chk hset henv.lims (henv.off.gr hW))
  clear henv hs hset ff fs fm
  go_enter Tryd.func21, Tryd.ntmps21
  go_wp2_with fail
  refine (S1.out _ (Gr.refl _)).mono ?_
  rintro e w1 ⟨rfl, hg1⟩
  have G1 := Lib.hid hg1
  clear hg1
  go_wp2_with fail
  refine (S2.out _ G1.out).mono ?_
  rintro e w2 ⟨rfl, hg2⟩
  have G2 := Lib.hid (G1.out.trans hg2)
  clear hg2
  go_wp2_with fail
  refine (S3.out _ G2.out).mono ?_
  rintro e w3 ⟨rfl, hg3⟩
  have G3 := Lib.hid (G2.out.trans hg3)
  clear hg3
  go_wp2_with fail
  go_ret
  exact ⟨rfl, G3.out⟩
end Go.Proofs.YtenehghpmnajpaaDoor
