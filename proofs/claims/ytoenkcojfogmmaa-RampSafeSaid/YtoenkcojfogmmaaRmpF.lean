/- ramp.Plan: the walk. -/
import Derived.Test.YtoenkcojfogmmaaRmpE
set_option linter.unusedVariables false
set_option linter.unusedSimpArgs false
namespace Go.Proofs.Ytoenkcojfogmmaa
open Go.RowKit
open Classical

/-- The call returns a list of writes and an error. -/
def GivesWs (w : World) (ps : List Wri) (x : Int) (e : Ending) (w' : World) : Prop :=
  ∃ ao cap, e = .returned (.tuple #[.slice ao ps.length cap, .int .i64 x]) ∧ ps.length ≤ cap ∧ SlOf 3 RWri w' ao ps ∧ Gr w w'
theorem givesWs_nil {w w' : World} {ps : List Wri} {x : Int} (hp : ps = []) (hg : Gr w w') : GivesWs w ps x (.returned (.tuple #[.slice none 0 0, .int .i64 x])) w' := by
  subst hp
  exact ⟨none, 0, rfl, Nat.le_refl _, SlOf.nil _ _ _ _, hg⟩
theorem ret_tup {v : Value} {x y : Int} (h : x = y) : Ending.returned (.tuple #[v, .int .i64 x]) = .returned (.tuple #[v, .int .i64 y]) := by rw [h]

set_option maxRecDepth 100000 in
set_option maxHeartbeats 4000000 in
theorem plan_any (l : List Sup) (a b : Rls) (d : List Drw) (ao a1 a2 a3 a4 a5 : Option Addr) (cap c1 c2 c3 c4 c5 : Nat) (w : World) (h : SlOf 5 RSup w ao l) (hf : Fit l.length) (h1 : SlOf 1 RB w a1 a.on) (h2 : SlOf 1 RI w a2 a.level) (h3 : SlOf 1 RB w a3 b.on) (h4 : SlOf 1 RI w a4 b.level) (h5 : SlOf 4 RDrw w a5 d)
    (k1 : a.on.length ≤ c1) (k2 : a.level.length ≤ c2) (k3 : b.on.length ≤ c3) (k4 : b.level.length ≤ c4) (f1 : Fit a.on.length) (f2 : Fit a.level.length) (f3 : Fit b.on.length) (f4 : Fit b.level.length) (f5 : Fit d.length) :
    Calls Try.prog 13 #[.slice ao l.length cap, .agg #[.slice a1 a.on.length c1, .slice a2 a.level.length c2], .agg #[.slice a3 b.on.length c3, .slice a4 b.level.length c4], .slice a5 d.length c5] w (GivesWs w (planP l a b d) (planE l a b d)) := by
  have H := Lib.hid h
  have H1 := Lib.hid h1
  have H2 := Lib.hid h2
  have H3 := Lib.hid h3
  have H4 := Lib.hid h4
  have H5 := Lib.hid h5
  have HF := Lib.hid hf
  have F1 := Lib.hid f1
  have F2 := Lib.hid f2
  have F3 := Lib.hid f3
  have F4 := Lib.hid f4
  have F5 := Lib.hid f5
  clear h h1 h2 h3 h4 h5 hf f1 f2 f3 f4 f5
  have K : Hid (a.on.length ≤ c1 ∧ a.level.length ≤ c2 ∧ b.on.length ≤ c3 ∧ b.level.length ≤ c4) := Lib.hid ⟨k1, k2, k3, k4⟩
  clear k1 k2 k3 k4
  go_enter Try.func13, Try.ntmps13
  go_wp2_with fail
  refine (begin_any l [a, b] ao (some ⟨w.heap.size + 2, 0, none⟩) cap 2 _ (sups_gr H.out (by repeat (first | with_reducible exact Gr.refl _ | with_reducible refine Gr.alloc _ ?_ | with_reducible refine Gr.xt _ _ ?_ | with_reducible refine Gr.drew ?_))) HF.out (two_rls (a1 := a1) (a2 := a2) (a3 := a3) (a4 := a4) (c1 := c1) (c2 := c2) (c3 := c3) (c4 := c4) (by simp [go_sem]) (by simp [go_sem]) (by simp [go_sem]) (by simp [go_sem]) (H1.out.giB (by repeat (first | with_reducible exact Gr.refl _ | with_reducible refine Gr.alloc _ ?_ | with_reducible refine Gr.xt _ _ ?_ | with_reducible refine Gr.drew ?_))) (H2.out.giI (by repeat (first | with_reducible exact Gr.refl _ | with_reducible refine Gr.alloc _ ?_ | with_reducible refine Gr.xt _ _ ?_ | with_reducible refine Gr.drew ?_))) (H3.out.giB (by repeat (first | with_reducible exact Gr.refl _ | with_reducible refine Gr.alloc _ ?_ | with_reducible refine Gr.xt _ _ ?_ | with_reducible refine Gr.drew ?_))) (H4.out.giI (by repeat (first | with_reducible exact Gr.refl _ | with_reducible refine Gr.alloc _ ?_ | with_reducible refine Gr.xt _ _ ?_ | with_reducible refine Gr.drew ?_))) K.out.1 K.out.2.1 K.out.2.2.1 K.out.2.2.2 F1.out F2.out F3.out F4.out) (by unfold Fit; simp)).mono ?_
  rintro e w' ⟨rfl, O1, d1, rfl⟩
  by_cases hb : begR l [a, b] = 0
  · have HB := Lib.hid hb
    rw [hb]
    have hz := begR_zero hb
    have ra := Lib.hid (hz.2 a (by simp))
    have rb := Lib.hid (hz.2 b (by simp))
    clear hz hb
    by_cases hd : DrwsOk l d
    · have hdb : decide (DrwsOk l d) = true := by simp [hd]
      have HD := Lib.hid hd
      clear hd
      go_wp2_with fail
      refine (draws_any l d ao a5 cap c5 _ (sups_gr H.out (by repeat (first | with_reducible exact Gr.refl _ | with_reducible refine Gr.alloc _ ?_ | with_reducible refine Gr.xt _ _ ?_ | with_reducible refine Gr.drew ?_))) HF.out (drws_gr H5.out (by repeat (first | with_reducible exact Gr.refl _ | with_reducible refine Gr.alloc _ ?_ | with_reducible refine Gr.xt _ _ ?_ | with_reducible refine Gr.drew ?_))) F5.out).mono ?_
      rw [hdb]
      clear hdb
      rintro e w' ⟨rfl, O2, d2, rfl⟩
      by_cases hma : MeetsAll l a d
      · have hmb : decide (MeetsAll l a d) = true := by simp [hma]
        have MA := Lib.hid hma
        clear hma
        go_wp2_with fail
        refine (meets_any l a d ao a1 a2 a5 cap c1 c2 c5 _ (sups_gr H.out (by repeat (first | with_reducible exact Gr.refl _ | with_reducible refine Gr.alloc _ ?_ | with_reducible refine Gr.xt _ _ ?_ | with_reducible refine Gr.drew ?_))) HF.out (H1.out.giB (by repeat (first | with_reducible exact Gr.refl _ | with_reducible refine Gr.alloc _ ?_ | with_reducible refine Gr.xt _ _ ?_ | with_reducible refine Gr.drew ?_))) (H2.out.giI (by repeat (first | with_reducible exact Gr.refl _ | with_reducible refine Gr.alloc _ ?_ | with_reducible refine Gr.xt _ _ ?_ | with_reducible refine Gr.drew ?_))) (drws_gr H5.out (by repeat (first | with_reducible exact Gr.refl _ | with_reducible refine Gr.alloc _ ?_ | with_reducible refine Gr.xt _ _ ?_ | with_reducible refine Gr.drew ?_))) F1.out F2.out F5.out).mono ?_
        rw [hmb]
        clear hmb
        rintro e w' ⟨rfl, O3, d3, rfl⟩
        by_cases hmc : MeetsAll l b d
        · have hmb : decide (MeetsAll l b d) = true := by simp [hmc]
          have MB := Lib.hid hmc
          clear hmc
          go_wp2_with fail
          refine (meets_any l b d ao a3 a4 a5 cap c3 c4 c5 _ (sups_gr H.out (by repeat (first | with_reducible exact Gr.refl _ | with_reducible refine Gr.alloc _ ?_ | with_reducible refine Gr.xt _ _ ?_ | with_reducible refine Gr.drew ?_))) HF.out (H3.out.giB (by repeat (first | with_reducible exact Gr.refl _ | with_reducible refine Gr.alloc _ ?_ | with_reducible refine Gr.xt _ _ ?_ | with_reducible refine Gr.drew ?_))) (H4.out.giI (by repeat (first | with_reducible exact Gr.refl _ | with_reducible refine Gr.alloc _ ?_ | with_reducible refine Gr.xt _ _ ?_ | with_reducible refine Gr.drew ?_))) (drws_gr H5.out (by repeat (first | with_reducible exact Gr.refl _ | with_reducible refine Gr.alloc _ ?_ | with_reducible refine Gr.xt _ _ ?_ | with_reducible refine Gr.drew ?_))) F3.out F4.out F5.out).mono ?_
          rw [hmb]
          clear hmb
          rintro e w' ⟨rfl, O4, d4, rfl⟩
          have hE : planE l a b d = 0 := by rw [planE, if_pos HB.out, if_pos HD.out, if_pos ⟨MA.out, MB.out⟩]
          have hP : planP l a b d = planL l.length a b := by rw [planP, if_pos hE]
          have HE := Lib.hid hE
          have HP := Lib.hid hP
          clear hE hP
          have hz := chk_zero HD.out.1
          have n16 : l.length ≤ 16 := by
            have := hz.1
            simp only [Big, not_or] at this
            omega
          clear hz
          go_wp2_with fail
          refine (join_any a b l.length a1 a2 a3 a4 c1 c2 c3 c4 _ (H1.out.giB (by repeat (first | with_reducible exact Gr.refl _ | with_reducible refine Gr.alloc _ ?_ | with_reducible refine Gr.xt _ _ ?_ | with_reducible refine Gr.drew ?_))) (H2.out.giI (by repeat (first | with_reducible exact Gr.refl _ | with_reducible refine Gr.alloc _ ?_ | with_reducible refine Gr.xt _ _ ?_ | with_reducible refine Gr.drew ?_))) (H3.out.giB (by repeat (first | with_reducible exact Gr.refl _ | with_reducible refine Gr.alloc _ ?_ | with_reducible refine Gr.xt _ _ ?_ | with_reducible refine Gr.drew ?_))) (H4.out.giI (by repeat (first | with_reducible exact Gr.refl _ | with_reducible refine Gr.alloc _ ?_ | with_reducible refine Gr.xt _ _ ?_ | with_reducible refine Gr.drew ?_))) ra.out.2.1 ra.out.2.2.1 rb.out.2.1 rb.out.2.2.1 n16).mono ?_
          rintro e W2 ⟨a6, c6, a7, c7, rfl, hc6, hc7, o1, o2, hg⟩
          have hg2 : Gr w W2 := Gr.trans (by repeat (first | with_reducible exact Gr.refl _ | with_reducible refine Gr.alloc _ ?_ | with_reducible refine Gr.xt _ _ ?_ | with_reducible refine Gr.drew ?_)) hg
          have e0 : W2.cell? ⟨w.heap.size, 0, none⟩ = some (.slice a1 a.on.length c1) := cell_gr hg (by simp [go_sem])
          have e1 : W2.cell? ⟨w.heap.size, 1, none⟩ = some (.slice a2 a.level.length c2) := cell_gr hg (by simp [go_sem])
          have e2 : W2.cell? ⟨w.heap.size + 1, 0, none⟩ = some (.slice a3 b.on.length c3) := cell_gr hg (by simp [go_sem])
          have e3 : W2.cell? ⟨w.heap.size + 1, 1, none⟩ = some (.slice a4 b.level.length c4) := cell_gr hg (by simp [go_sem])
          have x0 := has_of_cell e0
          have x1 := has_of_cell e2
          have O6 := Lib.hid (o1.low (Nat.zero_le _))
          have O7 := Lib.hid (o2.low (Nat.zero_le _))
          have G2 := Lib.hid hg2
          have E2 := Lib.hid e2
          have E3 := Lib.hid e3
          clear o1 o2 hg hg2
          clear O1 O2 O3 O4 d1 d2 d3 d4
          go_wp2_with fail
          refine (copied_any a a1 a2 c1 c2 _ (H1.out.giB (G2.out.alloc _)) (H2.out.giI (G2.out.alloc _)) (by have := ra.out.2.1; omega) (by have := ra.out.2.2.1; omega)).mono ?_
          rintro e W4 ⟨a8, c8, a9, c9, rfl, hc8, hc9, o8, o9, hg4⟩
          have G4 := Lib.hid hg4
          have O8 := Lib.hid o8
          have O9 := Lib.hid o9
          clear o8 o9 hg4 e0 e1 e2 e3 x0 x1
          go_wp2_with fail
          obtain ⟨W3, hW3⟩ : ∃ W3 : World, Hid (W3 = W2.alloc (.cells #[.slice a6 (joinR a b).on.length c6, .slice a7 (joinR a b).level.length c7] 31)) := ⟨_, Lib.hid rfl⟩
          have GW : Hid (Gr w W3) := Lib.hid (by rw [hW3.out]; exact G2.out.alloc _)
          have G23 : Hid (Gr W2 W3) := Lib.hid (by rw [hW3.out]; exact (Gr.refl _).alloc _)
          have T0 : Hid (W3.cell? ⟨W2.heap.size, 0, none⟩ = some (.slice a6 (joinR a b).on.length c6)) := Lib.hid (by rw [hW3.out]; simp [go_sem])
          have T1 : Hid (W3.cell? ⟨W2.heap.size, 1, none⟩ = some (.slice a7 (joinR a b).level.length c7)) := Lib.hid (by rw [hW3.out]; simp [go_sem])
          rw [← hW3.out] at G4 O8 O9
          clear hW3
          rcases Nat.eq_zero_or_pos l.length with hn0 | hn0
          · have hN : Hid (planL l.length a b = []) := Lib.hid (by have := planL_len l.length a b; exact List.eq_nil_of_length_eq_zero (by omega))
            have W5G : Hid (Gr w (W4.alloc (.cells #[.slice a8 a.on.length c8, .slice a9 a.level.length c9, .slice none 0 0] 81))) := Lib.hid ((GW.out.trans G4.out).alloc _)
            obtain ⟨W5, hW5⟩ : ∃ W5 : World, Hid (W5 = W4.alloc (.cells #[.slice a8 a.on.length c8, .slice a9 a.level.length c9, .slice none 0 0] 81)) := ⟨_, Lib.hid rfl⟩
            have hp0 : W5.cell? ⟨W4.heap.size, 2, none⟩ = some (.slice none 0 0) := by rw [hW5.out]; simp [go_sem]
            have hph := has_of_cell hp0
            rw [← hW5.out] at W5G ⊢
            clear hW5
            rw [hn0]
            go_loopw [50] (fun i wr => i = .int .i64 0 ∧ W5 = wr) (fun i _ => 0)
            case atStart => exact ⟨rfl, rfl⟩
            case round =>
              obtain ⟨rfl, rfl⟩ := hrel
              go_wp2_with fail
              go_loopw [14] (fun i wr => i = .int .i64 (-1) ∧ W5 = wr) (fun i _ => 0)
              case atStart => exact ⟨rfl, rfl⟩
              case round =>
                obtain ⟨rfl, rfl⟩ := hrel
                go_wp2_with fail
                refine bodyPost_ret (v := .tuple #[.slice none 0 0, .int .i64 0]) ?_ rfl ?_
                · simp [results, Try.results13, go_sem]
                · rw [HE.out, HP.out, hN.out]
                  exact givesWs_nil rfl W5G.out
          · have na : a.on.length = l.length := ra.out.2.1
            have na2 : a.level.length = l.length := ra.out.2.2.1
            have nb : b.on.length = l.length := rb.out.2.1
            have nb2 : b.level.length = l.length := rb.out.2.2.1
            have nT : (joinR a b).on.length = l.length := by rw [joinR_on_len]; exact nb
            have nT2 : (joinR a b).level.length = l.length := by rw [joinR_lv_len]; exact nb2
            obtain ⟨B1, rfl, hB1, q1⟩ := O8.out.at (by simp [bools]; omega)
            obtain ⟨B2, rfl, hB2, q2⟩ := O9.out.at (by simp [nums]; omega)
            obtain ⟨B6, rfl, _, q6⟩ := O6.out.at (by simp [bools]; omega)
            obtain ⟨B7, rfl, _, q7⟩ := O7.out.at (by simp [nums]; omega)
            have w0 : WrAt W3.heap.size (W4.alloc (.cells #[.slice (some ⟨B1, 0, none⟩) a.on.length c8, .slice (some ⟨B2, 0, none⟩) a.level.length c9, .slice none 0 0] 81)) W4.heap.size l.length B1 c8 B2 c9 (.slice none 0 0) a [] :=
              ⟨by have := Row.new W4 #[.slice (some ⟨B1, 0, none⟩) a.on.length c8, .slice (some ⟨B2, 0, none⟩) a.level.length c9, .slice none 0 0] 81; rw [na, na2] at this ⊢; exact this, q1.alloc _, q2.alloc _, World.ownsRow_nil _ _ _ _, G4.out.size, hB1, hB2, na, na2⟩
            have WS := Lib.hid w0
            have GS : Hid (Gr W3 (W4.alloc (.cells #[.slice (some ⟨B1, 0, none⟩) a.on.length c8, .slice (some ⟨B2, 0, none⟩) a.level.length c9, .slice none 0 0] 81))) := Lib.hid (G4.out.alloc _)
            have Q6 := Lib.hid (q6.gr G23.out)
            have Q7 := Lib.hid (q7.gr G23.out)
            have NT := Lib.hid nT
            have NT2 := Lib.hid nT2
            have NB := Lib.hid nb
            have NB2 := Lib.hid nb2
            clear q1 q2 q6 q7 w0 O6 O7 O8 O9 na na2 nT nT2 nb nb2
            obtain ⟨Bw, hBw⟩ : ∃ Bw, Bw = W4.heap.size := ⟨_, rfl⟩
            rw [← hBw] at WS ⊢
            obtain ⟨W5, hW5⟩ : ∃ W5 : World, Hid (W5 = W4.alloc (.cells #[.slice (some ⟨B1, 0, none⟩) a.on.length c8, .slice (some ⟨B2, 0, none⟩) a.level.length c9, .slice none 0 0] 81)) := ⟨_, Lib.hid rfl⟩
            rw [← hW5.out] at WS GS ⊢
            clear hW5 hBw
            go_loopw [50] (fun i wr => ∃ k : Nat, k ≤ l.length ∧ i = .int .i64 k ∧ Gr W3 wr ∧ ∃ v, WrAt W3.heap.size wr Bw l.length B1 c8 B2 c9 v (upTo (joinR a b) (a, []) k).1 (upTo (joinR a b) (a, []) k).2) (fun i _ => l.length - (intOf i).toNat)
            case atStart => exact ⟨0, Nat.zero_le _, rfl, GS.out, _, WS.out⟩
            case round =>
              clear WS GS
              obtain ⟨k, hk, rfl, hg, v, hw⟩ := hrel
              have HG := Lib.hid hg
              have HW := Lib.hid hw
              clear hg hw
              by_cases hlt : k < l.length
              · have t0 := cell_gr HG.out T0.out
                have t1 := cell_gr HG.out T1.out
                have kT : k < (joinR a b).on.length := by have := NT.out; omega
                have kT2 : k < (joinR a b).level.length := by have := NT2.out; omega
                have t2 := (Q6.out.gr HG.out).bat k kT
                have t3 := (Q7.out.gr HG.out).iat k kT2
                rw [← onAt_eq kT] at t2
                rw [← lvAt_eq kT2] at t3
                have x0 := has_of_cell t0
                have x1 := has_of_cell t2
                have x2 := has_of_cell t3
                have g0 : (0 : Int) ≤ k := by omega
                have g1 : (k : Int) < (joinR a b).on.length := by omega
                have g2 : (k : Int) < (joinR a b).level.length := by omega
                have hl1 := upTo_len (joinR a b) (a, []) k
                have hl2 := wLevel_len (upTo (joinR a b) (a, []) k) k (lvAt (joinR a b) k)
                simp only [List.length_nil] at hl1
                have L1 : Hid ((upTo (joinR a b) (a, []) k).2.length ≤ 1000) := Lib.hid (by omega)
                have L2 : Hid ((wLevel (upTo (joinR a b) (a, []) k) k (lvAt (joinR a b) k)).2.length ≤ 1000) := Lib.hid (by omega)
                clear hl1 hl2
                rcases Bool.eq_false_or_eq_true (onAt (joinR a b) k) with ho | ho
                · have HO := Lib.hid ho
                  rw [ho] at t2
                  clear ho
                  go_wp2_with fail
                  refine (level_any W3 Bw l.length B1 c8 B2 c9 v _ _ k (lvAt (joinR a b) k) _ hlt HW.out HG.out L1.out).mono ?_
                  rintro e w2 ⟨x, v2, rfl, hw2, hg2⟩
                  have HW2 := Lib.hid hw2
                  have HG2 := Lib.hid hg2
                  clear hw2 hg2 t0 t1 t2 t3 x0 x1 x2
                  go_wp2_with fail
                  refine (supply_any W3 Bw l.length B1 c8 B2 c9 v2 _ _ k true _ hlt HW2.out HG2.out L2.out).mono ?_
                  rintro e w3 ⟨x3, v3, rfl, hw3, hg3⟩
                  have HW3 := Lib.hid hw3
                  have HG3 := Lib.hid hg3
                  clear hw3 hg3
                  go_wp2_with fail
                  go_roundw
                  case rel =>
                    refine ⟨k + 1, by omega, by go_num, HG3.out, v3, ?_⟩
                    have := HW3.out
                    rw [show upTo (joinR a b) (a, []) (k + 1) = wSupply (wLevel (upTo (joinR a b) (a, []) k) k (lvAt (joinR a b) k)) k true by rw [upTo, if_pos HO.out]]
                    exact this
                  case measure => simp [intOf]; omega
                · have HO := Lib.hid ho
                  rw [ho] at t2
                  clear ho
                  go_wp2_with fail
                  go_roundw
                  case rel =>
                    refine ⟨k + 1, by omega, by go_num, HG.out, v, ?_⟩
                    rw [show upTo (joinR a b) (a, []) (k + 1) = upTo (joinR a b) (a, []) k by rw [upTo, if_neg (by rw [HO.out]; decide)]]
                    exact HW.out
                  case measure => simp [intOf]; omega
              · have hkn : k = l.length := by omega
                subst hkn
                obtain ⟨w1, rfl⟩ : ∃ w1 : World, w1 = wr := ⟨_, rfl⟩
                obtain ⟨s0, hs0⟩ : ∃ s0, s0 = upTo (joinR a b) (a, []) l.length := ⟨_, rfl⟩
                have hl0 : Hid (s0.2.length ≤ 32) := Lib.hid (by have := upTo_len (joinR a b) (a, []) l.length; rw [hs0]; simp only [List.length_nil] at this; omega)
                rw [← hs0] at HW
                have HS0 := Lib.hid hs0
                clear hs0 hlt
                go_wp2_with fail
                go_loopw [14] (fun i wr => ∃ m : Nat, m ≤ l.length ∧ i = .int .i64 ((l.length : Int) - 1 - m) ∧ Gr W3 wr ∧ ∃ v, WrAt W3.heap.size wr Bw l.length B1 c8 B2 c9 v (downTo b l.length s0 m).1 (downTo b l.length s0 m).2) (fun i _ => (intOf i + 1).toNat)
                case atStart => exact ⟨0, Nat.zero_le _, by simp, HG.out, _, HW.out⟩
                case round =>
                  clear HW HG
                  obtain ⟨m, hm, rfl, hg, v', hw⟩ := hrel
                  have HG := Lib.hid hg
                  have HW := Lib.hid hw
                  clear hg hw
                  by_cases hlt : m < l.length
                  · obtain ⟨j, hj⟩ : ∃ j, j = l.length - 1 - m := ⟨_, rfl⟩
                    have J := Lib.hid hj
                    have hjl : j < l.length := by omega
                    rw [show (l.length : Int) - 1 - m = (j : Int) by omega]
                    clear hj
                    have jb : j < b.on.length := by have := NB.out; omega
                    have jb2 : j < b.level.length := by have := NB2.out; omega
                    have t0 := cell_gr (G23.out.trans HG.out) E2.out
                    have t1 := cell_gr (G23.out.trans HG.out) E3.out
                    obtain ⟨v1, w1, rfl, s1⟩ := (H3.out.giB (GW.out.trans HG.out)).one j jb
                    obtain ⟨v2, w2, rfl, s2, s2w⟩ := (H4.out.giI (GW.out.trans HG.out)).one j jb2
                    unfold RB at s1
                    rw [← onAt_eq jb] at s1
                    rw [← lvAt_eq jb2] at s2
                    have x0 := has_of_cell t0
                    have x1 := has_of_cell s1
                    have x2 := has_of_cell s2
                    have g0 : (0 : Int) ≤ j := by omega
                    have g1 : (j : Int) < b.on.length := by omega
                    have g2 : (j : Int) < b.level.length := by omega
                    clear s2w
                    have hl1 := downTo_len b l.length s0 m
                    have hl2 := wSupply_len (downTo b l.length s0 m) j false
                    have hl3 := hl0.out
                    have L1 : Hid ((downTo b l.length s0 m).2.length ≤ 1000) := Lib.hid (by omega)
                    have L2 : Hid ((wSupply (downTo b l.length s0 m) j false).2.length ≤ 1000) := Lib.hid (by omega)
                    clear hl1 hl2 hl3
                    rcases Bool.eq_false_or_eq_true (onAt b j) with ho | ho
                    · have HO := Lib.hid ho
                      rw [ho] at s1
                      clear ho
                      go_wp2_with fail
                      refine (level_any W3 Bw l.length B1 c8 B2 c9 v' _ _ j (lvAt b j) _ hjl HW.out HG.out L1.out).mono ?_
                      rintro e w3 ⟨x3, v3, rfl, hw3, hg3⟩
                      have HW3 := Lib.hid hw3
                      have HG3 := Lib.hid hg3
                      clear hw3 hg3
                      go_wp2_with fail
                      go_roundw
                      case rel =>
                        refine ⟨m + 1, by omega, by have := J.out; go_num, HG3.out, v3, ?_⟩
                        have := HW3.out
                        rw [show downTo b l.length s0 (m + 1) = wLevel (downTo b l.length s0 m) j (lvAt b j) by rw [downTo, ← J.out, if_pos HO.out]]
                        exact this
                      case measure => simp [intOf]
                    · have HO := Lib.hid ho
                      rw [ho] at s1
                      clear ho
                      go_wp2_with fail
                      refine (supply_any W3 Bw l.length B1 c8 B2 c9 v' _ _ j false _ hjl HW.out HG.out L1.out).mono ?_
                      rintro e w3 ⟨x3, v3, rfl, hw3, hg3⟩
                      have HW3 := Lib.hid hw3
                      have HG3 := Lib.hid hg3
                      clear hw3 hg3
                      clear t0 t1 s1 s2 x0 x1 x2
                      have t1 := cell_gr (G23.out.trans HG3.out) E3.out
                      obtain ⟨v2', w2', ee, s2, s2w⟩ := (H4.out.giI (GW.out.trans HG3.out)).one j jb2
                      cases ee
                      rw [← lvAt_eq jb2] at s2
                      have x0 := has_of_cell t1
                      have x2 := has_of_cell s2
                      clear s2w
                      go_wp2_with fail
                      refine (level_any W3 Bw l.length B1 c8 B2 c9 v3 _ _ j (lvAt b j) _ hjl HW3.out HG3.out L2.out).mono ?_
                      rintro e w4 ⟨x4, v4, rfl, hw4, hg4⟩
                      have HW4 := Lib.hid hw4
                      have HG4 := Lib.hid hg4
                      clear hw4 hg4
                      go_wp2_with fail
                      go_roundw
                      case rel =>
                        refine ⟨m + 1, by omega, by have := J.out; go_num, HG4.out, v4, ?_⟩
                        have := HW4.out
                        rw [show downTo b l.length s0 (m + 1) = wLevel (wSupply (downTo b l.length s0 m) j false) j (lvAt b j) by rw [downTo, ← J.out, if_neg (by rw [HO.out]; decide)]]
                        exact this
                      case measure => simp [intOf]
                  · have hmn : m = l.length := by omega
                    subst hmn
                    rw [show (l.length : Int) - 1 - l.length = -1 by omega]
                    have hpl : (downTo b l.length s0 l.length).2 = planL l.length a b := by rw [HS0.out]; rfl
                    have hw := HW.out
                    rw [hpl] at hw
                    obtain ⟨pa, pc, rfl, hpc, hsl⟩ := owns_slW hw.pl (planL_wide ra.out rb.out (by omega))
                    have p0 := hw.box.cell 2 (by simp)
                    have p1 := hw.box.has
                    simp only [List.getElem_cons_zero, List.getElem_cons_succ] at p0
                    have SL := Lib.hid hsl
                    clear hsl hw hpl
                    go_wp2_with fail
                    refine bodyPost_ret (v := .tuple #[.slice pa (planL l.length a b).length pc, .int .i64 0]) ?_ rfl ?_
                    · simp [results, Try.results13, go_sem]
                    · rw [HE.out, HP.out]
                      exact ⟨pa, pc, rfl, hpc, SL.out, GW.out.trans HG.out⟩
        · have hmb : decide (MeetsAll l b d) = false := by simp [hmc]
          have MB := Lib.hid hmc
          clear hmc
          go_wp2_with fail
          refine (meets_any l b d ao a3 a4 a5 cap c3 c4 c5 _ (sups_gr H.out (by repeat (first | with_reducible exact Gr.refl _ | with_reducible refine Gr.alloc _ ?_ | with_reducible refine Gr.xt _ _ ?_ | with_reducible refine Gr.drew ?_))) HF.out (H3.out.giB (by repeat (first | with_reducible exact Gr.refl _ | with_reducible refine Gr.alloc _ ?_ | with_reducible refine Gr.xt _ _ ?_ | with_reducible refine Gr.drew ?_))) (H4.out.giI (by repeat (first | with_reducible exact Gr.refl _ | with_reducible refine Gr.alloc _ ?_ | with_reducible refine Gr.xt _ _ ?_ | with_reducible refine Gr.drew ?_))) (drws_gr H5.out (by repeat (first | with_reducible exact Gr.refl _ | with_reducible refine Gr.alloc _ ?_ | with_reducible refine Gr.xt _ _ ?_ | with_reducible refine Gr.drew ?_))) F3.out F4.out F5.out).mono ?_
          rw [hmb]
          clear hmb
          rintro e w' ⟨rfl, O4, d4, rfl⟩
          have hE : planE l a b d = 7 := by rw [planE, if_pos HB.out, if_pos HD.out, if_neg (fun q => MB.out q.2)]
          have hP : planP l a b d = [] := by rw [planP, if_neg (by omega)]
          have HE := Lib.hid hE
          have HP := Lib.hid hP
          clear hE hP
          go_wp2_with fail
          refine bodyPost_ret (v := .tuple #[.slice none 0 0, .int .i64 7]) ?_ rfl ?_
          · simp [results, Try.results13, go_sem]
          · rw [HE.out, HP.out]
            exact givesWs_nil rfl (by repeat (first | with_reducible exact Gr.refl _ | with_reducible refine Gr.alloc _ ?_ | with_reducible refine Gr.xt _ _ ?_ | with_reducible refine Gr.drew ?_))
      · have hmb : decide (MeetsAll l a d) = false := by simp [hma]
        have MA := Lib.hid hma
        clear hma
        go_wp2_with fail
        refine (meets_any l a d ao a1 a2 a5 cap c1 c2 c5 _ (sups_gr H.out (by repeat (first | with_reducible exact Gr.refl _ | with_reducible refine Gr.alloc _ ?_ | with_reducible refine Gr.xt _ _ ?_ | with_reducible refine Gr.drew ?_))) HF.out (H1.out.giB (by repeat (first | with_reducible exact Gr.refl _ | with_reducible refine Gr.alloc _ ?_ | with_reducible refine Gr.xt _ _ ?_ | with_reducible refine Gr.drew ?_))) (H2.out.giI (by repeat (first | with_reducible exact Gr.refl _ | with_reducible refine Gr.alloc _ ?_ | with_reducible refine Gr.xt _ _ ?_ | with_reducible refine Gr.drew ?_))) (drws_gr H5.out (by repeat (first | with_reducible exact Gr.refl _ | with_reducible refine Gr.alloc _ ?_ | with_reducible refine Gr.xt _ _ ?_ | with_reducible refine Gr.drew ?_))) F1.out F2.out F5.out).mono ?_
        rw [hmb]
        clear hmb
        rintro e w' ⟨rfl, O3, d3, rfl⟩
        have hE : planE l a b d = 7 := by rw [planE, if_pos HB.out, if_pos HD.out, if_neg (fun q => MA.out q.1)]
        have hP : planP l a b d = [] := by rw [planP, if_neg (by omega)]
        have HE := Lib.hid hE
        have HP := Lib.hid hP
        clear hE hP
        go_wp2_with fail
        refine bodyPost_ret (v := .tuple #[.slice none 0 0, .int .i64 7]) ?_ rfl ?_
        · simp [results, Try.results13, go_sem]
        · rw [HE.out, HP.out]
          exact givesWs_nil rfl (by repeat (first | with_reducible exact Gr.refl _ | with_reducible refine Gr.alloc _ ?_ | with_reducible refine Gr.xt _ _ ?_ | with_reducible refine Gr.drew ?_))
    · have hdb : decide (DrwsOk l d) = false := by simp [hd]
      have hE : planE l a b d = 1 := by rw [planE, if_pos HB.out, if_neg hd]
      have hP : planP l a b d = [] := by rw [planP, if_neg (by omega)]
      have HE := Lib.hid hE
      have HP := Lib.hid hP
      clear hd hE hP
      go_wp2_with fail
      refine (draws_any l d ao a5 cap c5 _ (sups_gr H.out (by repeat (first | with_reducible exact Gr.refl _ | with_reducible refine Gr.alloc _ ?_ | with_reducible refine Gr.xt _ _ ?_ | with_reducible refine Gr.drew ?_))) HF.out (drws_gr H5.out (by repeat (first | with_reducible exact Gr.refl _ | with_reducible refine Gr.alloc _ ?_ | with_reducible refine Gr.xt _ _ ?_ | with_reducible refine Gr.drew ?_))) F5.out).mono ?_
      rw [hdb]
      rintro e w' ⟨rfl, O2, d2, rfl⟩
      go_wp2_with fail
      refine bodyPost_ret (v := .tuple #[.slice none 0 0, .int .i64 1]) ?_ rfl ?_
      · simp [results, Try.results13, go_sem]
      · rw [HE.out, HP.out]
        exact givesWs_nil rfl (by repeat (first | with_reducible exact Gr.refl _ | with_reducible refine Gr.alloc _ ?_ | with_reducible refine Gr.xt _ _ ?_ | with_reducible refine Gr.drew ?_))
  · have hE : planE l a b d = begR l [a, b] := by rw [planE, if_neg hb]
    have hP : planP l a b d = [] := by rw [planP, if_neg (by omega)]
    have HE := Lib.hid hE
    have HP := Lib.hid hP
    clear hE hP
    have hbb : (begR l [a, b] != 0) = true := by simpa using hb
    clear hb
    go_wp2_with fail
    refine bodyPost_ret (v := .tuple #[.slice none 0 0, .int .i64 (begR l [a, b])]) ?_ rfl ?_
    · simp [results, Try.results13, go_sem]
    · rw [HE.out, HP.out]
      exact givesWs_nil rfl (by repeat (first | with_reducible exact Gr.refl _ | with_reducible refine Gr.alloc _ ?_ | with_reducible refine Gr.xt _ _ ?_ | with_reducible refine Gr.drew ?_))
end Go.Proofs.Ytoenkcojfogmmaa
