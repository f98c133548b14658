/- The walk of RetuneShort. -/
import Derived.Test.YtenehghpmnajpaaDoorPtE
set_option linter.unusedVariables false
set_option linter.unusedSimpArgs false
namespace Go.Proofs.YtenehghpmnajpaaDoor
open Go.RowKit
open Classical

theorem ham_succ (n : Nat) (a b : List Int) : ham (n + 1) a b = ham n a b + (if sOf a n ≠ sOf b n then 1 else 0) := by
  unfold ham
  rw [List.range_succ, List.countP_append]
  simp [List.countP_cons]
theorem ham_zero' (a b : List Int) : ham 0 a b = 0 := rfl
theorem ham_mono (a b : List Int) (n m : Nat) (h : n ≤ m) : ham n a b ≤ ham m a b := by
  induction m with
  | zero => have : n = 0 := by omega
            subst this; exact Nat.le_refl _
  | succ m ih =>
    by_cases e : n = m + 1
    · subst e; exact Nat.le_refl _
    · have := ih (by omega)
      rw [ham_succ]; omega
/-- What the loops ask of a path. -/
structure PathOk (l : List Clk) (n : Nat) (t : List Int) (path : List (List Int)) : Prop where
  len : path.length = n + 1
  ok : ∀ i (hi : i < path.length), SetOk l path[i]
  diff : ∀ i k (hi : i < path.length) (hk : k < i), path[i] ≠ path[k]
  ham : ∀ i (hi : i < path.length), ham l.length path[i] t + i ≤ n
theorem PlanOk.path {l : List Clk} {ms : List Lmt} {f t : List Int} {ps : List (Int × Int)} (h : PlanOk l ms f t ps) : PathOk l ps.length t (pathS f ps) := ⟨pathS_len f ps, h.ok, h.diff, h.ham⟩
set_option maxRecDepth 100000 in
set_option maxHeartbeats 2000000 in
theorem short_walk (a : Option Addr) (len cap : Nat) (zs : List Int) (w : World) (h : RowIn w a len cap zs) (hoff : OffV w) :
    Calls Tryd.prog 4 #[.slice a len cap] w (Grows w (.bool true)) := by
  have H := Lib.hid h
  have HO := Lib.hid hoff
  clear h hoff
  go_enter Tryd.func4, Tryd.ntmps4
  go_wp2_with fail
  refine (newTape_any w a len cap zs H.out).mono ?_
  rintro e w1 ⟨b, n, rfl, T, hg, hb, _⟩
  have HT : Hid (Tp w1 b n) := Lib.hid ⟨_, T⟩
  have HB := Lib.hid T.has
  have HG := Lib.hid hg
  have LB := Lib.hid hb
  clear T hg hb
  go_wp2_with fail
  refine (calmOnes_any w1 b n 200 HT.out (by omega) (by omega)).mono ?_
  rintro e w2 ⟨ts, ms, f, t, g, c, vm, af, at', cf, ct, ok, rfl, ho, hr, hck, hge, hle, hom, hls, hof, hsf, hot, hst, hcal, hm2⟩
  have hcl : (clks ts).length = ts.length := clks_len ts
  obtain ⟨am, cm, rfl, sm2⟩ := lmts_of_owns hom (by rw [hcl]; omega) hls
  have G2 : Hid (Gr w w2) := Lib.hid (Mv.gr_low HG.out LB.out hm2)
  cases ok with
  | false =>
    clear ho hr hck hom hls hof hsf hot hst hcal hm2 hcl sm2
    go_wp2_with fail
    refine (awake_any w2 (HO.out.gr G2.out)).mono ?_
    rintro e w3 ⟨rfl, hg3⟩
    have G3 := Lib.hid (G2.out.trans hg3)
    clear hg3
    go_wp2_with fail
    go_ret
    exact ⟨rfl, G3.out⟩
  | true =>
    obtain ⟨_, _, eq3, _, sl2⟩ := clks_at ho hr (by omega)
    cases eq3
    have sf2 := hof.slI (setOk_wide hck hsf)
    have st2 := hot.slI (setOk_wide hck hst)
    have E2 : Hid (Env w2 (clks ts) ms (some ⟨g, 0, none⟩) am) := Lib.hid ⟨sl2, sm2, HO.out.gr G2.out, hck, hls⟩
    have E0 : Hid (Env w2 (clks ts) [] (some ⟨g, 0, none⟩) none) := Lib.hid ⟨sl2, SlOf.nil _ _ _ _, HO.out.gr G2.out, hck, by simp, fun j hj => by simp at hj⟩
    obtain ⟨bf, of, rfl, rf0⟩ := sf2 0 (by rw [hsf.1, hcl]; omega)
    obtain ⟨bt, ot, rfl, rt0⟩ := st2 0 (by rw [hst.1, hcl]; omega)
    have SF := Lib.hid hsf
    have ST := Lib.hid hst
    have MF := Lib.hid sf2
    have MT := Lib.hid st2
    obtain ⟨cal1, cal2⟩ := hcal rfl
    have P1 : Hid (Calls Tryd.prog 15 #[.slice (some ⟨g, 0, none⟩) ts.length c, .slice (some ⟨bf, of, none⟩) ts.length cf, .slice (some ⟨bt, ot, none⟩) ts.length ct, .slice am ms.length cm] w2 (GivesPlanW w2 (clks ts) ms f t)) := Lib.hid (by
      have := planW_any (clks ts) ms f t (some ⟨g, 0, none⟩) am (some ⟨bf, of, none⟩) (some ⟨bt, ot, none⟩) c cm cf ct w2 E2.out hsf hst sf2 st2 cal1 cal2
      rwa [hsf.1, hst.1, hcl] at this)
    have P2 : Hid (∀ W, Gr w2 W → Calls Tryd.prog 15 #[.slice (some ⟨g, 0, none⟩) ts.length c, .slice (some ⟨bf, of, none⟩) ts.length cf, .slice (some ⟨bt, ot, none⟩) ts.length ct, .slice none 0 0] W (GivesPlanW W (clks ts) [] f t)) := Lib.hid (fun W hW => by
      have := planW_any (clks ts) [] f t (some ⟨g, 0, none⟩) none (some ⟨bf, of, none⟩) (some ⟨bt, ot, none⟩) c 0 cf ct W (E0.out.gr hW) hsf hst (sf2.giI hW) (st2.giI hW) (calS_free cal1) (calS_free cal2)
      rwa [hsf.1, hst.1, hcl] at this)
    have HCL := Lib.hid hcl
    have CK := Lib.hid hck
    clear rf0 rt0 ho hr hck hom hls hof hsf hot hst hcal hm2 sl2 sm2 sf2 st2 cal1 cal2
    go_wp2_with fail
    refine P1.out.mono ?_
    rintro e w3 ⟨hg3, hc3⟩
    have G3 := Lib.hid hg3
    clear hg3
    rcases hc3 with ⟨hp1, rfl⟩ | ⟨ps, ap, cp, hp1, rfl, hps, hpo⟩
    · clear hp1
      go_wp2_with fail
      refine (P2.out w3 G3.out).mono ?_
      rintro e w4 ⟨hg4, hc4⟩
      have G4 := Lib.hid (G2.out.trans (G3.out.trans hg4))
      clear hg4 P1 P2
      rcases hc4 with ⟨hp2, rfl⟩ | ⟨qs, aq, cq, hp2, rfl, hqs, hqo⟩
      · clear hp2
        go_wp2_with fail
        refine (awake_any w4 (HO.out.gr G4.out)).mono ?_
        rintro e w5 ⟨rfl, hg5⟩
        have G5 := Lib.hid (G4.out.trans hg5)
        clear hg5
        go_wp2_with fail
        go_ret
        exact ⟨rfl, G5.out⟩
      · clear hp2 hqs hqo
        go_wp2_with fail
        refine (awake_any w4 (HO.out.gr G4.out)).mono ?_
        rintro e w5 ⟨rfl, hg5⟩
        have G5 := Lib.hid (G4.out.trans hg5)
        clear hg5
        go_wp2_with fail
        go_ret
        exact ⟨rfl, G5.out⟩
    · have PO := Lib.hid hpo
      have PW := Lib.hid hps
      obtain ⟨d', hq1, hq2⟩ := planN_free SF.out ST.out hp1
      clear hp1 hps hpo
      go_wp2_with fail
      refine (P2.out w3 G3.out).mono ?_
      rintro e w4 ⟨hg4, hc4⟩
      have G4 := Lib.hid (G3.out.trans hg4)
      have PW4 := Lib.hid (PW.out.gr RWc.mono hg4)
      clear hg4 P1 P2 PW
      rcases hc4 with ⟨hp2, rfl⟩ | ⟨qs, aq, cq, hp2, rfl, hqs, hqo⟩
      · rw [hq1] at hp2; cases hp2
      · rw [hq1] at hp2
        cases hp2
        clear hq1 hqs hqo
        have hps4 := PO.out.len
        have RS : Hid (Calls Tryd.prog 19 #[.slice (some ⟨g, 0, none⟩) ts.length c, .slice (some ⟨bf, of, none⟩) ts.length cf, .slice ap ps.length cp] w4 (GivesPath w4 f ps)) := Lib.hid (by
          have := refSettings_any (clks ts) f ps (some ⟨g, 0, none⟩) (some ⟨bf, of, none⟩) ap c cf cp w4 (clks_gr E2.out.clks G4.out) (MF.out.giI G4.out) PW4.out CK.out SF.out PO.out.wr (by rw [HCL.out]; exact hge) (by omega)
          rwa [SF.out.1, HCL.out] at this)
        have lenB : decide ((ps.length : Int) < (qs.length : Int)) = false := decide_eq_false (by omega)
        have lenB2 : decide (ps.length < qs.length) = false := decide_eq_false (by omega)
        clear PW4 hq2
        go_wp2_with fail
        refine RS.out.mono ?_
        rintro e w5 hpath
        obtain ⟨ay, cy, rfl, hpa, hg5⟩ := hpath.at
        rw [SF.out.1, HCL.out] at hpa
        have G5 := Lib.hid (G4.out.trans hg5)
        have PA := Lib.hid hpa
        clear hpath hpa hg5 RS hcl
        obtain ⟨gy, _, _, rfl, py0⟩ := PA.out 0 (by rw [pathS_len]; omega)
        have FIN : Hid (∀ W, Gr w5 W → Calls Tryd.prog 17 #[] W (fun e w' => e = .returned (.bool true) ∧ Gr w w')) := Lib.hid (fun W hW => (awake_any W (HO.out.gr (G2.out.trans (G5.out.trans hW)))).mono (by rintro e w' ⟨rfl, hg⟩; exact ⟨rfl, (G2.out.trans (G5.out.trans hW)).trans hg⟩))
        obtain ⟨path, hpa', hpo'⟩ : ∃ path, PathAt w5 (some ⟨gy, 0, none⟩) ts.length path ∧ PathOk (clks ts) ps.length t path := ⟨_, PA.out, PO.out.path⟩
        clear py0 G2 G3 G4 PO PA
        have PA := Lib.hid hpa'
        have PK := Lib.hid hpo'
        have TW := Lib.hid (setOk_wide CK.out ST.out)
        have MT5 := Lib.hid (MT.out.giI G5.out)
        clear hpa' hpo' MF MT G5
        go_wp2_with fail
        go_loopw [92] (fun s wr => ∃ k : Nat, k ≤ ps.length + 1 ∧ s = .int .i64 (k : Int) ∧ Gr w5 wr) (fun s _ => ps.length + 1 - (intOf s).toNat)
        case atStart => exact ⟨0, Nat.zero_le _, rfl, Gr.refl _⟩
        case round =>
          obtain ⟨i, hi, rfl, hg⟩ := hrel
          have HG6 := Lib.hid hg
          clear hg
          by_cases hlt : i < ps.length + 1
          · have i2 : (i : Int) < (ps.length : Int) + 1 := by omega
            have hip : i < path.length := by have := PK.out.len; omega
            go_wp2_with fail
            go_loopw [16] (fun s wx => ∃ j : Nat, j ≤ i ∧ s = .int .i64 (j : Int) ∧ Gr w5 wx) (fun s _ => i - (intOf s).toNat)
            case atStart => exact ⟨0, Nat.zero_le _, rfl, HG6.out⟩
            case round =>
              obtain ⟨j, hj, rfl, hg⟩ := hrel
              have HG7 := Lib.hid hg
              clear hg
              by_cases hji : j < i
              · have j2 : (j : Int) < (i : Int) := by omega
                have j3 : (j : Int) < (ps.length : Int) + 1 := by omega
                obtain ⟨_, B1, c1, eg, q1, r1⟩ := PA.out.gr HG7.out i hip
                cases eg
                obtain ⟨_, B2, c2, eg, q2, r2⟩ := PA.out.gr HG7.out j (by omega)
                cases eg
                have s1 := r1.slI (setOk_wide CK.out (PK.out.ok i hip))
                have s2 := r2.slI (setOk_wide CK.out (PK.out.ok j (by omega)))
                have hne := PK.out.diff i j hip hji
                have l1 : path[i].length = ts.length := by rw [(PK.out.ok i hip).1, HCL.out]
                have l2 : (path[j]'(by omega)).length = ts.length := by rw [(PK.out.ok j (by omega)).1, HCL.out]
                have IA : Hid (∀ W, Gr wr W → Calls Tryd.prog 20 #[.slice (some ⟨B1, 0, none⟩) ts.length c1, .slice (some ⟨B2, 0, none⟩) ts.length c2] W (Grows W (.bool false))) := Lib.hid (fun W hW => by
                  have := ints_any path[i] (path[j]'(by omega)) (some ⟨B1, 0, none⟩) (some ⟨B2, 0, none⟩) c1 c2 W (s1.giI hW) (s2.giI hW) (by unfold Fit; omega) (by unfold Fit; omega)
                  rwa [l1, l2, decide_eq_false hne] at this)
                have hh := has_of_cell q1
                clear s1 s2 hne l1 l2 r1 r2
                go_wp2_with fail
                refine wp_region_grows (by kernel_rfl) (by kernel_rfl) ?_
                repeat (go_big_quiet_step (first | (go_at_call 20; exact calls_grows (IA.out _ ((Gr.refl _).xt _ _)))))
                refine wpQuiet_nil ?_
                rintro _ ⟨⟨O, d⟩, rfl⟩
                go_wp2_with fail
                go_roundw
                case rel => exact ⟨j + 1, by omega, by go_num, HG7.out.xt _ _⟩
                case measure => simp [intOf]; omega
              · have hji' : j = i := by omega
                subst hji'
                go_wp2_with fail
                obtain ⟨_, B1, c1, eg, q1, r1⟩ := PA.out.gr HG7.out j hip
                cases eg
                have xok := PK.out.ok j hip
                have xham := PK.out.ham j hip
                rw [HCL.out] at xham
                obtain ⟨x, hx⟩ : ∃ x, path[j] = x := ⟨_, rfl⟩
                rw [hx] at r1 xok xham
                have XOK := Lib.hid xok
                have XH := Lib.hid xham
                have Q1 := Lib.hid q1
                have R1 := Lib.hid r1
                have HG8 := Lib.hid HG7.out
                clear HG6 HG7 q1 r1 xok xham hx
                obtain ⟨wo, hwo⟩ : ∃ wo : World, wo = wr := ⟨_, rfl⟩
                rw [← hwo] at Q1 R1 HG8 ⊢
                clear hwo
                go_loopw [17, 111] (fun s17 s111 wr => ∃ m : Nat, m ≤ ts.length ∧ s111 = .int .i64 (m : Int) ∧ s17 = .int .i64 (ham m x t : Int) ∧ Gr wo wr) (fun _ s111 _ => ts.length - (intOf s111).toNat)
                case atStart => exact ⟨0, Nat.zero_le _, rfl, rfl, Gr.refl _⟩
                case round =>
                  obtain ⟨m, hm, rfl, rfl, hg⟩ := hrel
                  have HG9 := Lib.hid hg
                  clear hg
                  by_cases hml : m < ts.length
                  · have m2 : (m : Int) < ts.length := by omega
                    have mx : m < x.length := by rw [XOK.out.1, HCL.out]; exact hml
                    have mt : m < t.length := by rw [ST.out.1, HCL.out]; exact hml
                    have q1 := cell_gr HG9.out Q1.out
                    have x1 := (R1.out.gr HG9.out).iat m mx
                    obtain ⟨_, _, eg, ⟨t1, _⟩⟩ := (MT5.out.giI (HG8.out.trans HG9.out)).one m mt
                    cases eg
                    have h1 := has_of_cell q1
                    have h2 := has_of_cell x1
                    have h3 := has_of_cell t1
                    have hs := ham_succ m x t
                    rw [sOf_at mx, sOf_at mt] at hs
                    have hb := ham_mono x t m ts.length (by omega)
                    have hb2 := XH.out
                    by_cases he : x[m] = t[m]
                    · have heb : (x[m] != t[m]) = false := by simp [he]
                      rw [if_neg (by simpa using he)] at hs
                      have HS := Lib.hid hs
                      clear he hs hb hb2
                      go_wp2_with fail
                      go_quiet (fail)
                      go_wp2_with fail
                      go_roundw
                      case rel => exact ⟨m + 1, by omega, by go_num, by rw [HS.out]; simp, HG9.out.drewN _⟩
                      case measure => simp [intOf]; omega
                    · have heb : (x[m] != t[m]) = true := by simp [he]
                      rw [if_pos (by simpa using he)] at hs
                      have HS := Lib.hid hs
                      have hc : (ham m x t : Int) ≤ 4096 := by omega
                      clear he hs hb hb2
                      go_wp2_with fail
                      go_quiet (fail)
                      go_wp2_with fail
                      go_roundw
                      case rel => exact ⟨m + 1, by omega, by go_num, by rw [HS.out]; go_num, HG9.out.drewN _⟩
                      case measure => simp [intOf]; omega
                  · have hmm : m = ts.length := by omega
                    subst hmm
                    have hb2 := XH.out
                    have e1 : IntKind.i64.wrap (ps.length : Int) = (ps.length : Int) := by rw [IntKind.wrap_i64]; omega
                    have e2 : IntKind.i64.wrap ((ps.length : Int) - (j : Int)) = (ps.length : Int) - (j : Int) := by rw [IntKind.wrap_i64]; omega
                    have e3 : decide ((ps.length : Int) - (j : Int) < (ham ts.length x t : Int)) = false := decide_eq_false (by omega)
                    go_wp2_with fail
                    go_roundw
                    case rel => exact ⟨j + 1, by omega, by go_num, HG8.out.trans HG9.out⟩
                    case measure => simp [intOf]; omega
          · go_wp2_with fail
            refine (FIN.out wr HG6.out).mono ?_
            rintro e w6 ⟨rfl, hg6⟩
            go_wp2_with fail
            go_ret
            exact ⟨rfl, hg6⟩
end Go.Proofs.YtenehghpmnajpaaDoor
