/- The walk of RetuneSafe. -/
import Derived.Test.YtenehghpmnajpaaDoorSaA
import Derived.Test.YtenehghpmnajpaaDoorSaB
set_option linter.unusedVariables false
set_option linter.unusedSimpArgs false
namespace Go.Proofs.YtenehghpmnajpaaDoor
open Go.RowKit
open Classical

/-- What the loops ask of a path. -/
structure PathSafe (l : List Clk) (ms : List Lmt) (ps : List (Int × Int)) (t : List Int) (path : List (List Int)) : Prop where
  len : path.length = ps.length + 1
  ok : ∀ i (hi : i < path.length), SetOk l path[i]
  diff : ∀ i k (hi : i < path.length) (hk : k < i), path[i] ≠ path[k]
  calm : ∀ i (hi : i < path.length), calS l ms path[i] = true
  last : ∀ hi : ps.length < path.length, path[ps.length] = t
  step : ∀ i (hi : i < ps.length) (h1 : i + 1 < path.length) (h2 : i < path.length), path[i + 1] = putS path[i] ps[i]
  wr : ∀ p ∈ ps, WrOk l p
theorem PlanOk.safe {l : List Clk} {ms : List Lmt} {f t : List Int} {ps : List (Int × Int)} (h : PlanOk l ms f t ps) : PathSafe l ms ps t (pathS f ps) := ⟨pathS_len f ps, h.ok, h.diff, h.calm, fun _ => h.last, fun i hi _ _ => pathS_step ps f i hi, h.wr⟩
set_option maxRecDepth 100000 in
set_option maxHeartbeats 8000000 in
theorem safe_walk (a : Option Addr) (len cap : Nat) (zs : List Int) (w : World) (h : RowIn w a len cap zs) (hoff : OffV w) :
    Calls Tryd.prog 6 #[.slice a len cap] w (Grows w (.bool true)) := by
  have H := Lib.hid h
  have HO := Lib.hid hoff
  clear h hoff
  go_enter Tryd.func6, Tryd.ntmps6
  go_wp2_with fail
  refine (newTape_any w a len cap zs H.out).mono ?_
  rintro e w1 ⟨b, n, rfl, T, hg, hb, _⟩
  have HT : Hid (Tp w1 b n) := Lib.hid ⟨_, T⟩
  have HB := Lib.hid T.has
  have HG := Lib.hid hg
  have LB := Lib.hid hb
  clear T hg hb
  go_wp2_with fail
  refine (calmOnes_any w1 b n 400 HT.out (by omega) (by omega)).mono ?_
  rintro e w2 ⟨ts, ms, f, t, g, c, vm, af, at', cf, ct, ok, rfl, ho, hr, hck, hge, hle, hom, hls, hof, hsf, hot, hst, hcal, hm2⟩
  have hcl : (clks ts).length = ts.length := clks_len ts
  obtain ⟨am, cm, rfl, sm2⟩ := lmts_of_owns hom (by rw [hcl]; omega) hls
  have G2 : Hid (Gr w w2) := Lib.hid (Mv.gr_low HG.out LB.out hm2)
  cases ok with
  | false =>
    clear ho hr hck hom hls hof hsf hot hst hcal hm2 hcl sm2
    go_wp2_with fail
    refine (awake_any w2 (HO.out.gr G2.out)).mono ?_
    rintro e w3 ⟨rfl, hg3⟩
    have G3 := Lib.hid (G2.out.trans hg3)
    clear hg3
    go_wp2_with fail
    go_ret
    exact ⟨rfl, G3.out⟩
  | true =>
    obtain ⟨_, _, eq3, _, sl2⟩ := clks_at ho hr (by omega)
    cases eq3
    have sf2 := hof.slI (setOk_wide hck hsf)
    have st2 := hot.slI (setOk_wide hck hst)
    have E2 : Hid (Env w2 (clks ts) ms (some ⟨g, 0, none⟩) am) := Lib.hid ⟨sl2, sm2, HO.out.gr G2.out, hck, hls⟩
    obtain ⟨bf, of, rfl, rf0⟩ := sf2 0 (by rw [hsf.1, hcl]; omega)
    obtain ⟨bt, ot, rfl, rt0⟩ := st2 0 (by rw [hst.1, hcl]; omega)
    have SF := Lib.hid hsf
    have ST := Lib.hid hst
    have MF := Lib.hid sf2
    have MT := Lib.hid st2
    obtain ⟨cal1, cal2⟩ := hcal rfl
    have P1 : Hid (Calls Tryd.prog 15 #[.slice (some ⟨g, 0, none⟩) ts.length c, .slice (some ⟨bf, of, none⟩) ts.length cf, .slice (some ⟨bt, ot, none⟩) ts.length ct, .slice am ms.length cm] w2 (GivesPlanW w2 (clks ts) ms f t)) := Lib.hid (by
      have := planW_any (clks ts) ms f t (some ⟨g, 0, none⟩) am (some ⟨bf, of, none⟩) (some ⟨bt, ot, none⟩) c cm cf ct w2 E2.out hsf hst sf2 st2 cal1 cal2
      rwa [hsf.1, hst.1, hcl] at this)
    have P2 : Hid (∀ W, Gr w2 W → Calls Tryd.prog 15 #[.slice (some ⟨g, 0, none⟩) ts.length c, .slice (some ⟨bt, ot, none⟩) ts.length ct, .slice (some ⟨bf, of, none⟩) ts.length cf, .slice am ms.length cm] W (GivesPlanW W (clks ts) ms t f)) := Lib.hid (fun W hW => by
      have := planW_any (clks ts) ms t f (some ⟨g, 0, none⟩) am (some ⟨bt, ot, none⟩) (some ⟨bf, of, none⟩) c cm ct cf W (E2.out.gr hW) hst hsf (st2.giI hW) (sf2.giI hW) cal2 cal1
      rwa [hsf.1, hst.1, hcl] at this)
    have HCL := Lib.hid hcl
    have CK := Lib.hid hck
    have LS := Lib.hid hls
    clear rf0 rt0 ho hr hck hom hls hof hsf hot hst hcal hm2 sl2 sm2 sf2 st2 cal1 cal2
    go_wp2_with fail
    refine P1.out.mono ?_
    rintro e w3 ⟨hg3, hc3⟩
    have G3 := Lib.hid hg3
    clear hg3
    rcases hc3 with ⟨hp1, rfl⟩ | ⟨ps, ap, cp, hp1, rfl, hps, hpo⟩
    · go_wp2_with fail
      refine (P2.out w3 G3.out).mono ?_
      rintro e w4 ⟨hg4, hc4⟩
      have G4 := Lib.hid (G2.out.trans (G3.out.trans hg4))
      clear hg4 P1 P2
      rcases hc4 with ⟨hp2, rfl⟩ | ⟨qs, aq, cq, hp2, rfl, hqs, hqo⟩
      · clear hp2 hp1
        go_wp2_with fail
        refine (awake_any w4 (HO.out.gr G4.out)).mono ?_
        rintro e w5 ⟨rfl, hg5⟩
        have G5 := Lib.hid (G4.out.trans hg5)
        clear hg5
        go_wp2_with fail
        go_ret
        exact ⟨rfl, G5.out⟩
      · have := planN_sym ST.out SF.out hp2
        rw [this] at hp1
        cases hp1
    · have PO := Lib.hid hpo
      have PW := Lib.hid hps
      have hq1 := planN_sym SF.out ST.out hp1
      clear hp1 hps hpo
      go_wp2_with fail
      refine (P2.out w3 G3.out).mono ?_
      rintro e w4 ⟨hg4, hc4⟩
      have G4 := Lib.hid (G3.out.trans hg4)
      have PW4 := Lib.hid (PW.out.gr RWc.mono hg4)
      clear hg4 P1 P2 PW
      rcases hc4 with ⟨hp2, rfl⟩ | ⟨qs, aq, cq, hp2, rfl, hqs, hqo⟩
      · rw [hq1] at hp2; cases hp2
      · rw [hq1] at hp2
        have hql : qs.length = ps.length := by injection hp2 with hp2; omega
        rw [hql]
        clear hq1 hp2 hqs hqo hql
        have hps4 := PO.out.len
        have RS : Hid (∀ W, Gr w4 W → Calls Tryd.prog 19 #[.slice (some ⟨g, 0, none⟩) ts.length c, .slice (some ⟨bf, of, none⟩) ts.length cf, .slice ap ps.length cp] W (GivesPath W f ps)) := Lib.hid (fun W hW => by
          have := refSettings_any (clks ts) f ps (some ⟨g, 0, none⟩) (some ⟨bf, of, none⟩) ap c cf cp W (clks_gr E2.out.clks (G4.out.trans hW)) (MF.out.giI (G4.out.trans hW)) (PW4.out.gr RWc.mono hW) CK.out SF.out PO.out.wr (by rw [HCL.out]; exact hge) (by omega)
          rwa [SF.out.1, HCL.out] at this)
        have QS : Hid (∀ W, Gr w4 W → Calls Tryd.prog 23 #[.slice (some ⟨g, 0, none⟩) ts.length c, .slice (some ⟨bf, of, none⟩) ts.length cf, .slice ap ps.length cp] W (GivesPath W f ps)) := Lib.hid (fun W hW => by
          have := proSettings_any (clks ts) f ps (some ⟨g, 0, none⟩) (some ⟨bf, of, none⟩) ap c cf cp W (clks_gr E2.out.clks (G4.out.trans hW)) (MF.out.giI (G4.out.trans hW)) (PW4.out.gr RWc.mono hW) CK.out SF.out PO.out.wr (by rw [HCL.out]; exact hge) (by omega)
          rwa [SF.out.1, HCL.out] at this)
        have lenB : ((ps.length : Int) != (ps.length : Int)) = false := by simp
        clear hcl
        go_wp2_with fail
        refine (RS.out w4 (Gr.refl _)).mono ?_
        rintro e w5 hpath
        obtain ⟨ay, cy, rfl, hpa, hg5⟩ := hpath.at
        rw [SF.out.1, HCL.out] at hpa
        have G5 := Lib.hid hg5
        have PA5 := Lib.hid hpa
        clear hpath hpa hg5 RS
        go_wp2_with fail
        refine (QS.out w5 G5.out).mono ?_
        rintro e w6 hpath
        obtain ⟨az, cz, rfl, hpz, hg6⟩ := hpath.at
        rw [SF.out.1, HCL.out] at hpz
        have hpy := PA5.out.gr hg6
        obtain ⟨path, hpa', hpz', hpo'⟩ : ∃ path, PathAt w6 ay ts.length path ∧ PathAt w6 az ts.length path ∧ PathSafe (clks ts) ms ps t path := ⟨_, hpy, hpz, PO.out.safe⟩
        have G6 := Lib.hid (G4.out.trans (G5.out.trans hg6))
        have PW6 := Lib.hid (PW4.out.gr RWc.mono (G5.out.trans hg6))
        have PA := Lib.hid hpa'
        have PK := Lib.hid hpo'
        have hpl := hpo'.len
        have e1 : IntKind.i64.wrap (ps.length : Int) = (ps.length : Int) := by rw [IntKind.wrap_i64]; omega
        have SS : Hid (∀ W, Gr w6 W → Calls Tryd.prog 24 #[.slice ay (ps.length + 1) cy, .slice az (ps.length + 1) cz] W (Grows W (.bool true))) := Lib.hid (fun W hW => by
          have := sameSettings_any path ts.length ay az cy cz W (hpa'.gr hW) (hpz'.gr hW) (by omega) (fun i hi => ⟨by rw [(hpo'.ok i hi).1, HCL.out], setOk_wide CK.out (hpo'.ok i hi)⟩) (by omega)
          rwa [hpl] at this)
        obtain ⟨gy, B0, c0, rfl, q0, r0⟩ := hpa' ps.length (by omega)
        have rL := r0.slI (setOk_wide CK.out (hpo'.ok ps.length (by omega)))
        have hlast := hpo'.last (by omega)
        have stL : SlOf 1 RI w6 (some ⟨bt, ot, none⟩) t := MT.out.giI G6.out
        have lt : t.length = ts.length := by rw [ST.out.1, HCL.out]
        have IL : Hid (∀ W, Gr w6 W → Calls Tryd.prog 20 #[.slice (some ⟨B0, 0, none⟩) ts.length c0, .slice (some ⟨bt, ot, none⟩) ts.length ct] W (Grows W (.bool true))) := Lib.hid (fun W hW => by
          have := ints_any (path[ps.length]'(by omega)) t (some ⟨B0, 0, none⟩) (some ⟨bt, ot, none⟩) c0 ct W (rL.giI hW) (stL.giI hW) (by rw [hlast]; unfold Fit; omega) (by unfold Fit; omega)
          rw [hlast, decide_eq_true rfl] at this
          rwa [lt] at this)
        have Q0 := Lib.hid q0
        clear hpa' hpz' hpo' hpl hpy hpz hg6 q0 r0 rL hlast stL lt QS G3 G4 PO PW4 PA5 G5
        go_wp2_with fail
        refine (SS.out w6 (Gr.refl _)).mono ?_
        rintro e w7 ⟨rfl, hg7⟩
        have q7 := cell_gr hg7 Q0.out
        have h7 := has_of_cell q7
        have G7 := Lib.hid hg7
        clear hg7 SS
        go_wp2_with fail
        refine (IL.out w7 G7.out).mono ?_
        rintro e w8 ⟨rfl, hg8⟩
        have G8 := Lib.hid (G7.out.trans hg8)
        clear hg8 q7 h7 IL Q0 G7 e1
        have PA8 := Lib.hid (PA.out.gr G8.out)
        have PW8 := Lib.hid (PW6.out.gr RWc.mono G8.out)
        have E8 := Lib.hid (E2.out.gr (G6.out.trans G8.out))
        have MT8 := Lib.hid (MT.out.giI (G6.out.trans G8.out))
        have FIN : Hid (∀ W, Gr w8 W → Calls Tryd.prog 17 #[] W (fun e w' => e = .returned (.bool true) ∧ Gr w w')) := Lib.hid (fun W hW => (awake_any W (HO.out.gr (G2.out.trans (G6.out.trans (G8.out.trans hW))))).mono (by rintro e w' ⟨rfl, hg⟩; exact ⟨rfl, (G2.out.trans (G6.out.trans (G8.out.trans hW))).trans hg⟩))
        clear PA PW6 E2 MT MF G2 G6 G8 HG HT HB LB HO H
        go_wp2_with fail
        go_loopw [112] (fun s wr => ∃ k : Nat, k ≤ ps.length + 1 ∧ s = .int .i64 (k : Int) ∧ Gr w8 wr) (fun s _ => ps.length + 1 - (intOf s).toNat)
        case atStart => exact ⟨0, Nat.zero_le _, rfl, Gr.refl _⟩
        case round =>
          obtain ⟨i, hi, rfl, hg⟩ := hrel
          have HG9 := Lib.hid hg
          clear hg
          by_cases hlt : i < ps.length + 1
          · have i2 : (i : Int) < (ps.length : Int) + 1 := by omega
            have hip : i < path.length := by have := PK.out.len; omega
            obtain ⟨_, B1, c1, eg, q1, r1⟩ := PA8.out.gr HG9.out i hip
            cases eg
            have xok := PK.out.ok i hip
            have xcal := PK.out.calm i hip
            have xdif := PK.out.diff i
            have s1 := r1.slI (setOk_wide CK.out xok)
            have STS : Hid (Calls Tryd.prog 25 #[.slice (some ⟨g, 0, none⟩) ts.length c, .slice (some ⟨B1, 0, none⟩) ts.length c1] wr (GivesStates wr (clks ts) path[i])) := Lib.hid (by
              have := states_any (clks ts) path[i] (some ⟨g, 0, none⟩) (some ⟨B1, 0, none⟩) c c1 wr (clks_gr E8.out.clks HG9.out) s1 CK.out xok
              rwa [xok.1, HCL.out] at this)
            have PRV : Hid (∀ j, j + 1 = i → ∃ B2 c2, wr.cell? ⟨gy, j, none⟩ = some (.slice (some ⟨B2, 0, none⟩) ts.length c2) ∧ ∀ W, Gr wr W → Calls Tryd.prog 20 #[.slice (some ⟨B2, 0, none⟩) ts.length c2, .slice (some ⟨B1, 0, none⟩) ts.length c1] W (Grows W (.bool false))) := Lib.hid (fun j hj => by
              obtain ⟨_, B2, c2, eg, q2, r2⟩ := PA8.out.gr HG9.out j (by omega)
              cases eg
              have s2 := r2.slI (setOk_wide CK.out (PK.out.ok j (by omega)))
              refine ⟨B2, c2, q2, fun W hW => ?_⟩
              have l1 : path[i].length = ts.length := by rw [xok.1, HCL.out]
              have l2 : (path[j]'(by omega)).length = ts.length := by rw [(PK.out.ok j (by omega)).1, HCL.out]
              have := ints_any (path[j]'(by omega)) path[i] (some ⟨B2, 0, none⟩) (some ⟨B1, 0, none⟩) c2 c1 W (s2.giI hW) (s1.giI hW) (by unfold Fit; omega) (by unfold Fit; omega)
              rwa [l1, l2, decide_eq_false (fun e => xdif j hip (by omega) e.symm)] at this)
            have HRL : Hid ((rts (clks ts) path[i]).length = ts.length) := Lib.hid (by rw [rts_len _ _ xok.1.symm, HCL.out])
            have RG := Lib.hid (rts_good CK.out xok)
            have CM : Hid (CalmR (rts (clks ts) path[i]) (clks ts) ms) := Lib.hid (of_decide_eq_true xcal)
            obtain ⟨R, eR⟩ : ∃ R, rts (clks ts) path[i] = R := ⟨_, rfl⟩
            unfold GivesStates at STS
            rw [eR] at STS HRL RG CM
            have hh := has_of_cell q1
            have Q1 := Lib.hid q1
            clear r1 s1 xok xcal xdif eR
            go_wp2_with fail
            refine STS.out.mono ?_
            rintro e w9 ⟨v1, v2, rfl, ho1, ho2, hg9⟩
            rw [HCL.out] at ho1 ho2
            obtain ⟨a1, c1', rfl, hra⟩ := rates_of_owns HRL.out ho1
            obtain ⟨a2, c2', rfl, hon⟩ := ons_of_owns HRL.out ho2
            have RA := Lib.hid hra
            have OA := Lib.hid hon
            have G10 := Lib.hid hg9
            clear ho1 ho2 hra hon hg9 STS q1 hh
            go_wp2_with fail
            obtain ⟨wo, hwo⟩ : ∃ wo : World, wo = wr := ⟨_, rfl⟩
            rw [← hwo] at HG9 G10 PRV Q1
            clear hwo
            go_loopw [125] (fun s wr => ∃ k : Nat, k ≤ ms.length ∧ s = .int .i64 (k : Int) ∧ Gr w9 wr) (fun s _ => ms.length - (intOf s).toNat)
            case atStart => exact ⟨0, Nat.zero_le _, rfl, Gr.refl _⟩
            case round =>
              obtain ⟨k, hk, rfl, hg⟩ := hrel
              have HG11 := Lib.hid hg
              clear hg
              have G12 : Hid (Gr w8 wr) := Lib.hid (HG9.out.trans (G10.out.trans HG11.out))
              by_cases hkl : k < ms.length
              · have hml := E8.out.lims.1
                obtain ⟨bm, om, eam, ⟨d0, _⟩, ⟨d1, _⟩, ⟨d2, _⟩⟩ := lmts_gr E8.out.lmts G12.out k hkl
                subst eam
                obtain ⟨u0, u1, _⟩ := LS.out.2 k hkl
                obtain ⟨q, hq⟩ : ∃ q : Nat, ms[k].clock = q := ⟨_, (Int.toNat_of_nonneg u0).symm⟩
                have eq : ms[k].clock.toNat = q := by omega
                have hql : q < R.length := by have := HRL.out; have := HCL.out; omega
                obtain ⟨g1, rfl, r0, r1⟩ := (RA.out.gr HG11.out) q hql
                obtain ⟨g2, rfl, r2⟩ := (OA.out.gr HG11.out) q hql
                have e := rtAt_eq hql
                have hgd := RG.out q hql
                rw [← e] at hgd
                have okk := CM.out.2 k hkl
                rw [eq] at okk
                obtain ⟨r, hrr⟩ : ∃ r, rtAt R q = r := ⟨_, rfl⟩
                rw [hrr] at r0 r1 r2 hgd okk
                have gh1 := has_of_cell r0
                have gh2 := has_of_cell r2
                have q2 : (q : Int) < ts.length := by have := HCL.out; omega
                have k2 : (k : Int) < ms.length := by omega
                rw [hq] at d0
                clear hrr e eq u0 u1 hq
                cases r with
                | none => simp [okIn] at okk
                | some nd =>
                  obtain ⟨rn, rd⟩ := nd
                  obtain ⟨hv, hn1⟩ := hgd rn rd rfl
                  obtain ⟨v1, v2, v3, v4, v5⟩ := valid_parts hv
                  simp only [numR, denR, Option.isSome_some] at r0 r1 r2
                  simp only [okIn] at okk
                  have wq := refWithin_any rn rd 0 ms[k].high
                  rw [okk] at wq
                  clear hv v5 hgd okk
                  go_wp2_with fail
                  refine wp_region_grows (by kernel_rfl) (by kernel_rfl) ?_
                  repeat (go_big_quiet_step (first | (go_at_call 26; exact calls_grows (wq _ (by omega) (by omega) (by omega) (by omega)))))
                  refine wpQuiet_nil ?_
                  rintro _ ⟨⟨O, d⟩, rfl⟩
                  go_wp2_with fail
                  go_roundw
                  case rel => exact ⟨k + 1, by omega, by go_num, (HG11.out.alloc _).xt _ _⟩
                  case measure => simp [intOf]; omega
              · have OW : Hid (Calls Tryd.prog 27 #[.slice (some ⟨g, 0, none⟩) ts.length c, .slice a1 ts.length c1', .slice a2 ts.length c2'] wr (Grows wr (.bool true))) := Lib.hid (by
                  have := refOwn_any (clks ts) R (some ⟨g, 0, none⟩) a1 a2 c c1' c2' wr (clks_gr E8.out.clks G12.out) (by have := HCL.out; omega) RG.out (by rw [HRL.out, HCL.out]) (RA.out.gr HG11.out) (OA.out.gr HG11.out)
                  rwa [HCL.out, decide_eq_true (show OwnR R (clks ts) from CM.out.1)] at this)
                have G13 : Hid (Gr wo wr) := Lib.hid (G10.out.trans HG11.out)
                clear RA OA CM RG HRL HG11 G10
                cases i with
                | zero =>
                  clear PRV
                  go_wp2_with fail
                  refine OW.out.mono ?_
                  rintro e w10 ⟨rfl, hg10⟩
                  go_wp2_with fail
                  go_roundw
                  case rel => exact ⟨1, by omega, by go_num, G12.out.trans hg10⟩
                  case measure => simp [intOf]
                | succ j =>
                  obtain ⟨B2, c2, qj, hI⟩ := PRV.out j rfl
                  have HI := Lib.hid hI
                  have QJ := Lib.hid qj
                  have j1 : decide ((0 : Int) < (j : Int) + 1) = true := decide_eq_true (by omega)
                  have j2 : (j : Int) < (ps.length : Int) + 1 := by omega
                  have j3 : IntKind.i64.wrap (j : Int) = (j : Int) := by rw [IntKind.wrap_i64]; omega
                  clear PRV hI qj
                  go_wp2_with fail
                  refine OW.out.mono ?_
                  rintro e w10 ⟨rfl, hg10⟩
                  have qj := cell_gr (G13.out.trans hg10) QJ.out
                  have hj := has_of_cell qj
                  have G14 := Lib.hid hg10
                  clear hg10
                  go_wp2_with fail
                  refine (HI.out w10 (G13.out.trans G14.out)).mono ?_
                  rintro e w11 ⟨rfl, hg11⟩
                  go_wp2_with fail
                  go_roundw
                  case rel => exact ⟨j + 2, by omega, by go_num, (G12.out.trans G14.out).trans hg11⟩
                  case measure => simp [intOf]; omega
          · have hiN : i = ps.length + 1 := by omega
            subst hiN
            have e2 : IntKind.i64.wrap ((ps.length : Int) - 1) = (ps.length : Int) - 1 := by rw [IntKind.wrap_i64]; omega
            go_wp2_with fail
            obtain ⟨wo, hwo⟩ : ∃ wo : World, wo = wr := ⟨_, rfl⟩
            rw [← hwo] at HG9 ⊢
            clear hwo e2
            have LST := Lib.hid (PK.out.last (by have := PK.out.len; omega))
            go_loopw [23, 24] (fun s23 s24 wr => ∃ (k : Nat) (aA : Option Addr) (cA : Nat), k ≤ ps.length ∧ s24 = .int .i64 ((k : Int) - 1) ∧ s23 = .slice aA ts.length cA ∧ (∀ hk : k < path.length, SlOf 1 RI wr aA path[k]) ∧ Gr w8 wr) (fun _ s24 _ => (intOf s24 + 1).toNat)
            case atStart => exact ⟨ps.length, _, _, Nat.le_refl _, rfl, rfl, fun hk => by rw [PK.out.last hk]; exact MT8.out.giI HG9.out, HG9.out⟩
            case round =>
              obtain ⟨k, aA, cA, hk, rfl, rfl, hsA, hg⟩ := hrel
              have HG11 := Lib.hid hg
              have hk' : k < path.length := by have := PK.out.len; omega
              have SA := Lib.hid (hsA hk')
              clear hg hsA
              cases k with
              | zero =>
                have e0 : (((0 : Nat) : Int) - 1) = -1 := by omega
                rw [e0]
                go_wp2_with fail
                refine (FIN.out wr HG11.out).mono ?_
                rintro e w10 ⟨rfl, hg10⟩
                go_wp2_with fail
                go_ret
                exact ⟨rfl, hg10⟩
              | succ i =>
                rw [show (((i + 1 : Nat) : Int) - 1) = (i : Int) by omega]
                have hi : i < ps.length := by omega
                have hip : i < path.length := by omega
                obtain ⟨u, v, epk, hu, hv⟩ := PK.out.wr _ (List.getElem_mem hi)
                obtain ⟨bp, op, eap, ⟨p0, _⟩, ⟨p1, _⟩, ⟨p2, _⟩⟩ := PW8.out.gr RWc.mono HG11.out i hi
                subst eap
                obtain ⟨_, B1, c1, eg, q1, r1⟩ := PA8.out.gr HG11.out i hip
                cases eg
                rw [epk] at p1
                have xok := PK.out.ok i hip
                have stp := PK.out.step i hi hk' hip
                rw [epk] at stp
                have yok := PK.out.ok (i + 1) hk'
                have ul : u < path[i].length := by rw [xok.1]; exact hu
                have x0 := xok.at hu
                obtain ⟨v0, hv0⟩ : ∃ v0 : Nat, sOf path[i] u = (v0 : Int) := ⟨_, (Int.toNat_of_nonneg x0.1).symm⟩
                have hx := r1.iat u ul
                rw [← sOf_at ul, hv0] at hx
                rw [hv0] at x0
                have un : u < ts.length := by rw [← HCL.out]; exact hu
                have back : (path[i + 1]).set u (v0 : Int) = path[i] := by
                  rw [stp]
                  unfold putS
                  simp only [Int.toNat_natCast]
                  rw [List.set_set, ← hv0, sOf_at ul]; simp
                have s1 := r1.slI (setOk_wide CK.out xok)
                have l1 : path[i].length = ts.length := by rw [xok.1, HCL.out]
                obtain ⟨x, hxe⟩ : ∃ x, path[i] = x := ⟨_, rfl⟩
                obtain ⟨y, hye⟩ : ∃ y, path[i + 1] = y := ⟨_, rfl⟩
                rw [hye] at yok SA back
                rw [hxe] at back xok s1 l1
                have hk4 := hps4
                have IX : Hid (∀ B2 c2 W, Gr wr W → RowS W B2 3 (nums x) → Calls Tryd.prog 20 #[.slice (some ⟨B2, 0, none⟩) ts.length c2, .slice (some ⟨B1, 0, none⟩) ts.length c1] W (Grows W (.bool true))) := Lib.hid (fun B2 c2 W hW hr => by
                  have := ints_any x x (some ⟨B2, 0, none⟩) (some ⟨B1, 0, none⟩) c2 c1 W (hr.slI (setOk_wide CK.out xok)) (s1.giI hW) (by unfold Fit; omega) (by unfold Fit; omega)
                  rwa [l1, decide_eq_true rfl] at this)
                have XK := Lib.hid xok
                have BK := Lib.hid back
                have YK := Lib.hid yok
                have Q1 := Lib.hid q1
                have PX := Lib.hid hxe
                have i3 : (i : Int) < (ps.length : Int) + 1 := by omega
                clear r1 p0 p2 epk stp s1 l1 xok back yok hxe hye
                go_wp2_with fail
                refine wp_code_eq (c := Code.region 32 (regIn 32 Tryd.f6) true) (by kernel_rfl) (s32 (wr := wr) (l := clks ts) (y := y) (u := u) (v := v0) (i := i) (NN := ps.length) (nn := ts.length) (al := some ⟨g, 0, none⟩) (aA := aA) (cl := c) (cA := cA) (cx := c1) (cp := cp) (cy := cy) (bp := bp) (op := op) (gy := gy) (B := B1) (clks_gr E8.out.clks HG11.out) CK.out YK.out SA.out HCL.out p1 q1 hx hu x0.2 hi (by omega) un ?_)
                intro t174 t175 t176 t177 t178 t179 t180 t181 t182 t183 t184 t185 t186 t187 t188 t189 t190 t191 t192 t193 t194 t195 t196 B2 c2 W6 hg6 hr2 hb2
                simp only [s32A]
                rw [BK.out] at hr2
                have q6 := cell_gr hg6 Q1.out
                have h6 := has_of_cell q6
                have G6 := Lib.hid hg6
                have R6 := Lib.hid hr2
                clear hg6 hr2 hb2 p1 q1 hx x0 hv0
                go_wp2_with fail
                refine (IX.out B2 c2 W6 G6.out R6.out).mono ?_
                rintro e w11 ⟨rfl, hg11⟩
                have e5 : IntKind.i64.wrap ((i : Int) - 1) = (i : Int) - 1 := by rw [IntKind.wrap_i64]; omega
                go_wp2_with fail
                refine ⟨?_, ?measure⟩
                repeat apply Exists.intro
                refine ⟨?rel, rfl⟩
                case rel => exact ⟨i, _, _, by omega, rfl, rfl, fun _ => by rw [PX.out]; exact (R6.out.gr hg11).slI (setOk_wide CK.out XK.out), (HG11.out.trans G6.out).trans hg11⟩
                case measure => simp [intOf]
end Go.Proofs.YtenehghpmnajpaaDoor
