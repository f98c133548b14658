/- The walk of RetuneTriangle. -/
import Derived.Test.YtenehghpmnajpaaDoorTrA
import Derived.Test.YtenehghpmnajpaaDoorCoA
set_option linter.unusedVariables false
set_option linter.unusedSimpArgs false
namespace Go.Proofs.YtenehghpmnajpaaDoor
open Go.RowKit
open Classical

set_option maxRecDepth 100000 in
set_option maxHeartbeats 1000000 in
theorem triangle_walk (a : Option Addr) (len cap : Nat) (zs : List Int) (w : World) (h : RowIn w a len cap zs) (hoff : OffV w) :
    Calls Tryd.prog 5 #[.slice a len cap] w (Grows w (.bool true)) := by
  have H := Lib.hid h
  have HO := Lib.hid hoff
  clear h hoff
  go_enter Tryd.func5, Tryd.ntmps5
  go_wp2_with fail
  refine (newTape_any w a len cap zs H.out).mono ?_
  rintro e w1 ⟨b, n, rfl, T, hg, hb, _⟩
  have HT : Hid (Tp w1 b n) := Lib.hid ⟨_, T⟩
  have HB := Lib.hid T.has
  have HG := Lib.hid hg
  have LB := Lib.hid hb
  clear T hg hb
  go_wp2_with fail
  refine (calmOnes_any w1 b n 128 HT.out (by omega) (by omega)).mono ?_
  rintro e w2 ⟨ts, ms, f, t, g, c, vm, af, at', cf, ct, ok, rfl, ho, hr, hck, hge, hle, hom, hls, hof, hsf, hot, hst, hcal, hm2⟩
  have hcl : (clks ts).length = ts.length := clks_len ts
  obtain ⟨am, cm, rfl, _⟩ := lmts_of_owns hom (by rw [hcl]; omega) hls
  have G2 : Hid (Gr w w2) := Lib.hid (Mv.gr_low HG.out LB.out hm2)
  cases ok with
  | false =>
    clear ho hr hck hom hls hof hsf hot hst hcal hm2 hcl
    go_wp2_with fail
    refine (awake_any w2 (HO.out.gr G2.out)).mono ?_
    rintro e w3 ⟨rfl, hg3⟩
    have G3 := Lib.hid (G2.out.trans hg3)
    clear hg3
    go_wp2_with fail
    go_ret
    exact ⟨rfl, G3.out⟩
  | true =>
    have O2 := Lib.hid ho
    have R2 := Lib.hid hr
    have CK := Lib.hid hck
    have OM2 := Lib.hid hom
    have LS := Lib.hid hls
    have OF2 := Lib.hid hof
    have SF := Lib.hid hsf
    have OT2 := Lib.hid hot
    have STt := Lib.hid hst
    have CAL := Lib.hid (hcal rfl)
    have HCL := Lib.hid hcl
    have HC1 := Lib.hid (allOk_cho (cchk_zero hck).2.1)
    have SA := setting_any w2 b n w1.heap.size c (some ⟨g, 0, none⟩) ts (hm2.tp HT.out) HB.out ho hr (by omega) HC1.out
    have SA' := Lib.hid SA
    have zr : Hid (b < w2.heap.size) := Lib.hid (by have := (hm2.tp HT.out).has; exact this)
    clear ho hr hck hom hls hof hsf hot hst hcal hm2 hcl SA
    go_wp2_with fail
    refine SA'.out.mono ?_
    rintro e w3 ⟨x, vx, rfl, hox, hsx, hm3⟩
    have G3 : Hid (Gr w w3) := Lib.hid (Mv.gr_low G2.out LB.out hm3)
    have SX := Lib.hid hsx
    obtain ⟨ax, cx, rfl, sx3⟩ := owns_slI hox (setOk_wide CK.out hsx)
    have ho3 := hm3.owns O2.out HB.out
    have hr3 : ChRows w1.heap.size w3 ts := fun t ht => (R2.out t ht).mv hm3 HB.out
    obtain ⟨_, _, eq3, _, sl3⟩ := clks_at ho3 hr3 (by omega)
    cases eq3
    obtain ⟨_, _, eq4, sm3⟩ := lmts_of_owns (hm3.owns OM2.out HB.out) (by rw [HCL.out]; omega) LS.out
    cases eq4
    have E3 : Hid (Env w3 (clks ts) ms (some ⟨g, 0, none⟩) am) := Lib.hid ⟨sl3, sm3, HO.out.gr G3.out, CK.out, LS.out⟩
    have sf3 := Lib.hid ((hm3.own1 OF2.out HB.out).slI (setOk_wide CK.out SF.out))
    have st3 := Lib.hid ((hm3.own1 OT2.out HB.out).slI (setOk_wide CK.out STt.out))
    have SX3 := Lib.hid sx3
    have PL : ∀ (y z : List Int) (ay az : Option Addr) (cy cz : Nat) (W : World), SetOk (clks ts) y → SetOk (clks ts) z → Gr w3 W → SlOf 1 RI w3 ay y → SlOf 1 RI w3 az z →
        Calls Tryd.prog 15 #[.slice (some ⟨g, 0, none⟩) ts.length c, .slice ay ts.length cy, .slice az ts.length cz, .slice am ms.length cm] W fun e w' => Gr W w' ∧
          ∃ (a : Option Addr) (n c : Nat) (en : Int), e = .returned (.tuple #[.slice a n c, .int .i64 en]) ∧ 0 ≤ en ∧ en ≤ 9 ∧ n ≤ 4096 ∧ (planN (clks ts) ms y z = none → en ≠ 0) ∧ ∀ d, planN (clks ts) ms y z = some d → en = 0 ∧ (n : Int) = d := fun y z ay az cy cz W hy hz hW sy sz => by
      have := planN_any (clks ts) ms y z (some ⟨g, 0, none⟩) am ay az c cm cy cz W (E3.out.gr hW) hy hz (sy.giI hW) (sz.giI hW)
      rwa [hy.1, hz.1, HCL.out] at this
    have PL' := Lib.hid PL
    clear PL hox hsx hm3 sx3 ho3 hr3 sl3 sm3 SA' O2 R2 OM2 OF2 OT2
    rw [HCL.out]
    go_wp2_with fail
    refine (PL'.out f x af ax cf cx w3 SF.out SX.out (Gr.refl _) sf3.out SX3.out).mono ?_
    rintro e w4 ⟨hg4, a1, n1, c1, e1, rfl, e10, e11, n1m, hn1, hs1⟩
    have G4 := Lib.hid hg4
    have HN1 := Lib.hid hn1
    have HS1 := Lib.hid hs1
    clear hg4 hn1 hs1
    go_wp2_with fail
    refine (PL'.out x t ax at' cx ct w4 SX.out STt.out G4.out SX3.out st3.out).mono ?_
    rintro e w5 ⟨hg5, a2, n2, c2, e2, rfl, e20, e21, n2m, hn2, hs2⟩
    have G5 := Lib.hid (G4.out.trans hg5)
    have HN2 := Lib.hid hn2
    have HS2 := Lib.hid hs2
    clear hg5 hn2 hs2
    go_wp2_with fail
    refine (PL'.out f t af at' cf ct w5 SF.out STt.out G5.out sf3.out st3.out).mono ?_
    rintro e w6 ⟨hg6, a3, n3, c3, e3, rfl, e30, e31, n3m, hn3, hs3⟩
    have G6 := Lib.hid (G5.out.trans hg6)
    have HN3 := Lib.hid hn3
    have HS3 := Lib.hid hs3
    clear hg6 hn3 hs3
    go_wp2_with fail
    refine (PL'.out f f af af cf cf w6 SF.out SF.out G6.out sf3.out sf3.out).mono ?_
    rintro e w7 ⟨hg7, a4, n4, c4, e4, rfl, e40, e41, n4m, hn4, hs4⟩
    have G7 := Lib.hid (G6.out.trans hg7)
    obtain ⟨rfl, hz4⟩ := hs4 0 (planN_self SF.out CAL.out.1)
    have hz4' : n4 = 0 := by omega
    subst hz4'
    have TRI : Hid (e1 = 0 → e2 = 0 → e3 = 0 ∧ n3 ≤ n1 + n2) := Lib.hid (fun h1 h2 => by
      cases p1 : planN (clks ts) ms f x with
      | none => exact absurd h1 (HN1.out p1)
      | some d1 =>
        cases p2 : planN (clks ts) ms x t with
        | none => exact absurd h2 (HN2.out p2)
        | some d2 =>
          obtain ⟨d3, p3, hle3⟩ := planN_tri SX.out STt.out p1 p2
          have q1 := (HS1.out d1 p1).2
          have q2 := (HS2.out d2 p2).2
          obtain ⟨q3, q4⟩ := HS3.out d3 p3
          exact ⟨q3, by omega⟩)
    have CP := Lib.hid (fun W (hW : Gr w3 W) => proCalm_any (clks ts) ms x (some ⟨g, 0, none⟩) ax am c cx cm W (E3.out.gr hW) (SX3.out.giI hW) SX.out)
    have CR := Lib.hid (fun W (hW : Gr w3 W) => refCalm_any (clks ts) ms x (some ⟨g, 0, none⟩) ax am c cx cm W (clks_gr E3.out.clks hW) (SX3.out.giI hW) (lmts_gr E3.out.lmts hW) CK.out SX.out LS.out)
    rw [SX.out.1, HCL.out] at CP CR
    clear hg7 hn4 hs4 hz4 PL' HN1 HN2 HN3 HS1 HS2 HS3
    obtain ⟨cc, ecc⟩ : ∃ cc, calS (clks ts) ms x = cc := ⟨_, rfl⟩
    rw [ecc] at CP CR
    clear ecc
    have HG3 := G3
    by_cases z1 : e1 = 0
    · by_cases z2 : e2 = 0
      · obtain ⟨z3, zn⟩ := TRI.out z1 z2
        subst z1
        subst z2
        subst z3
        have dn : decide ((n1 : Int) + n2 < n3) = false := decide_eq_false (by omega)
        go_wp2_with fail
        refine (CP.out w7 G7.out).mono ?_
        rintro e w8 ⟨rfl, hg8⟩
        have G8 := Lib.hid (G7.out.trans hg8)
        clear hg8
        go_wp2_with fail
        refine (CR.out w8 G8.out).mono ?_
        rintro e w9 ⟨rfl, hg9⟩
        have G9 := Lib.hid (G8.out.trans hg9)
        clear hg9
        have qq : (Value.bool cc == Value.bool cc) = true := by simp
        go_wp2_with fail
        refine (awake_any w9 (HO.out.gr (G3.out.trans G9.out))).mono ?_
        rintro e w10 ⟨rfl, hg10⟩
        go_wp2_with fail
        go_ret
        exact ⟨rfl, (G3.out.trans G9.out).trans hg10⟩
      · have b2 : ((e2 : Int) == 0) = false := by simpa using z2
        subst z1
        clear TRI
        go_wp2_with fail
        refine (CP.out w7 G7.out).mono ?_
        rintro e w8 ⟨rfl, hg8⟩
        have G8 := Lib.hid (G7.out.trans hg8)
        clear hg8
        go_wp2_with fail
        refine (CR.out w8 G8.out).mono ?_
        rintro e w9 ⟨rfl, hg9⟩
        have G9 := Lib.hid (G8.out.trans hg9)
        clear hg9
        have qq : (Value.bool cc == Value.bool cc) = true := by simp
        go_wp2_with fail
        refine (awake_any w9 (HO.out.gr (G3.out.trans G9.out))).mono ?_
        rintro e w10 ⟨rfl, hg10⟩
        go_wp2_with fail
        go_ret
        exact ⟨rfl, (G3.out.trans G9.out).trans hg10⟩
    · have b1 : ((e1 : Int) == 0) = false := by simpa using z1
      clear TRI
      go_wp2_with fail
      refine (CP.out w7 G7.out).mono ?_
      rintro e w8 ⟨rfl, hg8⟩
      have G8 := Lib.hid (G7.out.trans hg8)
      clear hg8
      go_wp2_with fail
      refine (CR.out w8 G8.out).mono ?_
      rintro e w9 ⟨rfl, hg9⟩
      have G9 := Lib.hid (G8.out.trans hg9)
      clear hg9
      have qq : (Value.bool cc == Value.bool cc) = true := by simp
      go_wp2_with fail
      refine (awake_any w9 (HO.out.gr (G3.out.trans G9.out))).mono ?_
      rintro e w10 ⟨rfl, hg10⟩
      go_wp2_with fail
      go_ret
      exact ⟨rfl, (G3.out.trans G9.out).trans hg10⟩
end Go.Proofs.YtenehghpmnajpaaDoor
