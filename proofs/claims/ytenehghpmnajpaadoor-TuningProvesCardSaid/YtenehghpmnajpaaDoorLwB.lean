/- The walk of TuningProves. -/
import Derived.Test.YtenehghpmnajpaaDoorLwA
import Derived.Test.YtenehghpmnajpaaDoorPcD
import Derived.Test.YtenehghpmnajpaaDoorNwB
set_option linter.unusedVariables false
set_option linter.unusedSimpArgs false
namespace Go.Proofs.YtenehghpmnajpaaDoor
open Go.RowKit
open Classical

theorem refS_prg {l : List Clk} {ms : List Lmt} (hc : cchk l = 0) (hm : LsOk l ms) (hn : ∀ s, SetOk l s → meetS l ms s = false) : prgAns l ms (refS l ms) = true := by
  have hn' : NoExt l ms (startS l) := fun s hs _ => hn s hs
  have h2 := refB_pos l ms (opens (startS l)) (startS l) 0
  unfold prgAns
  rw [show prgChk l ms (refS l ms) = true from prgChk_refB hc hm hn' (by omega), Bool.and_true, decide_eq_true_iff]
  intro e
  unfold refS at e
  rw [e] at h2
  simp at h2
theorem LsOk.set {l : List Clk} {ms : List Lmt} (h : LsOk l ms) {k : Nat} (hk : k < ms.length) {y : Int} (h0 : ms[k].low ≤ y) (h1 : y ≤ 4000000000) : LsOk l (ms.set k ⟨ms[k].clock, ms[k].low, y⟩) := by
  refine ⟨by rw [List.length_set]; exact h.1, fun j hj => ?_⟩
  rw [List.length_set] at hj
  rw [List.getElem_set]
  split
  · obtain ⟨q0, q1, q2, _, _⟩ := h.2 k hk
    exact ⟨q0, q1, q2, h0, h1⟩
  · exact h.2 j hj
set_option maxRecDepth 100000 in
set_option maxHeartbeats 4000000 in
theorem proves_walk (a : Option Addr) (len cap : Nat) (zs : List Int) (w : World) (h : RowIn w a len cap zs) (hoff : OffV w) :
    Calls Tryd.prog 9 #[.slice a len cap] w (Grows w (.bool true)) := by
  have H := Lib.hid h
  have HO := Lib.hid hoff
  clear h hoff
  go_enter Tryd.func9, Tryd.ntmps9
  go_wp2_with fail
  refine (newTape_any w a len cap zs H.out).mono ?_
  rintro e w1 ⟨b, n, rfl, T, hg, hb, _⟩
  have HT : Hid (Tp w1 b n) := Lib.hid ⟨_, T⟩
  have HB := Lib.hid T.has
  have HG := Lib.hid hg
  have LB := Lib.hid hb
  clear T hg hb
  go_wp2_with fail
  refine (clocks_any w1 b n 9 512 HT.out (by omega) (by omega) (by omega) (by omega)).mono ?_
  rintro e w2 ⟨ts, v, rfl, ho, hr, hck, hge, hle, hpr, hm2⟩
  obtain ⟨g, c, rfl, hnc, hbg, _⟩ := owns_cell ho (by omega)
  have T2 := Lib.hid (hm2.tp HT.out)
  have LM := Lib.hid (limits_any w2 b n w1.heap.size 4 c (some ⟨g, 0, none⟩) ts (hm2.tp HT.out) HB.out ho hr hck hge (by omega) (by omega))
  have O2 := Lib.hid ho
  have R2 := Lib.hid hr
  have CK := Lib.hid hck
  have G2 : Hid (Gr w w2) := Lib.hid (Mv.gr_low HG.out LB.out hm2)
  have HCL : Hid ((clks ts).length = ts.length) := Lib.hid (clks_len ts)
  have zr : Hid (b < w2.heap.size) := Lib.hid (hm2.tp HT.out).has
  clear ho hr hck hpr hm2 hbg hnc
  go_wp2_with fail
  refine LM.out.mono ?_
  rintro e w3 ⟨ms, vm, rfl, hom, hml, hlm, hm3⟩
  have LS : Hid (LsOk (clks ts) ms) := Lib.hid ⟨by omega, hlm⟩
  obtain ⟨am, cm, rfl, _⟩ := lmts_of_owns hom (by rw [HCL.out]; omega) LS.out
  have OM := Lib.hid hom
  have M3 := Lib.hid hm3
  have T3 := Lib.hid (hm3.tp T2.out)
  have ml4 : ms.length ≤ 4 := hml
  clear hom hml hlm hm3 LM
  go_upto_region 4 with (fail)
  go_cut [25] (fun s25 wx => ∃ cc : Bool, s25 = .bool cc ∧ (cc = true → 0 < ms.length) ∧ Mv b n w3 wx)
  case first =>
    go_wp2_with fail
    refine (nM_any w3 b n 2 T3.out (by omega) (by omega)).mono ?_
    rintro e w4 ⟨x, rfl, ⟨x0, x1⟩, hm4⟩
    have M4 := Lib.hid hm4
    clear hm4
    by_cases hx0 : x = 0
    · subst hx0
      by_cases hl0 : 0 < ms.length
      · have q2 : decide (0 < ms.length) = true := by simpa using hl0
        go_wp2_with fail
        go_meet
        exact ⟨true, rfl, fun _ => hl0, M4.out⟩
      · have q2 : decide (0 < ms.length) = false := by simpa using hl0
        go_wp2_with fail
        go_meet
        exact ⟨false, rfl, (fun q => by cases q), M4.out⟩
    · have bx : (x == 0) = false := by simp [hx0]
      clear hx0
      go_wp2_with fail
      go_meet
      exact ⟨false, rfl, (fun q => by cases q), M4.out⟩
  case rest =>
  obtain ⟨cc, rfl, hcc, hm4⟩ := hcut
  have M4 := Lib.hid (M3.out.trans zr.out hm4)
  have OM4 := Lib.hid (hm4.owns OM.out zr.out)
  have T4 := Lib.hid (hm4.tp T3.out)
  clear hm4 OM T3 M3
  go_upto_if 25 with (fail)
  go_cut [] (fun wx => ∃ ms' : List Lmt, ms'.length = ms.length ∧ LsOk (clks ts) ms' ∧ wx.ownsRow w2.heap.size 53 3 (.slice am ms.length cm) ms.length (ms'.flatMap encM) ∧ Mv b n w2 wx)
  case first =>
    cases cc with
    | false =>
      go_wp2_with fail
      go_meet
      exact ⟨ms, rfl, LS.out, OM4.out, M4.out⟩
    | true =>
      have hl0 := hcc rfl
      go_wp2_with fail
      refine (nM_any _ b n ms.length T4.out (by omega) (by omega)).mono ?_
      rintro e w5 ⟨k, rfl, ⟨k0, k1⟩, hm5⟩
      obtain ⟨k, rfl⟩ := Int.eq_ofNat_of_zero_le k0
      have hk : k < ms.length := by omega
      have M5 := Lib.hid (M4.out.trans zr.out hm5)
      have OM5 := hm5.owns OM4.out zr.out
      have T5 := Lib.hid (hm5.tp T4.out)
      obtain ⟨gm, cm', ea, _, hgm, _⟩ := owns_cell OM5 (by omega)
      cases ea
      obtain ⟨_, _, u0, u1, u2⟩ := LS.out.2 k hk
      have OM5' := Lib.hid OM5
      have k2 : (k : Int) < ms.length := by omega
      have hb2 : Hid (b < w2.heap.size) := Lib.hid (T2.out.has)
      clear hm5 OM5 hgm M4 OM4 T4
      go_wp2_with fail
      refine wp_code_eq (c := Code.region 6 (regIn 6 Tryd.f9) true) (by kernel_rfl) (nw6 (wb := w2) (wr := w5) (base := w2.heap.size) (n := n) (lo := ms[k].low) (hi := ms[k].high) (b := b) (ms := ms) (gm := gm) (cm := cm) (k := k) (hk := hk) T2.out hb2.out hb2.out (Nat.le_refl _) M5.out OM5'.out rfl rfl u0 u1 u2 k2 ?_)
      intro t30 t31 t32 t33 t34 t35 t36 t37 t38 t39 t40 t41 t42 t43 t44 t45 t46 t47 t48 w6 y y0 y1 hm6 ho6
      have M6 := Lib.hid hm6
      have OM6 := Lib.hid ho6
      have Y := Lib.hid (show ms[k].low ≤ y ∧ y ≤ 4000000000 by omega)
      clear hm6 ho6
      simp only [nw6A]
      go_wp2_with fail
      go_meet
      exact ⟨_, by simp, LS.out.set hk Y.out.1 Y.out.2, OM6.out, M6.out⟩
  case rest =>
    obtain ⟨ms', hlen, hls, hom, hmv⟩ := hcut
    rw [← hlen] at hom
    obtain ⟨am', cm', ea, sm⟩ := lmts_of_owns hom (by rw [HCL.out]; omega) hls
    cases ea
    rw [← hlen]
    have LS' := Lib.hid hls
    have GX : Hid (Gr w wc) := Lib.hid (Mv.gr_low G2.out LB.out hmv)
    have hox := hmv.owns O2.out HB.out
    have hrx : ChRows w1.heap.size wc ts := fun t ht => (R2.out t ht).mv hmv HB.out
    obtain ⟨_, _, eqx, _, slx⟩ := clks_at hox hrx (by omega)
    cases eqx
    have EX : Hid (Env wc (clks ts) ms' (some ⟨g, 0, none⟩) am) := Lib.hid ⟨slx, sm, HO.out.gr GX.out, CK.out, LS'.out⟩
    have h1l : Hid (1 ≤ (clks ts).length) := Lib.hid (by rw [HCL.out]; exact hge)
    clear hls hom hmv hox hrx slx sm hlen
    have SV := Lib.hid (fun W (hW : Gr wc W) => (solve_any (clks ts) ms' (some ⟨g, 0, none⟩) am c cm W (EX.out.gr hW) h1l.out).mono fun e w' h => solve_out h)
    have RV := Lib.hid (fun W (hW : Gr wc W) => refute_any (clks ts) ms' (some ⟨g, 0, none⟩) am c cm W (EX.out.gr hW) h1l.out)
    have MV := Lib.hid (fun W (hW : Gr wc W) s aS cs (hs : SetOk (clks ts) s) (hr : SlOf 1 RI W aS s) => meets_any (clks ts) ms' s (some ⟨g, 0, none⟩) aS am c cs cm W (clks_gr EX.out.clks hW) hr (lmts_gr EX.out.lmts hW) CK.out hs LS'.out)
    have PV := Lib.hid (fun W (hW : Gr wc W) (q : List Brn) aq cq (hq : q.length ≤ 100000) (hr : SlOf 3 RBrn W aq q) => pChk_any (clks ts) ms' q (some ⟨g, 0, none⟩) am aq c cm cq W (EX.out.gr hW) h1l.out hr hq)
    have QV := Lib.hid (fun W (hW : Gr wc W) (q : List Brn) aq cq (hq : q.length ≤ 100000) (hr : SlOf 3 RBrn W aq q) => refChk_any (clks ts) ms' q (some ⟨g, 0, none⟩) am aq c cm cq W (EX.out.gr hW) h1l.out hr hq)
    rw [HCL.out] at SV RV MV PV QV
    go_wp2_with fail
    refine (SV.out wc (Gr.refl _)).mono ?_
    rintro e w4 ⟨hg4, av, en, rfl, hso⟩
    have SO := Lib.hid hso
    have G4 := Lib.hid hg4
    clear hso hg4 SV
    go_wp2_with fail
    refine (RV.out w4 G4.out).mono ?_
    rintro e w5 ⟨hg5, hrf⟩
    have G5 := Lib.hid (G4.out.trans hg5)
    have SO5 := Lib.hid (SO.out.gr hg5)
    have RF := Lib.hid hrf
    clear hg5 SO RV hrf
    rcases SO5.out with ⟨rfl, s, B2, c2, hls, rfl, hrs⟩ | ⟨rfl, rfl, hno⟩
    · rcases RF.out with ⟨_, rfl⟩ | ⟨hno, _⟩
      · have hms := hls.2.1
        have sl : s.length = ts.length := by rw [hls.1.1, HCL.out]
        have MT := Lib.hid (MV.out w5 G5.out s (some ⟨B2, 0, none⟩) c2 hls.1 (hrs.slI (setOk_wide CK.out hls.1)))
        rw [hms, hls.1.1] at MT
        have PN := Lib.hid (fun W (hW : Gr wc W) => PV.out W hW [] none 0 (by simp) (SlOf.nil _ _ _ _))
        have pn : prgAns (clks ts) ms' [] = false := by unfold prgAns; simp
        rw [pn] at PN
        clear hls hrs hms
        go_wp2_with fail
        refine MT.out.mono ?_
        rintro e w6 ⟨rfl, hg6⟩
        have G6 := Lib.hid (G5.out.trans hg6)
        clear hg6 MT
        go_wp2_with fail
        refine (PN.out w6 G6.out).mono ?_
        rintro e w7 ⟨rfl, hg7⟩
        have G7 := Lib.hid (G6.out.trans hg7)
        clear hg7 PN
        go_wp2_with fail
        refine (awake17_any w7 (HO.out.gr (GX.out.trans G7.out))).mono ?_
        rintro e w8 ⟨rfl, hg8⟩
        have G8 := Lib.hid ((GX.out.trans G7.out).trans hg8)
        clear hg8
        go_wp2_with fail
        go_ret
        exact ⟨rfl, G8.out⟩
      · have := hno s hls.1
        rw [hls.2.1] at this; cases this
    · rcases RF.out with ⟨⟨s, hs, hms⟩, _⟩ | ⟨_, A, cp, xs, rfl, hbr, hxs⟩
      · have := hno s hs
        rw [hms] at this; cases this
      · obtain ⟨rw1, rw2, rw3⟩ := refS_w CK.out LS'.out hno
        have SB := brns_at hbr (by rw [hxs]; exact rw1)
        have xl : xs.length = (refS (clks ts) ms').length := by rw [← hxs, List.length_map]
        rw [hxs] at SB
        have QR := Lib.hid (fun W (hW : Gr w5 W) => QV.out W (G5.out.trans hW) (refS (clks ts) ms') A cp (by omega) (SB.gr RBrn.mono hW))
        have PR := Lib.hid (fun W (hW : Gr w5 W) => PV.out W (G5.out.trans hW) (refS (clks ts) ms') A cp (by omega) (SB.gr RBrn.mono hW))
        rw [refS_ref CK.out LS'.out hno, ← xl] at QR
        rw [refS_prg CK.out LS'.out hno, ← xl] at PR
        clear hbr hxs SB rw1 rw2 rw3 xl hno
        go_wp2_with fail
        refine (QR.out w5 (Gr.refl _)).mono ?_
        rintro e w6 ⟨rfl, hg6⟩
        have G6 := Lib.hid hg6
        clear hg6 QR
        go_wp2_with fail
        refine (PR.out w6 G6.out).mono ?_
        rintro e w7 ⟨rfl, hg7⟩
        have G7 := Lib.hid (G6.out.trans hg7)
        clear hg7 PR
        go_wp2_with fail
        refine (awake17_any w7 (HO.out.gr ((GX.out.trans G5.out).trans G7.out))).mono ?_
        rintro e w8 ⟨rfl, hg8⟩
        have G8 := Lib.hid (((GX.out.trans G5.out).trans G7.out).trans hg8)
        clear hg8
        go_wp2_with fail
        go_ret
        exact ⟨rfl, G8.out⟩
end Go.Proofs.YtenehghpmnajpaaDoor
