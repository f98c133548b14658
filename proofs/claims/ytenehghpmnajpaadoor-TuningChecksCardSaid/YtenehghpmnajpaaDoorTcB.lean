/- The walk of TuningChecks. -/
import Derived.Test.YtenehghpmnajpaaDoorTcA
set_option linter.unusedVariables false
set_option linter.unusedSimpArgs false
namespace Go.Proofs.YtenehghpmnajpaaDoor
open Go.RowKit
open Classical

set_option maxRecDepth 100000 in
set_option maxHeartbeats 8000000 in
theorem checks_walk (a : Option Addr) (len cap : Nat) (zs : List Int) (w : World) (h : RowIn w a len cap zs) (hoff : OffV w) :
    Calls Tryd.prog 10 #[.slice a len cap] w (Grows w (.bool true)) := by
  have H := Lib.hid h
  have HO := Lib.hid hoff
  obtain ⟨j0, hj, hy0, hy1, hy2⟩ := info_parts infoLmt
  obtain ⟨k0, hk, kz0, kz1, kz2⟩ := info_parts infoBrn
  clear h hoff
  go_enter Tryd.func10, Tryd.ntmps10
  go_wp2_with fail
  refine (newTape_any w a len cap zs H.out).mono ?_
  rintro e w1 ⟨b, n, rfl, T, hg, hb, _⟩
  have HT : Hid (Tp w1 b n) := Lib.hid ⟨_, T⟩
  have HB := Lib.hid T.has
  have HG := Lib.hid hg
  have LB := Lib.hid hb
  clear T hg hb
  go_wp2_with fail
  refine (clocks_any w1 b n 7 128 HT.out (by omega) (by omega) (by omega) (by omega)).mono ?_
  rintro e w2 ⟨ts, v, rfl, ho, hr, hck, hge, hle, hpr, hm2⟩
  obtain ⟨g, c, rfl, hnc, hbg, _⟩ := owns_cell ho (by omega)
  have T2 := Lib.hid (hm2.tp HT.out)
  have LM := Lib.hid (limits_any w2 b n w1.heap.size 3 c (some ⟨g, 0, none⟩) ts (hm2.tp HT.out) HB.out ho hr hck hge (by omega) (by omega))
  have O2 := Lib.hid ho
  have R2 := Lib.hid hr
  have CK := Lib.hid hck
  have G2 : Hid (Gr w w2) := Lib.hid (Mv.gr_low HG.out LB.out hm2)
  have HCL : Hid ((clks ts).length = ts.length) := Lib.hid (clks_len ts)
  have HC1 := Lib.hid (allOk_cho (cchk_zero hck).2.1)
  have h1l : Hid (1 ≤ (clks ts).length) := Lib.hid (by rw [HCL.out]; exact hge)
  have zr : Hid (b < w2.heap.size) := Lib.hid (hm2.tp HT.out).has
  clear ho hr hck hpr hm2 hbg hnc
  go_wp2_with fail
  refine LM.out.mono ?_
  rintro e w3 ⟨msA, vA, rfl, hoA, hlA, hkA, hm3⟩
  obtain ⟨aA, cA, rfl⟩ := owns_slice hoA
  have M3 := Lib.hid hm3
  have T3 := Lib.hid (hm3.tp T2.out)
  have KA := Lib.hid hkA
  have LM3 := Lib.hid (limits_any w3 b n w1.heap.size 3 c (some ⟨g, 0, none⟩) ts T3.out HB.out (hm3.owns O2.out HB.out) (fun t ht => (R2.out t ht).mv hm3 HB.out) CK.out hge (by omega) (by omega))
  have OA := Lib.hid hoA
  clear hoA hkA hm3 LM
  go_wp2_with fail
  refine LM3.out.mono ?_
  rintro e w4 ⟨msB, vB, rfl, hoB, hlB, hkB, hm4⟩
  obtain ⟨aB, cB, rfl⟩ := owns_slice hoB
  have M4 := Lib.hid (M3.out.trans zr.out hm4)
  have OA4 := Lib.hid (hm4.owns OA.out zr.out)
  have GTB := Lib.hid (gets_lims rfl hoB)
  have KB := Lib.hid hkB
  have base4 : Hid (w2.heap.size ≤ w4.heap.size) := Lib.hid M4.out.size
  clear hoB hkB hm4 LM3 OA M3 T3
  go_wp2_with (first
    | (at_builtin; refine wpList_append_gets _ rfl _ _ 39 rfl w2.heap.size 53 j0 (.agg #[.int .i64 0, .int .i64 0, .int .i64 0]) 3 24 Tryd.underlying39 hj hy0 hy1 hy2 rfl (by decide) (.slice aA msA.length cA) msA.length (msA.flatMap encM) rfl OA4.out aB msB.length cB (msB.flatMap encM) rfl GTB.out (encMs_one msB) (by unfold maxLen; omega) (by omega) base4.out ?_; intro v' W5 hown hgrow _; obtain ⟨am, cm, rfl⟩ := owns_slice hown; have O5 := Lib.hid hown; have M5 := Lib.hid (M4.out.grown hgrow (fun k e => (OA4.out.lt k e).1)); clear hown hgrow)
    | fail)
  obtain ⟨ms, hms⟩ : ∃ ms, msA ++ msB = ms := ⟨_, rfl⟩
  have mle : ms.length ≤ 6 := by rw [← hms, List.length_append]; omega
  have LS : Hid (LsOk (clks ts) ms) := Lib.hid (LsOk.of_mem (by omega) (fun x hx => by
    rw [← hms] at hx
    rcases List.mem_append.1 hx with q | q
    · obtain ⟨j, hj, rfl⟩ := List.mem_iff_getElem.1 q
      exact KA.out j hj
    · obtain ⟨j, hj, rfl⟩ := List.mem_iff_getElem.1 q
      exact KB.out j hj))
  have elen : msA.length + msB.length = ms.length := by rw [← hms, List.length_append]
  have O5' : Hid (W5.ownsRow w2.heap.size 53 3 (.slice am ms.length cm) ms.length (ms.flatMap encM)) := Lib.hid (by
    have := O5.out
    rw [← List.flatMap_append, hms, elen] at this
    exact this)
  rw [elen]
  have OS : Hid (OSt b n w w1 w2 ts g c ms am cm W5) := Lib.hid ⟨M5.out.owns O2.out HB.out, fun t ht => (R2.out t ht).mv M5.out HB.out, O5'.out, M5.out.tp T2.out, Mv.gr_low G2.out LB.out M5.out⟩
  clear elen O5 O5' M4 OA4 GTB base4 M5 hms KA KB O2 R2 T2 HT
  have zh : Hid (w.heap.size ≤ b) := Lib.hid LB.out
  have E1 : Hid (∀ W, OSt b n w w1 w2 ts g c ms am cm W → Env W (clks ts) ms (some ⟨g, 0, none⟩) am) := Lib.hid (fun W hW => ⟨hW.clks hge, hW.lm (by omega) LS.out, HO.out.gr hW.gw, CK.out, LS.out⟩)
  have LS0 : Hid (LsOk (clks ts) []) := Lib.hid ⟨by simp, fun j hj => by simp at hj⟩
  have E0 : Hid (∀ W, OSt b n w w1 w2 ts g c ms am cm W → Env W (clks ts) [] (some ⟨g, 0, none⟩) none) := Lib.hid (fun W hW => ⟨hW.clks hge, SlOf.nil _ _ _ _, HO.out.gr hW.gw, CK.out, LS0.out⟩)
  have RV := Lib.hid (refute_any (clks ts) ms (some ⟨g, 0, none⟩) am c cm W5 (E1.out W5 OS.out) h1l.out)
  have PV := Lib.hid (fun W (hW : OSt b n w w1 w2 ts g c ms am cm W) (q : List Brn) aq cq (hq : q.length ≤ 100000) (hr : SlOf 3 RBrn W aq q) => pChk_any (clks ts) ms q (some ⟨g, 0, none⟩) am aq c cm cq W (E1.out W hW) h1l.out hr hq)
  have QV := Lib.hid (fun W (hW : OSt b n w w1 w2 ts g c ms am cm W) (q : List Brn) aq cq (hq : q.length ≤ 100000) (hr : SlOf 3 RBrn W aq q) => refChk_any (clks ts) ms q (some ⟨g, 0, none⟩) am aq c cm cq W (E1.out W hW) h1l.out hr hq)
  have NV := Lib.hid (fun W (hW : OSt b n w w1 w2 ts g c ms am cm W) (q : List Brn) aq cq (hq : q.length ≤ 100000) (hr : SlOf 3 RBrn W aq q) => pChk_any (clks ts) [] q (some ⟨g, 0, none⟩) none aq c 0 cq W (E0.out W hW) h1l.out hr hq)
  have UV := Lib.hid (fun W (hW : OSt b n w w1 w2 ts g c ms am cm W) => refutable_any (clks ts) [] (some ⟨g, 0, none⟩) none c 0 W (E0.out W hW) h1l.out)
  rw [HCL.out] at RV PV QV NV UV
  simp only [List.length_nil] at NV UV
  go_wp2_with fail
  refine RV.out.mono ?_
  rintro e w6 ⟨hg6, hrf⟩
  have OS6 := Lib.hid (OS.out.gr hg6)
  have T5h := Lib.hid OS.out.tp.has
  clear RV
  rcases hrf with ⟨_, rfl⟩ | ⟨hno, A, cp, xs, rfl, hbr, hxs⟩
  · clear hg6
    go_wp2_with fail
    refine (awake17_any w6 (HO.out.gr OS6.out.gw)).mono ?_
    rintro e w7 ⟨rfl, hg7⟩
    have G7 := Lib.hid (OS6.out.gw.trans hg7)
    clear hg7
    go_wp2_with fail
    go_ret
    exact ⟨rfl, G7.out⟩
  · obtain ⟨rw1, rw2, rw3⟩ := refS_w CK.out LS.out hno
    have PA := refS_prg2 CK.out LS.out hno
    obtain ⟨bs, hbs⟩ : ∃ bs, refS (clks ts) ms = bs := ⟨_, rfl⟩
    rw [hbs] at rw1 rw2 rw3 PA hxs
    have xl : xs.length = bs.length := by rw [← hxs, List.length_map]
    have BA := Lib.hid hbr
    have SZ6 := Lib.hid hg6.size
    have XL := Lib.hid xl
    have RW : Hid (∀ x ∈ xs.map (·.1), BrnW x) := Lib.hid (by rw [hxs]; exact rw1)
    have N8 : Hid (∀ x ∈ bs, x.next.length ≤ 900) := Lib.hid (fun x hx => by have := (rw1 x hx).2.2.1; omega)
    have PA' := Lib.hid PA
    have HXS := Lib.hid hxs
    have SB : Hid (∀ W, BrnsAt W5.heap.size W (.slice A xs.length cp) xs → SlOf 3 RBrn W A bs) := Lib.hid (fun W hW => by rw [← HXS.out]; exact brns_at hW RW.out)
    rw [xl]
    clear hg6 hbr hno hxs rw1 xl PA hbs
    go_upto_region 7 with (fail)
    go_cut [48] (fun s48 wx => s48 = .bool false ∧ Gr w6 wx)
    case first =>
      have PB := PV.out w6 OS6.out bs A cp (by omega) (SB.out w6 BA.out)
      rw [PA'.out] at PB
      have PBH := Lib.hid PB
      clear PB
      go_wp2_with fail
      refine PBH.out.mono ?_
      rintro e w7 ⟨rfl, hg7⟩
      have G7 := Lib.hid hg7
      have OS7 := Lib.hid (OS6.out.gr hg7)
      have NB := NV.out w7 OS7.out bs A cp (by omega) (SB.out w7 (BA.out.gr2 hg7))
      clear hg7 PBH
      cases hcc : prgAns (clks ts) [] bs with
      | false =>
        rw [hcc] at NB
        have NBH := Lib.hid NB
        clear NB hcc
        go_wp2_with fail
        refine NBH.out.mono ?_
        rintro e w8 ⟨rfl, hg8⟩
        have G8 := Lib.hid (G7.out.trans hg8)
        clear hg8
        go_wp2_with fail
        go_meet
        exact ⟨rfl, G8.out⟩
      | true =>
        rw [hcc] at NB
        have NBH := Lib.hid NB
        have hz : cntS (clks ts) [] = 0 := cntK_none (ans_none CK.out LS0.out hcc) HC1.out (Nat.le_refl _)
        have UV2 := UV.out
        simp only [hz, if_true] at UV2
        have UH := Lib.hid UV2
        clear NB hcc hz UV2
        go_wp2_with fail
        refine NBH.out.mono ?_
        rintro e w8 ⟨rfl, hg8⟩
        have G8 := Lib.hid (G7.out.trans hg8)
        have OS8 := Lib.hid (OS7.out.gr hg8)
        clear hg8
        go_wp2_with fail
        refine (UH.out w8 OS8.out).mono ?_
        rintro e w9 ⟨rfl, hg9⟩
        have G9 := Lib.hid (G8.out.trans hg9)
        clear hg9
        go_wp2_with fail
        go_meet
        exact ⟨rfl, G9.out⟩
    case rest =>
    obtain ⟨rfl, hgc⟩ := hcut
    have OSc := Lib.hid (OS6.out.gr hgc)
    have BAc := Lib.hid (BA.out.gr2 hgc)
    have SZc : Hid (W5.heap.size ≤ wc.heap.size) := Lib.hid (Nat.le_trans SZ6.out hgc.size)
    clear hgc OS6 BA NV UV
    go_wp2_with fail
    go_loopw [8] (fun s8 wr => ∃ i : Nat, s8 = .int .i64 (i : Int) ∧ i ≤ 3 ∧ OSt b n w w1 w2 ts g c ms am cm wr ∧ BrnsAt W5.heap.size wr (.slice A xs.length cp) xs ∧ W5.heap.size ≤ wr.heap.size) (fun s8 _ => 3 - (intOf s8).toNat)
    case atStart => exact ⟨0, rfl, by omega, OSc.out, BAc.out, SZc.out⟩
    case round =>
      clear OSc BAc
      obtain ⟨i, rfl, hi3, hos, hba, hgz⟩ := hrel
      have OSr := Lib.hid hos
      have BAr := Lib.hid hba
      clear hos hba
      by_cases hi : i < 3
      · have hi2 : (i : Int) < 3 := by omega
        have BT := Lib.hid (bent_any wr b n cp A bs OSr.out.tp (SB.out wr BAr.out) rw3 (by omega) N8.out)
        go_wp2_with fail
        refine BT.out.mono ?_
        rintro e w8 ⟨b2, A2, c2, rfl, hs2, hl2, hm8⟩
        have OS8 := Lib.hid (OSr.out.mv HB.out zr.out zh.out hm8)
        have BA8 := Lib.hid (BAr.out.mvd hm8 T5h.out)
        have SZ8 : Hid (W5.heap.size ≤ w8.heap.size) := Lib.hid (Nat.le_trans hgz hm8.size)
        have S2 := Lib.hid hs2
        have P2 := Lib.hid (PV.out w8 OS8.out b2 A2 c2 hl2 hs2)
        have Q2 := Lib.hid (fun W (hW : Gr w8 W) => QV.out W (OS8.out.gr hW) b2 A2 c2 hl2 (hs2.gr RBrn.mono hW))
        rw [ans_same] at P2
        obtain ⟨r, hr⟩ : ∃ r, refAns (clks ts) ms b2 = r := ⟨_, rfl⟩
        rw [hr] at P2 Q2
        clear hs2 hm8 hr BT
        go_wp2_with fail
        refine P2.out.mono ?_
        rintro e w9 ⟨rfl, hg9⟩
        have G9 := Lib.hid hg9
        clear hg9
        go_wp2_with fail
        refine (Q2.out w9 G9.out).mono ?_
        rintro e w10 ⟨rfl, hg10⟩
        have G10 := Lib.hid (G9.out.trans hg10)
        clear hg10
        go_wp2_with fail
        go_roundw
        case rel => exact ⟨i + 1, by go_num, by omega, OS8.out.gr G10.out, BA8.out.gr2 G10.out, Nat.le_trans SZ8.out G10.out.size⟩
        case measure => simp [intOf]; omega
      · have hi2 : ¬ (i : Int) < 3 := by omega
        have PN := PV.out wr OSr.out [] none 0 (by simp) (SlOf.nil _ _ _ _)
        rw [ans_nil] at PN
        simp only [List.length_nil] at PN
        have PNH := Lib.hid PN
        clear PN
        go_wp2_with fail
        refine PNH.out.mono ?_
        rintro e w9 ⟨rfl, hg9⟩
        have OS9 := Lib.hid (OSr.out.gr hg9)
        have BASE : Hid (W5.heap.size ≤ w9.heap.size) := Lib.hid (Nat.le_trans hgz hg9.size)
        have BA9 := Lib.hid (BAr.out.gr2 hg9)
        clear hg9 PNH
        obtain ⟨W10, hW10⟩ : ∃ W10 : World, Hid (W10 = w9.alloc (.cells #[] 76)) := ⟨_, Lib.hid rfl⟩
        obtain ⟨N9, hN9⟩ : ∃ N9 : Nat, Hid (w9.heap.size = N9) := ⟨_, Lib.hid rfl⟩
        have OE : Hid (W10.ownsRow N9 76 3 (.slice (some ⟨N9, 0, none⟩) 0 0) 0 []) := Lib.hid (by rw [hW10.out, ← hN9.out]; exact World.ownsRow_lit w9 #[] 0 (Nat.le_refl _) (by unfold maxLen; omega) (by simp))
        have G10 : Hid (Gr w9 W10) := Lib.hid (by rw [hW10.out]; exact (Gr.refl _).alloc _)
        have GB : Hid (Gets W10 A bs.length 3 (xs.flatMap encN)) := Lib.hid (by
          have := BA9.out.gr2 G10.out
          have h1 := this.1
          rw [XL.out] at h1
          exact gets_brns XL.out h1)
        have FIN : Hid (∀ W A3 c3, Gr w9 W → W.ownsRow N9 76 3 (.slice A3 (bs.length + 1) c3) (bs.length + 1) (xs.flatMap encN ++ [.int .i64 0, .int .i64 0, .slice none 0 0]) → Calls Tryd.prog 39 #[.slice (some ⟨g, 0, none⟩) ts.length c, .slice am ms.length cm, .slice A3 (bs.length + 1) c3] W (Grows W (.bool false))) := Lib.hid (fun W A3 c3 hg ho => by
          have hb : W5.heap.size ≤ N9 := by rw [← hN9.out]; exact BASE.out
          have sl := brns_snoc XL.out ho rfl ((BA9.out.gr2 hg).2) hb RW.out
          rw [HXS.out] at sl
          have := PV.out W (OS9.out.gr hg) (bs ++ [⟨0, 0, []⟩]) A3 c3 (by rw [List.length_append, List.length_singleton]; omega) sl
          rw [ans_more (by omega) PA'.out, List.length_append, List.length_singleton] at this
          exact this)
        go_wp2_with (first
          | (at_builtin; rw [← hW10.out, hN9.out]; refine wpList_append_getsG (by first | rfl | simp [Region.wanted, yielded]) _ _ 69 rfl N9 76 k0 (.agg #[.int .i64 0, .int .i64 0, .slice none 0 0]) 3 40 Tryd.underlying69 hk kz0 kz1 kz2 rfl (by decide) (.slice (some ⟨N9, 0, none⟩) 0 0) 0 [] rfl OE.out A bs.length cp (xs.flatMap encN) rfl GB.out (encNs_one xs) (by unfold maxLen; omega) (by omega) (by have := G10.out.size; have := hN9.out; omega) ?_; intro v' W11 hown hgrow _; rw [Nat.zero_add, List.nil_append] at hown; obtain ⟨a11, c11, rfl⟩ := owns_slice hown; have G11 : Hid (Gr w9 W11) := Lib.hid (G10.out.grown hgrow (fun k e => by have := (OE.out.lt k e).1; have := hN9.out; omega)); obtain ⟨N11, hN11⟩ : ∃ N11 : Nat, Hid (W11.heap.size = N11) := ⟨_, Lib.hid rfl⟩; obtain ⟨W12, hW12⟩ : ∃ W12 : World, Hid (W12 = W11.alloc (.cells #[.int .i64 0, .int .i64 0, .slice none 0 0] 76)) := ⟨_, Lib.hid rfl⟩; have G12 : Hid (Gr W11 W12) := Lib.hid (by rw [hW12.out]; exact (Gr.refl _).alloc _); have O12 := Lib.hid (Gr.owns hown G12.out); have CC : Hid (∀ j u, ([.int .i64 0, .int .i64 0, .slice none 0 0] : List Value)[j]? = some u → W12.cell? ((⟨N11, 0, none⟩ : Addr).add j) = some u) := Lib.hid (by have := row_cells (Row.new W11 #[.int .i64 0, .int .i64 0, .slice none 0 0] 76); rw [← hW12.out, hN11.out] at this; exact this); clear hown hgrow hW10 OE GB)
          | (at_builtin; rw [← hW12.out, hN11.out]; refine wpList_append_getsG (by first | rfl | simp [Region.wanted, yielded]) _ _ 69 rfl N9 76 k0 (.agg #[.int .i64 0, .int .i64 0, .slice none 0 0]) 3 40 Tryd.underlying69 hk kz0 kz1 kz2 rfl (by decide) (.slice a11 bs.length c11) bs.length (xs.flatMap encN) rfl O12.out (some ⟨N11, 0, none⟩) 1 1 [.int .i64 0, .int .i64 0, .slice none 0 0] rfl ⟨rfl, fun _ => ⟨_, rfl, CC.out⟩⟩ (one_brn 0 0) (by unfold maxLen; omega) (by omega) (by have := (G11.out.trans G12.out).size; have := hN9.out; omega) ?_; intro v' W13 hown hgrow _; obtain ⟨a13, c13, rfl⟩ := owns_slice hown; have G13 : Hid (Gr w9 W13) := Lib.hid ((G11.out.trans G12.out).grown hgrow (fun k e => by have := (O12.out.lt k e).1; have := hN9.out; omega)); have CH := Lib.hid (FIN.out W13 a13 c13 G13.out hown); clear hown hgrow hW12)
          | fail)
        refine CH.out.mono ?_
        rintro e w14 ⟨rfl, hg14⟩
        have G14 := Lib.hid (G13.out.trans hg14)
        clear hg14
        go_wp2_with fail
        refine (awake17_any w14 (HO.out.gr (OS9.out.gw.trans G14.out))).mono ?_
        rintro e w15 ⟨rfl, hg15⟩
        have G15 := Lib.hid ((OS9.out.gw.trans G14.out).trans hg15)
        clear hg15
        go_wp2_with fail
        go_ret
        exact ⟨rfl, G15.out⟩
end Go.Proofs.YtenehghpmnajpaaDoor
