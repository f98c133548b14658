/- Lemmas and contracts for the proof of LinkConsumers (several texts in one, printed by wip/tools/pack.py): LrB. -/
import Derived.Test.YtdjhnfopdlgliaaGreatLc1ps
import Derived.WalkMore
set_option maxRecDepth 100000
set_option maxHeartbeats 16000000
set_option linter.unusedVariables false
set_option linter.unusedSimpArgs false
namespace Go.Proofs.YtdjhnfopdlgliaaGreat
open Go.RowKit
open Classical
theorem found_any {ls : List Lnk} {z p : Int} (h : z ∈ consL p ls) : ls.any (fun x => x.node == z && x.prov == p) = true := by
  obtain ⟨x, hx, e1, e2⟩ := mem_consL.1 h
  rw [List.any_eq_true]
  exact ⟨x, hx, by simp [e1, e2]⟩
theorem givesVal_getD {o : Option St} {w w' : World} {e : Ending} (h : GivesVal o w e w') : ∃ b, e = .returned (.tuple #[.string (bs (o.getD [])), .bool b]) ∧ Gr w w' := by
  obtain ⟨g, q⟩ := h
  cases o with
  | none => exact ⟨false, q, g⟩
  | some v => exact ⟨true, q, g⟩
theorem cons_len (p : Int) (ls : List Lnk) : (consL p ls).length ≤ ls.length := by
  unfold consL
  refine Nat.le_trans (compact_le _) ?_
  rw [List.length_map]
  exact List.length_filter_le _ _
theorem consumers_walk (a : Option Addr) (len cap : Nat) (zs : List Int) (w : World) (h : RowIn w a len cap zs) :
    Calls Tryz.prog 4 #[.slice a len cap] w (Grows w (.bool true)) := by
  have H := Lib.hid h
  clear h
  obtain ⟨P0, hP0⟩ : ∃ P : Ending → World → Prop, P = Grows w (.bool true) := ⟨_, rfl⟩
  rw [← hP0]
  have HP0 := Lib.hid hP0
  clear hP0
  go_enter Tryz.func4, Tryz.ntmps4
  go_wp2_with fail
  refine (newTape_any w a len cap zs H.out).mono ?_
  rintro e w1 ⟨b, n0, rfl, ht, hg, hb, _⟩
  have TP := Lib.hid (show Tp w1 b n0 from ⟨0, ht⟩)
  have G1 := Lib.hid hg
  have BW := Lib.hid hb
  clear ht hg hb
  go_wp2_with fail
  refine (links_any b n0 w1 TP.out).mono ?_
  rintro e w2 ⟨v, ms, rfl, htr, hvl, hml, hmv⟩
  obtain ⟨va, vc, rfl⟩ := owns_slice htr.own
  have G2 : Hid (Gr w w2) := Lib.hid (hmv.out G1.out BW.out)
  obtain ⟨n, hn⟩ : ∃ N : Nat, Hid (ms.length = N) := ⟨_, Lib.hid rfl⟩
  obtain ⟨ts, hts⟩ : ∃ ts, ms.map NM.n = ts := ⟨_, rfl⟩
  have TL : Hid (ts.length = n) := Lib.hid (by rw [← hts, List.length_map]; exact hn.out)
  have SL2 : Hid (SlOf 3 RNod w2 va ts) := Lib.hid (by rw [← hts]; exact htr.sl.2)
  rw [hts] at hvl
  have VLL := Lib.hid hvl
  have N9 : Hid (n ≤ 9 ∧ 0 < n) := Lib.hid ⟨by rw [← hn.out]; exact hml, by rw [← TL.out]; exact hvl.pos⟩
  rw [hn.out]
  clear hts htr hvl hml hmv
  go_upto_region 3 with (fail)
  have RX3 := Lib.hid (Row.new w2 #[.slice va n vc] 31)
  obtain ⟨w3, hw3⟩ : ∃ W : World, Hid (W = w2.alloc (.cells #[.slice va n vc] 31)) := ⟨_, Lib.hid rfl⟩
  have g3 : Gr w2 w3 := by rw [hw3.out]; exact (Gr.refl _).alloc _
  rw [← hw3.out] at RX3 ⊢
  obtain ⟨PB, hPB⟩ : ∃ N : Nat, Hid (w2.heap.size = N) := ⟨_, Lib.hid rfl⟩
  rw [hPB.out] at RX3 ⊢
  have G3 := Lib.hid (G2.out.trans g3)
  have SL3 : Hid (SlOf 3 RNod w3 va ts) := Lib.hid (SL2.out.gr RNod.mono g3)
  clear hw3 hPB g3 SL2
  rcases VLL.out.cases with hvt | ⟨hbig, _⟩
  · have HV := Lib.hid hvt
    have HC := Lib.hid (chk_V hvt)
    clear hvt
    have SM0 := fun W => rsame_any [] [] none none 0 0 W.heap.size W.heap.size W (World.ownsRow_nil _ _ _ _) (World.ownsRow_nil _ _ _ _) (LRows.nil _ _) (LRows.nil _ _) rfl (by simp)
    have SM0 := Lib.hid SM0
    have C4 := rAll_ok ts va vc [99, 108, 111, 99, 107, 115] [35, 99, 101, 108, 108, 115] w3 SL3.out HV.out
    have C5 := fun W (hg : Gr w3 W) => all_any ts va vc [99, 108, 111, 99, 107, 115] [35, 99, 101, 108, 108, 115] W (SL3.out.gr RNod.mono hg) HC.out
    rw [TL.out] at C4 C5
    have C5 := Lib.hid C5
    have x0 := RX3.out.cell 0 (by simp)
    simp only [List.getElem_cons_zero] at x0
    have hx := has_of_cell x0
    go_wp2_with fail
    refine C4.mono ?_
    intro e w4 hgv
    clear C4 x0 hx
    cases hz : allT ts [99, 108, 111, 99, 107, 115] [35, 99, 101, 108, 108, 115] ts.length with
    | error er =>
      rw [TL.out] at hz
      rw [hz] at hgv
      rw [← TL.out] at hz
      have gz : graphT ts [99, 108, 111, 99, 107, 115] [35, 99, 101, 108, 108, 115] = .error er := by unfold graphT; rw [hz]
      have E25 := graphT_err gz
      rw [TL.out] at hz
      have AE := Lib.hid hz
      obtain ⟨rfl, hg4⟩ := hgv
      have GG4 := Lib.hid hg4
      have G4 := Lib.hid (G3.out.trans hg4)
      have RX4 := Lib.hid (RX3.out.gr hg4)
      clear hg4 gz hz
      have x0 := RX4.out.cell 0 (by simp)
      simp only [List.getElem_cons_zero] at x0
      have hx := has_of_cell x0
      go_wp2_with fail
      refine (C5.out w4 GG4.out).mono ?_
      intro e w5 hgv
      rw [AE.out] at hgv
      obtain ⟨rfl, hg5⟩ := hgv
      have G5 := Lib.hid (G4.out.trans hg5)
      have RX5 := Lib.hid (RX4.out.gr hg5)
      clear hg5 x0 hx
      clear AE
      rcases E25 with rfl | rfl
      · go_wp2_with fail
        refine (SM0.out w5).mono ?_
        rintro e w6 ⟨rfl, hg6⟩
        have G6 := Lib.hid (G5.out.trans hg6)
        clear hg6
        go_wp2_with fail
        refine (awake12_any w6).mono ?_
        rintro e w9 ⟨rfl, hg9⟩
        go_wp2_with fail
        rw [HP0.out]
        exact ⟨rfl, G6.out.trans hg9⟩
      · go_wp2_with fail
        refine (SM0.out w5).mono ?_
        rintro e w6 ⟨rfl, hg6⟩
        have G6 := Lib.hid (G5.out.trans hg6)
        clear hg6
        go_wp2_with fail
        refine (awake12_any w6).mono ?_
        rintro e w9 ⟨rfl, hg9⟩
        go_wp2_with fail
        rw [HP0.out]
        exact ⟨rfl, G6.out.trans hg9⟩
    | ok ls =>
      rw [TL.out] at hz
      rw [hz] at hgv
      obtain ⟨lv, lts, rfl, hlk, how, hlr, hg4⟩ := hgv
      obtain ⟨la, lc, rfl⟩ := owns_slice how
      have AOK := Lib.hid hz
      have HZ : Hid (allT ts [99, 108, 111, 99, 107, 115] [35, 99, 101, 108, 108, 115] ts.length = .ok ls) := Lib.hid (by rw [TL.out]; exact hz)
      have GG4 := Lib.hid hg4
      have G4 := Lib.hid (G3.out.trans hg4)
      have RX4 := Lib.hid (RX3.out.gr hg4)
      have OW4 := Lib.hid how
      have LR4 := Lib.hid hlr
      obtain ⟨nl, hnl⟩ : ∃ N : Nat, Hid (lts.length = N) := ⟨_, Lib.hid rfl⟩
      have HLK := Lib.hid hlk
      have NL0 := allT_len2 (good_of HC.out) _ _ (Nat.le_refl _) HZ.out
      have LN : Hid (ls.length = nl) := Lib.hid (by rw [← hlk]; unfold lks; rw [List.length_map]; exact hnl.out)
      have n600 : nl ≤ 600 := by
        rw [LN.out, TL.out] at NL0
        have := N9.out
        omega
      have ARG := Lib.hid (allT_args _ _ HZ.out)
      rw [hnl.out]
      clear hg4 hz how hlr hlk NL0
      have x0 := RX4.out.cell 0 (by simp)
      simp only [List.getElem_cons_zero] at x0
      have hx := has_of_cell x0
      go_wp2_with fail
      refine (C5.out w4 GG4.out).mono ?_
      intro e w5 hgv
      rw [AOK.out] at hgv
      obtain ⟨mv, mts, rfl, hmk2, hom, hmr, hg5⟩ := hgv
      obtain ⟨ma, mc, rfl⟩ := owns_slice hom
      have ML : mts.length = nl := by
        have h1 := congrArg List.length hmk2
        unfold lks at h1
        rw [List.length_map] at h1
        rw [h1]; exact LN.out
      have SM := rsame_any mts lts ma la mc lc _ _ w5 hom (Gr.owns OW4.out hg5) hmr (LR4.out.gr hg5) (by rw [hmk2, HLK.out]) (by rw [ML]; omega)
      rw [ML, hnl.out] at SM
      have SM := Lib.hid SM
      have GG5 := Lib.hid (GG4.out.trans hg5)
      have OW5 := Lib.hid (Gr.owns OW4.out hg5)
      have LR5 := Lib.hid (LR4.out.gr hg5)
      rw [ML]
      have G5 := Lib.hid (G4.out.trans hg5)
      have RX5 := Lib.hid (RX4.out.gr hg5)
      clear hg5 x0 hx
      clear hmk2 hom hmr ML AOK
      go_wp2_with fail
      refine SM.out.mono ?_
      rintro e w6 ⟨rfl, hg6⟩
      have GG6 := Lib.hid (GG5.out.trans hg6)
      have G6 := Lib.hid (G5.out.trans hg6)
      have RX6 := Lib.hid (RX5.out.gr hg6)
      have OW6 := Lib.hid (Gr.owns OW5.out hg6)
      have LR6 := Lib.hid (LR5.out.gr hg6)
      clear hg6 SM
      have n9 := N9.out
      have x0 := RX6.out.cell 0 (by simp)
      simp only [List.getElem_cons_zero] at x0
      have hx := has_of_cell x0
      go_wp2_with fail
      clear x0 hx
      go_loopw [53] (fun s wr => ∃ p : Nat, p ≤ n ∧ s = .int .i64 (p : Int) ∧ Gr w6 wr) (fun s _ => n - (intOf s).toNat)
      case atStart => exact ⟨0, Nat.zero_le _, rfl, by first | exact Gr.refl _ | exact (Gr.refl _).drewN _⟩
      case round =>
        obtain ⟨p, hp, rfl, hg⟩ := hrel
        have HG := Lib.hid hg
        have x0 := (RX6.out.gr hg).cell 0 (by simp)
        simp only [List.getElem_cons_zero] at x0
        have hx := has_of_cell x0
        clear hg
        by_cases hlt : p < n
        · have hpt : p < ts.length := by rw [TL.out]; exact hlt
          have CC := consumers_ok ts va vc p [99, 108, 111, 99, 107, 115] [35, 99, 101, 108, 108, 115] ls wr (SL3.out.gr RNod.mono (GG6.out.trans HG.out)) HC.out hpt HZ.out (by rw [LN.out]; exact n600)
          rw [TL.out] at CC
          have CC := Lib.hid CC
          have HPT := Lib.hid hpt
          have HLT := Lib.hid hlt
          have pn : (p : Int) < (n : Int) := by omega
          clear hlt hp
          go_wp2_with fail
          refine CC.out.mono ?_
          rintro e w7 ⟨cv, rfl, hcw, hg7⟩
          obtain ⟨ca, cc, rfl⟩ := owns_slice hcw
          have G7 := Lib.hid (HG.out.trans hg7)
          obtain ⟨cs, hcs⟩ : ∃ cs, consL p ls = cs := ⟨_, rfl⟩
          have HCS := Lib.hid hcs
          have CSL : Hid (cs.length ≤ 600) := Lib.hid (by rw [← hcs]; have := cons_len p ls; rw [LN.out] at this; omega)
          rw [hcs] at hcw ⊢
          have CW7 := Lib.hid hcw
          clear hcs hcw hg7 x0 hx CC
          go_wp2_with fail
          obtain ⟨wx, rfl⟩ : ∃ wo, wo = wr := ⟨_, rfl⟩
          go_loopw [12, 66] (fun v s wr => ∃ m : Nat, m ≤ nl ∧ s = .int .i64 (m : Int) ∧ v = .string (bs (valN ts p ls m)) ∧ Gr w7 wr) (fun _ s _ => nl - (intOf s).toNat)
          case atStart => exact ⟨0, Nat.zero_le _, rfl, rfl, by first | exact Gr.refl _ | exact (Gr.refl _).drewN _⟩
          case round =>
            obtain ⟨m, hm, rfl, rfl, hg⟩ := hrel
            have HG2 := Lib.hid hg
            have G8a := Lib.hid (G7.out.trans hg)
            clear hg
            by_cases hml : m < nl
            · have hmt : m < lts.length := by rw [hnl.out]; exact hml
              obtain ⟨g2, e2, -, p0, p1, p2, p3, p4⟩ := lk_at (Gr.owns OW6.out G8a.out) hmt
              subst e2
              have LRT := Lib.hid ((LR6.out.gr G8a.out) _ (List.getElem_mem hmt))
              obtain ⟨t, ht⟩ : ∃ t, lts[m] = t := ⟨_, rfl⟩
              have hml2 : m < ls.length := by rw [LN.out]; exact hml
              have ELM : Hid (ls[m] = t.l) := Lib.hid (by
                have q := lks_get hmt
                rw [ht] at q
                rw [← q]
                congr 1
                exact HLK.out.symm)
              have TM : Hid (t.l ∈ ls) := Lib.hid (by rw [← ELM.out]; exact List.getElem_mem hml2)
              have VS : Hid (valN ts p ls (m + 1) = if t.l.node == (p : Int) then valN ts p ls m ++ pieceL ts t.l else valN ts p ls m) := Lib.hid (by rw [valN_step _ _ _ _ hml2, ELM.out])
              have VB : Hid ((valN ts p ls m).length ≤ 172800) := Lib.hid (by have := valN_le HV.out (p := p) ARG.out m (by omega); omega)
              rw [ht] at p0 p1 p2 p3 p4 LRT
              obtain ⟨tn, htn⟩ : ∃ z, t.l.node = z := ⟨_, rfl⟩
              obtain ⟨tp, htp⟩ : ∃ z, t.l.prov = z := ⟨_, rfl⟩
              have HTN := Lib.hid htn
              have HTP := Lib.hid htp
              rw [htn] at p0 VS
              rw [htp] at p1
              obtain ⟨val, hval⟩ : ∃ v, valN ts p ls m = v := ⟨_, rfl⟩
              rw [hval] at VS VB ⊢
              have hp0 := has_of_cell p0
              have HML := Lib.hid hml
              have mn : (m : Int) < (nl : Int) := by omega
              have PK : Hid (∃ k : Nat, tp = (k : Int) ∧ k < n) := Lib.hid (by
                obtain ⟨k, e, hk⟩ := (allT_mem _ _ HZ.out _ TM.out).2
                exact ⟨k, by rw [← htp]; exact e, by rw [← TL.out]; exact hk⟩)
              have PIECE : Hid (pieceL ts t.l = (valP (nd ts tp.toNat).props phS).getD [] ++ cellsS (natL t.l.args)) := Lib.hid (by unfold pieceL; rw [htp])
              have ARGS := Lib.hid (ARG.out _ TM.out)
              clear ELM
              clear ht htn htp hval hml hm hmt hml2
              go_upto_region 19 with (fail)
              have BX := Lib.hid (Row.new wr #[.int .i64 tn, .int .i64 tp, .string (bs t.l.prop), .int .i64 t.l.idx, .slice t.a t.l.args.length t.c] 40)
              obtain ⟨w8, hw8⟩ : ∃ W : World, Hid (W = wr.alloc (.cells #[.int .i64 tn, .int .i64 tp, .string (bs t.l.prop), .int .i64 t.l.idx, .slice t.a t.l.args.length t.c] 40)) := ⟨_, Lib.hid rfl⟩
              have g8 : Gr wr w8 := by rw [hw8.out]; exact (Gr.refl _).alloc _
              rw [← hw8.out] at BX ⊢
              obtain ⟨PX, hPX⟩ : ∃ N : Nat, Hid (wr.heap.size = N) := ⟨_, Lib.hid rfl⟩
              rw [hPX.out] at BX ⊢
              have G8 := Lib.hid (HG2.out.trans g8)
              have GR8 := Lib.hid g8
              clear hw8 hPX g8 p0 p1 p2 p3 p4 hp0
              have y0 := BX.out.cell 0 (by simp)
              have y1 := BX.out.cell 1 (by simp)
              simp only [List.getElem_cons_zero, List.getElem_cons_succ] at y0 y1
              have hy := has_of_cell y0
              by_cases hpv : tp = (p : Int)
              · subst hpv
                have CT : Hid (cs.contains tn = true) := Lib.hid (by
                  rw [List.contains_iff_mem, ← HCS.out]
                  exact mem_consL.2 ⟨t.l, TM.out, HTN.out, HTP.out⟩)
                have IN := in_any cs ca cc wx.heap.size tn w8 (Gr.owns CW7.out G8.out) (by have := CSL.out; omega)
                rw [CT.out] at IN
                have IN := Lib.hid IN
                clear CT
                go_wp2_with fail
                refine IN.out.mono ?_
                rintro e w9 ⟨rfl, hg9⟩
                have G9 := Lib.hid (G8.out.trans hg9)
                have GR9 := Lib.hid (GR8.out.trans hg9)
                have BX9 := Lib.hid (BX.out.gr hg9)
                clear y0 y1 hy hg9 IN
                have y0 := BX9.out.cell 0 (by simp)
                have y1 := BX9.out.cell 1 (by simp)
                simp only [List.getElem_cons_zero, List.getElem_cons_succ] at y0 y1
                have hy := has_of_cell y0
                by_cases hnd : tn = (p : Int)
                · subst hnd
                  have VS2 : Hid (valN ts p ls (m + 1) = val ++ pieceL ts t.l) := Lib.hid (by rw [VS.out, if_pos (by simp)])
                  have hkq : p < n := HLT.out
                  have KT : Hid (p < ts.length) := Lib.hid (by rw [TL.out]; exact hkq)
                  have G69 := Lib.hid (G7.out.trans G9.out)
                  have x0 := (RX6.out.gr G69.out).cell 0 (by simp)
                  simp only [List.getElem_cons_zero] at x0
                  have hx := has_of_cell x0
                  obtain ⟨b, o, pa, pc, ea, c0, c1, c2, hps, hpf, hw, hnl2⟩ := nods_at (SL3.out.gr RNod.mono (GG6.out.trans G69.out)) p KT.out
                  subst ea
                  have NI : Hid ((ts[p]'KT.out).props.length ≤ 12) := Lib.hid (HV.out.props KT.out).len
                  have PC2 : Hid (pieceL ts t.l = (valP (ts[p]'KT.out).props [112, 104, 97, 110, 100, 108, 101]).getD [] ++ cellsS (natL t.l.args)) := Lib.hid (by rw [PIECE.out, Int.toNat_natCast, nd_get KT.out]; rfl)
                  have HL : Hid (((valP (ts[p]'KT.out).props [112, 104, 97, 110, 100, 108, 101]).getD []).length ≤ 256) := Lib.hid (by rw [← nd_get KT.out]; exact valP_le HV.out p [112, 104, 97, 110, 100, 108, 101])
                  obtain ⟨nk, hnk⟩ : ∃ t, ts[p]'KT.out = t := ⟨_, rfl⟩
                  rw [hnk] at c0 c1 c2 hps NI PC2 HL
                  have HPS := Lib.hid hps
                  have hh := has_of_cell c0
                  have kn : (p : Int) < (n : Int) := by omega
                  clear hnk hps hpf hw hnl2 hkq
                  go_wp2_with fail
                  refine (rOf_any nk pa pc [112, 104, 97, 110, 100, 108, 101] w9 HPS.out (by have := NI.out; omega)).mono ?_
                  intro e w10 hgv
                  obtain ⟨fb, rfl, hg10⟩ := givesVal_getD hgv
                  obtain ⟨hv, hhv⟩ : ∃ v, (valP nk.props [112, 104, 97, 110, 100, 108, 101]).getD [] = v := ⟨_, rfl⟩
                  rw [hhv]
                  have PC3 : Hid (pieceL ts t.l = hv ++ cellsS (natL t.l.args)) := Lib.hid (by rw [PC2.out, ← hhv])
                  have hl3 : hv.length ≤ 256 := by rw [← hhv]; exact HL.out
                  have BX10 := Lib.hid (BX9.out.gr hg10)
                  have G10 := Lib.hid (G9.out.trans hg10)
                  have SX : Hid (SlOf 1 RI w10 t.a t.l.args) := Lib.hid (by
                    obtain ⟨_, _, ex, _, sx⟩ := ints_at LRT.out.1 LRT.out.2.1
                    cases ex
                    exact (sx.giI (GR9.out.trans hg10)))
                  clear hgv hhv hg10 y0 y1 hy x0 hx c0 c1 c2 hh PC2 HL
                  have y4 := BX10.out.cell 4 (by simp)
                  simp only [List.getElem_cons_zero, List.getElem_cons_succ] at y4
                  have hy := has_of_cell y4
                  have GC := growCells_all (natL t.l.args) t.a t.c w10 (by rw [natL_back ARGS.out.1]; exact SX.out) (natL_lt ARGS.out.1) (by unfold natL; rw [List.length_map]; have := ARGS.out.2; omega)
                  rw [show (natL t.l.args).length = t.l.args.length by unfold natL; rw [List.length_map]] at GC
                  have cl : (cellsS (natL t.l.args)).length ≤ 32 := by rw [cellsS_length]; unfold natL; rw [List.length_map]; have := ARGS.out.2; omega
                  obtain ⟨cz, hcz⟩ : ∃ v, cellsS (natL t.l.args) = v := ⟨_, rfl⟩
                  rw [hcz] at GC cl PC3
                  have GC := Lib.hid GC
                  clear hcz
                  have vb := VB.out
                  go_wp2_with fail
                  refine GC.out.mono ?_
                  rintro e w11 ⟨rfl, hg11⟩
                  have G11 := Lib.hid (G10.out.trans hg11)
                  clear GC y4 hy hg11
                  go_wp2_with fail
                  go_roundw
                  case rel => exact ⟨m + 1, by have := HML.out; omega, by go_num, by rw [VS2.out, PC3.out], G11.out⟩
                  case measure => simp [intOf]; have := HML.out; omega
                · have nb : (tn == (p : Int)) = false := by rw [beq_eq_false_iff_ne]; exact hnd
                  have VS2 : Hid (valN ts p ls (m + 1) = val) := Lib.hid (by rw [VS.out, nb]; rfl)
                  clear hnd
                  go_wp2_with fail
                  go_roundw
                  case rel => exact ⟨m + 1, by have := HML.out; omega, by go_num, by rw [VS2.out], G9.out⟩
                  case measure => simp [intOf]; have := HML.out; omega
              · have hb : (tp == (p : Int)) = false := by rw [beq_eq_false_iff_ne]; exact hpv
                obtain ⟨w9, hw9⟩ : ∃ wo, wo = w8 := ⟨_, rfl⟩
                have G9 : Hid (Gr w7 w9) := Lib.hid (by rw [hw9]; exact G8.out)
                have GR9 : Hid (Gr wr w9) := Lib.hid (by rw [hw9]; exact GR8.out)
                have BX9 : Hid (Row w9 PX 40 [.int .i64 tn, .int .i64 tp, .string (bs t.l.prop), .int .i64 t.l.idx, .slice t.a t.l.args.length t.c]) := Lib.hid (by rw [hw9]; exact BX.out)
                rw [← hw9] at y0 y1 hy ⊢
                clear hpv hw9
                go_upto_region 21 with (fail)
                clear y0 y1 hy hb
                have y0 := BX9.out.cell 0 (by simp)
                have y1 := BX9.out.cell 1 (by simp)
                simp only [List.getElem_cons_zero, List.getElem_cons_succ] at y0 y1
                have hy := has_of_cell y0
                by_cases hnd : tn = (p : Int)
                · subst hnd
                  have VS2 : Hid (valN ts p ls (m + 1) = val ++ pieceL ts t.l) := Lib.hid (by rw [VS.out, if_pos (by simp)])
                  obtain ⟨kq, ekq, hkq⟩ := PK.out
                  subst ekq
                  have KT : Hid (kq < ts.length) := Lib.hid (by rw [TL.out]; exact hkq)
                  have G69 := Lib.hid (G7.out.trans G9.out)
                  have x0 := (RX6.out.gr G69.out).cell 0 (by simp)
                  simp only [List.getElem_cons_zero] at x0
                  have hx := has_of_cell x0
                  obtain ⟨b, o, pa, pc, ea, c0, c1, c2, hps, hpf, hw, hnl2⟩ := nods_at (SL3.out.gr RNod.mono (GG6.out.trans G69.out)) kq KT.out
                  subst ea
                  have NI : Hid ((ts[kq]'KT.out).props.length ≤ 12) := Lib.hid (HV.out.props KT.out).len
                  have PC2 : Hid (pieceL ts t.l = (valP (ts[kq]'KT.out).props [112, 104, 97, 110, 100, 108, 101]).getD [] ++ cellsS (natL t.l.args)) := Lib.hid (by rw [PIECE.out, Int.toNat_natCast, nd_get KT.out]; rfl)
                  have HL : Hid (((valP (ts[kq]'KT.out).props [112, 104, 97, 110, 100, 108, 101]).getD []).length ≤ 256) := Lib.hid (by rw [← nd_get KT.out]; exact valP_le HV.out kq [112, 104, 97, 110, 100, 108, 101])
                  obtain ⟨nk, hnk⟩ : ∃ t, ts[kq]'KT.out = t := ⟨_, rfl⟩
                  rw [hnk] at c0 c1 c2 hps NI PC2 HL
                  have HPS := Lib.hid hps
                  have hh := has_of_cell c0
                  have kn : (kq : Int) < (n : Int) := by omega
                  clear hnk hps hpf hw hnl2 hkq
                  go_wp2_with fail
                  refine (rOf_any nk pa pc [112, 104, 97, 110, 100, 108, 101] w9 HPS.out (by have := NI.out; omega)).mono ?_
                  intro e w10 hgv
                  obtain ⟨fb, rfl, hg10⟩ := givesVal_getD hgv
                  obtain ⟨hv, hhv⟩ : ∃ v, (valP nk.props [112, 104, 97, 110, 100, 108, 101]).getD [] = v := ⟨_, rfl⟩
                  rw [hhv]
                  have PC3 : Hid (pieceL ts t.l = hv ++ cellsS (natL t.l.args)) := Lib.hid (by rw [PC2.out, ← hhv])
                  have hl3 : hv.length ≤ 256 := by rw [← hhv]; exact HL.out
                  have BX10 := Lib.hid (BX9.out.gr hg10)
                  have G10 := Lib.hid (G9.out.trans hg10)
                  have SX : Hid (SlOf 1 RI w10 t.a t.l.args) := Lib.hid (by
                    obtain ⟨_, _, ex, _, sx⟩ := ints_at LRT.out.1 LRT.out.2.1
                    cases ex
                    exact (sx.giI (GR9.out.trans hg10)))
                  clear hgv hhv hg10 y0 y1 hy x0 hx c0 c1 c2 hh PC2 HL
                  have y4 := BX10.out.cell 4 (by simp)
                  simp only [List.getElem_cons_zero, List.getElem_cons_succ] at y4
                  have hy := has_of_cell y4
                  have GC := growCells_all (natL t.l.args) t.a t.c w10 (by rw [natL_back ARGS.out.1]; exact SX.out) (natL_lt ARGS.out.1) (by unfold natL; rw [List.length_map]; have := ARGS.out.2; omega)
                  rw [show (natL t.l.args).length = t.l.args.length by unfold natL; rw [List.length_map]] at GC
                  have cl : (cellsS (natL t.l.args)).length ≤ 32 := by rw [cellsS_length]; unfold natL; rw [List.length_map]; have := ARGS.out.2; omega
                  obtain ⟨cz, hcz⟩ : ∃ v, cellsS (natL t.l.args) = v := ⟨_, rfl⟩
                  rw [hcz] at GC cl PC3
                  have GC := Lib.hid GC
                  clear hcz
                  have vb := VB.out
                  go_wp2_with fail
                  refine GC.out.mono ?_
                  rintro e w11 ⟨rfl, hg11⟩
                  have G11 := Lib.hid (G10.out.trans hg11)
                  clear GC y4 hy hg11
                  go_wp2_with fail
                  go_roundw
                  case rel => exact ⟨m + 1, by have := HML.out; omega, by go_num, by rw [VS2.out, PC3.out], G11.out⟩
                  case measure => simp [intOf]; have := HML.out; omega
                · have nb : (tn == (p : Int)) = false := by rw [beq_eq_false_iff_ne]; exact hnd
                  have VS2 : Hid (valN ts p ls (m + 1) = val) := Lib.hid (by rw [VS.out, nb]; rfl)
                  clear hnd
                  go_wp2_with fail
                  go_roundw
                  case rel => exact ⟨m + 1, by have := HML.out; omega, by go_num, by rw [VS2.out], G9.out⟩
                  case measure => simp [intOf]; have := HML.out; omega
            · have hmn : m = nl := by omega
              have VE : Hid (valN ts p ls m = (valP (nd ts p).props [99, 108, 111, 99, 107, 115]).getD []) := Lib.hid (by
                have q := valN_end HV.out HZ.out HPT.out
                rw [LN.out] at q
                rw [hmn]; exact q)
              have mn : ¬ (m : Int) < (nl : Int) := by omega
              clear hml hmn hm
              rw [VE.out]
              have x0 := (RX6.out.gr G8a.out).cell 0 (by simp)
              simp only [List.getElem_cons_zero] at x0
              have hx := has_of_cell x0
              obtain ⟨b, o, pa, pc, ea, c0, c1, c2, hps, hpf, hw, hnl2⟩ := nods_at (SL3.out.gr RNod.mono (GG6.out.trans G8a.out)) p HPT.out
              subst ea
              have NI : Hid ((ts[p]'HPT.out).props.length ≤ 12) := Lib.hid (HV.out.props HPT.out).len
              have VE2 : Hid ((valP (nd ts p).props [99, 108, 111, 99, 107, 115]).getD [] = (valP (ts[p]'HPT.out).props [99, 108, 111, 99, 107, 115]).getD []) := Lib.hid (by rw [nd_get HPT.out])
              obtain ⟨np, hnp⟩ : ∃ t, ts[p]'HPT.out = t := ⟨_, rfl⟩
              rw [hnp] at c0 c1 c2 hps NI VE2
              rw [VE2.out]
              have HPS := Lib.hid hps
              have hh := has_of_cell c0
              clear hnp hps hpf hw hnl2
              go_wp2_with fail
              refine (rOf_any np pa pc [99, 108, 111, 99, 107, 115] wr HPS.out (by have := NI.out; omega)).mono ?_
              intro e w8 hgv
              obtain ⟨fb, rfl, hg8⟩ := givesVal_getD hgv
              obtain ⟨vv, hvv⟩ : ∃ v, (valP np.props [99, 108, 111, 99, 107, 115]).getD [] = v := ⟨_, rfl⟩
              rw [hvv]
              have G78 := Lib.hid (HG2.out.trans hg8)
              have n600b := CSL.out
              clear hgv hg8 hvv c0 c1 c2 hh x0 hx
              go_wp2_with fail
              go_loopw [117] (fun s wr => ∃ i : Nat, i ≤ cs.length ∧ s = .int .i64 (i : Int) ∧ Gr w7 wr) (fun s _ => cs.length - (intOf s).toNat)
              case atStart => exact ⟨0, Nat.zero_le _, rfl, G78.out⟩
              case round =>
                obtain ⟨i, hi, rfl, hg⟩ := hrel
                have HG3 := Lib.hid hg
                clear hg
                by_cases hlt : i < cs.length
                · obtain ⟨g, eg, d0⟩ := nm_at (Gr.owns CW7.out HG3.out) hlt
                  subst eg
                  obtain ⟨ci, hci⟩ : ∃ z, cs[i] = z := ⟨_, rfl⟩
                  have FA : Hid (ls.any (fun x => x.node == ci && x.prov == (p : Int)) = true) := Lib.hid (found_any (by rw [HCS.out, ← hci]; exact List.getElem_mem hlt))
                  rw [hci] at d0
                  have hd := has_of_cell d0
                  have iL : (i : Int) < (cs.length : Int) := by omega
                  have HLI := Lib.hid hlt
                  clear hci hlt hi
                  go_wp2_with fail
                  clear d0 hd
                  obtain ⟨w10, rfl⟩ : ∃ wo, wo = wr := ⟨_, rfl⟩
                  go_loopw [21, 123] (fun f s wr => ∃ m : Nat, m ≤ nl ∧ s = .int .i64 (m : Int) ∧ f = .bool ((ls.take m).any (fun x => x.node == ci && x.prov == (p : Int))) ∧ Gr w7 wr) (fun _ s _ => nl - (intOf s).toNat)
                  case atStart => exact ⟨0, Nat.zero_le _, rfl, rfl, HG3.out⟩
                  case round =>
                    obtain ⟨m, hm, rfl, rfl, hg⟩ := hrel
                    have HG4 := Lib.hid hg
                    clear hg
                    by_cases hml : m < nl
                    · have hmt : m < lts.length := by rw [hnl.out]; exact hml
                      obtain ⟨g2, e2, -, p0, p1, p2, p3, p4⟩ := lk_at (Gr.owns OW6.out (G7.out.trans HG4.out)) hmt
                      subst e2
                      obtain ⟨t, ht⟩ : ∃ t, lts[m] = t := ⟨_, rfl⟩
                      have AN : Hid ((ls.take (m + 1)).any (fun x => x.node == ci && x.prov == (p : Int)) = ((ls.take m).any (fun x => x.node == ci && x.prov == (p : Int)) || (t.l.node == ci && t.l.prov == (p : Int)))) := Lib.hid (by
                        have hml2 : m < ls.length := by rw [LN.out]; exact hml
                        rw [any_snoc _ _ _ hml2]
                        have e : ls[m] = t.l := by
                          have q := lks_get hmt
                          rw [ht] at q
                          rw [← q]
                          congr 1
                          exact HLK.out.symm
                        rw [e])
                      rw [ht] at p0 p1 p2 p3 p4
                      obtain ⟨tn, htn⟩ : ∃ z, t.l.node = z := ⟨_, rfl⟩
                      obtain ⟨tp, htp⟩ : ∃ z, t.l.prov = z := ⟨_, rfl⟩
                      rw [htn] at p0 AN
                      rw [htp] at p1 AN
                      have hp0 := has_of_cell p0
                      have HML := Lib.hid hml
                      have mn : (m : Int) < (nl : Int) := by omega
                      obtain ⟨F, hF⟩ : ∃ F, (ls.take m).any (fun x => x.node == ci && x.prov == (p : Int)) = F := ⟨_, rfl⟩
                      rw [hF] at AN ⊢
                      clear ht htn htp hml hm hF hmt
                      go_upto_region 35 with (fail)
                      have BX := Lib.hid (Row.new wr #[.int .i64 tn, .int .i64 tp, .string (bs t.l.prop), .int .i64 t.l.idx, .slice t.a t.l.args.length t.c] 40)
                      obtain ⟨w11, hw11⟩ : ∃ W : World, Hid (W = wr.alloc (.cells #[.int .i64 tn, .int .i64 tp, .string (bs t.l.prop), .int .i64 t.l.idx, .slice t.a t.l.args.length t.c] 40)) := ⟨_, Lib.hid rfl⟩
                      have g11 : Gr wr w11 := by rw [hw11.out]; exact (Gr.refl _).alloc _
                      rw [← hw11.out] at BX ⊢
                      obtain ⟨PX, hPX⟩ : ∃ N : Nat, Hid (wr.heap.size = N) := ⟨_, Lib.hid rfl⟩
                      rw [hPX.out] at BX ⊢
                      have G11 := Lib.hid (HG4.out.trans g11)
                      clear hw11 hPX g11 p0 p1 p2 p3 p4 hp0
                      have y0 := BX.out.cell 0 (by simp)
                      have y1 := BX.out.cell 1 (by simp)
                      simp only [List.getElem_cons_zero, List.getElem_cons_succ] at y0 y1
                      have hy := has_of_cell y0
                      cases F with
                      | true =>
                        go_wp2_with fail
                        go_roundw
                        case rel => exact ⟨m + 1, by have := HML.out; omega, by go_num, by rw [AN.out]; rfl, G11.out⟩
                        case measure => simp [intOf]; have := HML.out; omega
                      | false =>
                        by_cases hnb : tn = ci
                        · have nb : (tn == ci) = true := beq_iff_eq.2 hnb
                          have AN2 : Hid ((ls.take (m + 1)).any (fun x => x.node == ci && x.prov == (p : Int)) = (tp == (p : Int))) := Lib.hid (by rw [AN.out, nb]; simp)
                          clear hnb
                          go_wp2_with fail
                          go_roundw
                          case rel => exact ⟨m + 1, by have := HML.out; omega, by go_num, by rw [AN2.out], G11.out⟩
                          case measure => simp [intOf]; have := HML.out; omega
                        · have nb : (tn == ci) = false := by rw [beq_eq_false_iff_ne]; exact hnb
                          have AN2 : Hid ((ls.take (m + 1)).any (fun x => x.node == ci && x.prov == (p : Int)) = false) := Lib.hid (by rw [AN.out, nb]; rfl)
                          clear hnb
                          go_wp2_with fail
                          go_roundw
                          case rel => exact ⟨m + 1, by have := HML.out; omega, by go_num, by rw [AN2.out], G11.out⟩
                          case measure => simp [intOf]; have := HML.out; omega
                    · have FT : (ls.take m).any (fun x => x.node == ci && x.prov == (p : Int)) = true := by
                        rw [List.take_of_length_le (by rw [LN.out]; omega)]
                        exact FA.out
                      rw [FT]
                      have mn : ¬ (m : Int) < (nl : Int) := by omega
                      clear FT hml hm
                      go_wp2_with fail
                      go_roundw
                      case rel => exact ⟨i + 1, by have := HLI.out; omega, by go_num, HG4.out⟩
                      case measure => simp [intOf]; have := HLI.out; omega
                · have iL : ¬ (i : Int) < (cs.length : Int) := by omega
                  have G7r := Lib.hid (G7.out.trans HG3.out)
                  clear hlt hi
                  go_wp2_with fail
                  go_roundw
                  case rel => exact ⟨p + 1, by have := HLT.out; omega, by go_num, G7r.out⟩
                  case measure => simp [intOf]; have := HLT.out; omega
        · have pn : ¬ (p : Int) < (n : Int) := by omega
          clear hlt
          go_wp2_with fail
          refine (awake12_any wr).mono ?_
          rintro e w9 ⟨rfl, hg9⟩
          go_wp2_with fail
          rw [HP0.out]
          exact ⟨rfl, (G6.out.trans HG.out).trans hg9⟩
  · have HB := Lib.hid hbig
    clear hbig
    have SM0 := fun W => rsame_any [] [] none none 0 0 W.heap.size W.heap.size W (World.ownsRow_nil _ _ _ _) (World.ownsRow_nil _ _ _ _) (LRows.nil _ _) (LRows.nil _ _) rfl (by simp)
    have SM0 := Lib.hid SM0
    have C4 := rAll_big ts va vc [99, 108, 111, 99, 107, 115] [35, 99, 101, 108, 108, 115] 0 w3 SL3.out VLL.out HB.out
    rw [TL.out] at C4
    have x0 := RX3.out.cell 0 (by simp)
    simp only [List.getElem_cons_zero] at x0
    have hx := has_of_cell x0
    go_wp2_with fail
    refine C4.mono ?_
    rintro e w4 ⟨rfl, hg4⟩
    have GG4 : Hid (Gr w3 w4) := Lib.hid hg4
    clear C4
    have G4 := Lib.hid (G3.out.trans hg4)
    have RX4 := Lib.hid (RX3.out.gr hg4)
    clear hg4 x0 hx
    have C5 := all_big ts va vc [99, 108, 111, 99, 107, 115] [35, 99, 101, 108, 108, 115] 0 w4 (SL3.out.gr RNod.mono GG4.out) VLL.out HB.out
    rw [TL.out] at C5
    have x0 := RX4.out.cell 0 (by simp)
    simp only [List.getElem_cons_zero] at x0
    have hx := has_of_cell x0
    go_wp2_with fail
    refine C5.mono ?_
    rintro e w5 ⟨rfl, hg5⟩
    have GG5 : Hid (Gr w3 w5) := Lib.hid (GG4.out.trans hg5)
    clear C5
    have G5 := Lib.hid (G4.out.trans hg5)
    have RX5 := Lib.hid (RX4.out.gr hg5)
    clear hg5 x0 hx
    go_wp2_with fail
    refine (SM0.out w5).mono ?_
    rintro e w6 ⟨rfl, hg6⟩
    have G6 := Lib.hid (G5.out.trans hg6)
    clear hg6
    go_wp2_with fail
    refine (awake12_any w6).mono ?_
    rintro e w9 ⟨rfl, hg9⟩
    go_wp2_with fail
    rw [HP0.out]
    exact ⟨rfl, G6.out.trans hg9⟩
end Go.Proofs.YtdjhnfopdlgliaaGreat
