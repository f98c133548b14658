/- The walk of TuningCore. -/
import Derived.Test.YtenehghpmnajpaaDoorCr24
import Derived.Test.YtenehghpmnajpaaDoorLsB
set_option linter.unusedVariables false
set_option linter.unusedSimpArgs false
namespace Go.Proofs.YtenehghpmnajpaaDoor
open Go.RowKit
open Classical

theorem coreL_len (ms : List Lmt) (out : List Int) : (coreL ms out).length = out.length := by simp [coreL]
theorem coreL_take (ms : List Lmt) (xs : List Int) (j : Nat) (h : j < xs.length) : coreL ms (xs.take (j + 1)) = coreL ms (xs.take j) ++ [ms.getD xs[j].toNat ⟨0, 0, 0⟩] := by
  unfold coreL
  rw [take_snoc_get xs j h, List.map_append]; rfl
set_option maxRecDepth 100000 in
set_option maxHeartbeats 4000000 in
theorem core_walk (a : Option Addr) (len cap : Nat) (zs : List Int) (w : World) (h : RowIn w a len cap zs) (hoff : OffV w) :
    Calls Tryd.prog 11 #[.slice a len cap] w (Grows w (.bool true)) := by
  have H := Lib.hid h
  have HO := Lib.hid hoff
  obtain ⟨j0, hj, hy0, hy1, hy2⟩ := info_parts infoLmt
  clear h hoff
  go_enter Tryd.func11, Tryd.ntmps11
  go_wp2_with fail
  refine (newTape_any w a len cap zs H.out).mono ?_
  rintro e w1 ⟨b, n, rfl, T, hg, hb, _⟩
  have HT : Hid (Tp w1 b n) := Lib.hid ⟨_, T⟩
  have HB := Lib.hid T.has
  have HG := Lib.hid hg
  have LB := Lib.hid hb
  clear T hg hb
  go_wp2_with fail
  refine (clocks_any w1 b n 7 128 HT.out (by omega) (by omega) (by omega) (by omega)).mono ?_
  rintro e w2 ⟨ts, v, rfl, ho, hr, hck, hge, hle, hpr, hm2⟩
  obtain ⟨g, c, rfl, hnc, hbg, _⟩ := owns_cell ho (by omega)
  have T2 := Lib.hid (hm2.tp HT.out)
  have LM := Lib.hid (limits_any w2 b n w1.heap.size 3 c (some ⟨g, 0, none⟩) ts (hm2.tp HT.out) HB.out ho hr hck hge (by omega) (by omega))
  have O2 := Lib.hid ho
  have R2 := Lib.hid hr
  have CK := Lib.hid hck
  have G2 : Hid (Gr w w2) := Lib.hid (Mv.gr_low HG.out LB.out hm2)
  have HCL : Hid ((clks ts).length = ts.length) := Lib.hid (clks_len ts)
  have HC1 := Lib.hid (allOk_cho (cchk_zero hck).2.1)
  have h1l : Hid (1 ≤ (clks ts).length) := Lib.hid (by rw [HCL.out]; exact hge)
  have zr : Hid (b < w2.heap.size) := Lib.hid (hm2.tp HT.out).has
  clear ho hr hck hpr hm2 hbg hnc
  go_wp2_with fail
  refine LM.out.mono ?_
  rintro e w3 ⟨msA, vA, rfl, hoA, hlA, hkA, hm3⟩
  obtain ⟨aA, cA, rfl⟩ := owns_slice hoA
  have M3 := Lib.hid hm3
  have T3 := Lib.hid (hm3.tp T2.out)
  have KA := Lib.hid hkA
  have LM3 := Lib.hid (limits_any w3 b n w1.heap.size 3 c (some ⟨g, 0, none⟩) ts T3.out HB.out (hm3.owns O2.out HB.out) (fun t ht => (R2.out t ht).mv hm3 HB.out) CK.out hge (by omega) (by omega))
  have OA := Lib.hid hoA
  clear hoA hkA hm3 LM
  go_wp2_with fail
  refine LM3.out.mono ?_
  rintro e w4 ⟨msB, vB, rfl, hoB, hlB, hkB, hm4⟩
  obtain ⟨aB, cB, rfl⟩ := owns_slice hoB
  have M4 := Lib.hid (M3.out.trans zr.out hm4)
  have OA4 := Lib.hid (hm4.owns OA.out zr.out)
  have GTB := Lib.hid (gets_lims rfl hoB)
  have KB := Lib.hid hkB
  have base4 : Hid (w2.heap.size ≤ w4.heap.size) := Lib.hid M4.out.size
  clear hoB hkB hm4 LM3 OA M3 T3
  go_wp2_with (first
    | (at_builtin; refine wpList_append_gets _ rfl _ _ 39 rfl w2.heap.size 53 j0 (.agg #[.int .i64 0, .int .i64 0, .int .i64 0]) 3 24 Tryd.underlying39 hj hy0 hy1 hy2 rfl (by decide) (.slice aA msA.length cA) msA.length (msA.flatMap encM) rfl OA4.out aB msB.length cB (msB.flatMap encM) rfl GTB.out (encMs_one msB) (by unfold maxLen; omega) (by omega) base4.out ?_; intro v' W5 hown hgrow _; obtain ⟨am, cm, rfl⟩ := owns_slice hown; have O5 := Lib.hid hown; have M5 := Lib.hid (M4.out.grown hgrow (fun k e => (OA4.out.lt k e).1)); clear hown hgrow)
    | fail)
  obtain ⟨ms, hms⟩ : ∃ ms, msA ++ msB = ms := ⟨_, rfl⟩
  have mle : ms.length ≤ 6 := by rw [← hms, List.length_append]; omega
  have LS : Hid (LsOk (clks ts) ms) := Lib.hid (LsOk.of_mem (by omega) (fun x hx => by
    rw [← hms] at hx
    rcases List.mem_append.1 hx with q | q
    · obtain ⟨j, hj, rfl⟩ := List.mem_iff_getElem.1 q
      exact KA.out j hj
    · obtain ⟨j, hj, rfl⟩ := List.mem_iff_getElem.1 q
      exact KB.out j hj))
  have elen : msA.length + msB.length = ms.length := by rw [← hms, List.length_append]
  have O5' : Hid (W5.ownsRow w2.heap.size 53 3 (.slice am ms.length cm) ms.length (ms.flatMap encM)) := Lib.hid (by
    have := O5.out
    rw [← List.flatMap_append, hms, elen] at this
    exact this)
  rw [elen]
  have OS : Hid (OSt b n w w1 w2 ts g c ms am cm W5) := Lib.hid ⟨M5.out.owns O2.out HB.out, fun t ht => (R2.out t ht).mv M5.out HB.out, O5'.out, M5.out.tp T2.out, Mv.gr_low G2.out LB.out M5.out⟩
  clear elen O5 O5' M4 OA4 GTB base4 M5 hms KA KB O2 R2 T2 HT
  have E1 : Hid (∀ W, OSt b n w w1 w2 ts g c ms am cm W → Env W (clks ts) ms (some ⟨g, 0, none⟩) am) := Lib.hid (fun W hW => ⟨hW.clks hge, hW.lm (by omega) LS.out, HO.out.gr hW.gw, CK.out, LS.out⟩)
  have LV := Lib.hid (fun W (hW : OSt b n w w1 w2 ts g c ms am cm W) => pLeast_any (clks ts) ms (some ⟨g, 0, none⟩) am c cm W (E1.out W hW) h1l.out)
  have CV := Lib.hid (fun W (hW : OSt b n w w1 w2 ts g c ms am cm W) => count_any (clks ts) ms (some ⟨g, 0, none⟩) am c cm W (E1.out W hW) h1l.out)
  have CW := Lib.hid (fun W (hW : OSt b n w w1 w2 ts g c ms am cm W) (m2 : List Lmt) (a2 : Option Addr) (c2 : Nat) (h2 : LsOk (clks ts) m2) (s2 : SlOf 3 RLmt W a2 m2) => count_any (clks ts) m2 (some ⟨g, 0, none⟩) a2 c c2 W ⟨hW.clks hge, s2, HO.out.gr hW.gw, CK.out, h2⟩ h1l.out)
  rw [HCL.out] at LV CV CW
  refine (LV.out W5 OS.out).mono ?_
  rintro e w6 ⟨hg6, ⟨⟨s0, hs0, hm0⟩, rfl⟩ | ⟨hno, ac, cc, rfl, hoc⟩⟩
  · have S6 := Lib.hid (OS.out.gr hg6)
    have CP : Hid (cntS (clks ts) ms ≠ 0) := Lib.hid (cntK_some hs0 hm0 (by have := num_bound hs0; omega))
    clear hg6 hs0 hm0 LV OS CW
    obtain ⟨N, hN⟩ : ∃ N : Nat, cntS (clks ts) ms = N := ⟨_, rfl⟩
    rw [hN] at CP
    go_wp2_with fail
    refine (CV.out w6 S6.out).mono ?_
    rintro e w7 ⟨rfl, hg7⟩
    have G7 := Lib.hid (S6.out.gw.trans hg7)
    have q1 : decide (0 < N) = true := decide_eq_true (by have := CP.out; omega)
    rw [hN]
    clear hg7 CV hN
    go_wp2_with fail
    refine (awake17_any w7 (HO.out.gr G7.out)).mono ?_
    rintro e w8 ⟨rfl, hg8⟩
    have G8 := Lib.hid (G7.out.trans hg8)
    clear hg8
    go_wp2_with fail
    go_ret
    exact ⟨rfl, G8.out⟩
  · have S6 := Lib.hid (OS.out.gr hg6)
    have hb64 : (allB (clks ts) ms).length ≤ 64 := by have := allB_len (clks ts) ms; have := HCL.out; omega
    have CO := Lib.hid (core_ok hb64 (by omega) hno)
    have C0 : Hid (cntS (clks ts) ms = 0) := Lib.hid (cntK_none hno HC1.out (Nat.le_refl _))
    have ol := leastGo_len (clks ts) ms ms.length
    obtain ⟨out, hout⟩ : ∃ out, (leastGo (clks ts) ms ms.length).2 = out := ⟨_, rfl⟩
    rw [hout] at CO hoc ol ⊢
    have OC := Lib.hid hoc
    clear hg6 hno hoc hout LV hb64
    go_wp2_with fail
    refine (CV.out w6 S6.out).mono ?_
    rintro e w7 ⟨rfl, hg7⟩
    have S7 := Lib.hid (S6.out.gr hg7)
    have OC7 := Lib.hid (Gr.owns OC.out hg7)
    rw [C0.out]
    clear hg7 CV OC S6 OS
    go_wp2_with fail
    go_loopw [10, 54] (fun s10 s54 wr => ∃ (j : Nat) (aq : Option Addr) (cq : Nat), j ≤ out.length ∧ s54 = .int .i64 (j : Int) ∧ s10 = .slice aq j cq ∧ wr.ownsRow w7.heap.size 53 3 (.slice aq j cq) j ((coreL ms (out.take j)).flatMap encM) ∧ Gr w7 wr) (fun _ s54 _ => out.length - (intOf s54).toNat)
    case atStart => exact ⟨0, none, 0, Nat.zero_le _, rfl, rfl, World.ownsRow_nil _ _ _ _, Gr.refl _⟩
    case round =>
      obtain ⟨j, aq, cq, hjl, rfl, rfl, hoq, hgq⟩ := hrel
      have OQ := Lib.hid hoq
      have GQ := Lib.hid hgq
      clear hoq hgq
      by_cases hlt : j < out.length
      · obtain ⟨go, cap', eo, oc⟩ := owns_num (xs := out) (Gr.owns OC7.out GQ.out) rfl j hlt
        cases eo
        obtain ⟨x0, x1⟩ := CO.out.bnd _ (List.getElem_mem hlt)
        have ex : out.getD j 0 = out[j] := by rw [List.getD_eq_getElem?_getD, List.getElem?_eq_getElem hlt]; rfl
        rw [ex] at oc
        have TK := Lib.hid (coreL_take ms out j hlt)
        have PV : Hid (∀ p, j = p + 1 → ∃ z : Int, wr.cell? ⟨go, p, none⟩ = some (.int .i64 z) ∧ z < out[j]) := Lib.hid (fun p hp => by
          obtain ⟨go', cap'', eo', oc'⟩ := owns_num (xs := out) (Gr.owns OC7.out GQ.out) rfl p (by omega)
          cases eo'
          have hpl : p < out.length := by omega
          have ex' : out.getD p 0 = out[p] := by rw [List.getD_eq_getElem?_getD, List.getElem?_eq_getElem hpl]; rfl
          rw [ex'] at oc'
          exact ⟨_, oc', List.pairwise_iff_getElem.1 CO.out.asc p j hpl hlt (by omega)⟩)
        obtain ⟨x, hx⟩ : ∃ x, out[j] = x := ⟨_, rfl⟩
        rw [hx] at oc x0 x1 TK PV
        obtain ⟨q, rfl⟩ := Int.eq_ofNat_of_zero_le x0
        have hql : q < ms.length := by omega
        have q2 : (q : Int) < ms.length := by omega
        have q3 : decide (ms.length ≤ q) = false := decide_eq_false (by omega)
        have j2 : (j : Int) < out.length := by omega
        have oh := has_of_cell oc
        have sm := (S7.out.gr GQ.out).lm (by omega) LS.out
        obtain ⟨bm, om, eb, ⟨d0, _⟩, ⟨d1, _⟩, ⟨d2, _⟩⟩ := sm q hql
        subst eb
        have mh := has_of_cell d0
        have EL : Hid (ms.getD q ⟨0, 0, 0⟩ = ms[q]) := Lib.hid (by rw [List.getD_eq_getElem?_getD, List.getElem?_eq_getElem hql]; rfl)
        rw [Int.toNat_natCast, EL.out] at TK
        obtain ⟨m0, hm0⟩ : ∃ m0, ms[q] = m0 := ⟨_, rfl⟩
        rw [hm0] at d0 d1 d2 TK
        obtain ⟨mc, mlo, mhi⟩ := m0
        simp only at d0 d1 d2
        obtain ⟨WA, hWA⟩ : ∃ WA : World, Hid (WA = wr.alloc (.cells #[.int .i64 mc, .int .i64 mlo, .int .i64 mhi] 53)) := ⟨_, Lib.hid rfl⟩
        obtain ⟨N9, hN9⟩ : ∃ N9 : Nat, Hid (wr.heap.size = N9) := ⟨_, Lib.hid rfl⟩
        have gA : Hid (Gr wr WA) := Lib.hid (by rw [hWA.out]; exact (Gr.refl _).alloc _)
        have OQa := Lib.hid (Gr.owns OQ.out gA.out)
        have CC : Hid (∀ j u, ([Value.int .i64 mc, .int .i64 mlo, .int .i64 mhi])[j]? = some u → WA.cell? ((⟨N9, 0, none⟩ : Addr).add j) = some u) := Lib.hid (by
          have := row_cells (Row.new wr #[.int .i64 mc, .int .i64 mlo, .int .i64 mhi] 53)
          rw [← hWA.out, hN9.out] at this
          exact this)
        have one : Hid (∀ u ∈ [Value.int .i64 mc, .int .i64 mlo, .int .i64 mhi], u.oneCell' = true) := Lib.hid (by
          intro u hu
          simp only [List.mem_cons, List.not_mem_nil, or_false] at hu
          rcases hu with rfl | rfl | rfl <;> rfl)
        have base : Hid (w7.heap.size ≤ WA.heap.size) := Lib.hid (GQ.out.trans gA.out).size
        clear sm hx hm0 x0 x1 ex
        cases j with
        | zero =>
          clear PV
          go_wp2_with (first
            | (at_builtin; rw [← hWA.out, hN9.out]; refine wpList_append_own _ rfl _ _ 39 rfl w7.heap.size 53 j0 (.agg #[.int .i64 0, .int .i64 0, .int .i64 0]) 3 24 Tryd.underlying39 hj hy0 hy1 hy2 rfl (by decide) (.slice aq 0 cq) 0 ((coreL ms (out.take 0)).flatMap encM) rfl OQa.out ⟨N9, 0, none⟩ 1 1 [.int .i64 mc, .int .i64 mlo, .int .i64 mhi] rfl rfl CC.out one.out (by unfold maxLen; omega) (by omega) base.out ?_; intro v' W9 hown hgrow hnil; obtain ⟨a9, c9, rfl⟩ := owns_slice hown; have O9 := Lib.hid hown; have G9 := Lib.hid ((GQ.out.trans gA.out).grown hgrow (fun k e => (OQa.out.lt k e).1)); clear hown hgrow hnil)
            | fail)
          go_roundw
          case rel =>
            refine ⟨0 + 1, a9, c9, by omega, by go_num, rfl, ?_, G9.out⟩
            rw [TK.out, List.flatMap_append]
            simpa [encM] using O9.out
          case measure => simp [intOf]; omega
        | succ p =>
          obtain ⟨z, pz, hz⟩ := PV.out p rfl
          have q5 : decide ((q : Int) ≤ z) = false := decide_eq_false (by omega)
          have q6 : ((p + 1 : Nat) : Int) - 1 = (p : Int) := by omega
          have p2 : (p : Int) < out.length := by omega
          clear PV
          go_wp2_with (first
            | (at_builtin; rw [← hWA.out, hN9.out]; refine wpList_append_own _ rfl _ _ 39 rfl w7.heap.size 53 j0 (.agg #[.int .i64 0, .int .i64 0, .int .i64 0]) 3 24 Tryd.underlying39 hj hy0 hy1 hy2 rfl (by decide) (.slice aq (p + 1) cq) (p + 1) ((coreL ms (out.take (p + 1))).flatMap encM) rfl OQa.out ⟨N9, 0, none⟩ 1 1 [.int .i64 mc, .int .i64 mlo, .int .i64 mhi] rfl rfl CC.out one.out (by unfold maxLen; omega) (by omega) base.out ?_; intro v' W9 hown hgrow hnil; obtain ⟨a9, c9, rfl⟩ := owns_slice hown; have O9 := Lib.hid hown; have G9 := Lib.hid ((GQ.out.trans gA.out).grown hgrow (fun k e => (OQa.out.lt k e).1)); clear hown hgrow hnil)
            | fail)
          go_roundw
          case rel =>
            refine ⟨p + 1 + 1, a9, c9, by omega, by go_num, rfl, ?_, G9.out⟩
            rw [TK.out, List.flatMap_append]
            simpa [encM] using O9.out
          case measure => simp [intOf]; omega
      · have hj' : j = out.length := by omega
        subst hj'
        obtain ⟨core, hcore⟩ : ∃ core, coreL ms out = core := ⟨_, rfl⟩
        have cl : Hid (core.length = out.length) := Lib.hid (by rw [← hcore, coreL_len])
        have OX : Hid (wr.ownsRow w7.heap.size 53 3 (.slice aq core.length cq) core.length (core.flatMap encM)) := Lib.hid (by
          have := OQ.out
          rw [List.take_length, hcore] at this
          rwa [cl.out])
        have CNONE : Hid (∀ s, SetOk (clks ts) s → meetS (clks ts) core s = false) := Lib.hid (fun s hs => by rw [← hcore]; exact CO.out.none s hs)
        have CEACH : Hid (∀ i, i < core.length → ∃ s, SetOk (clks ts) s ∧ meetS (clks ts) (core.take i ++ core.drop (i + 1)) s = true) := Lib.hid (fun i hi => by rw [← hcore]; exact CO.out.each i (by rw [← cl.out]; exact hi))
        have LC : Hid (∀ m2 : List Lmt, m2.length ≤ 32 → (∀ x ∈ m2, x ∈ core) → LsOk (clks ts) m2) := Lib.hid (fun m2 h32 hm2 => LsOk.of_mem h32 (fun x hx => by
          have := hm2 x hx
          rw [← hcore] at this
          obtain ⟨j, hj, _, rfl⟩ := (coreL_at CO.out.bnd).1 this
          exact LS.out.2 j hj))
        have cle : core.length ≤ 6 := by have := cl.out; omega
        have SLC : Hid (∀ W (m2 : List Lmt) (bs : Nat) (a2 : Option Addr) (c2 : Nat), W.ownsRow bs 53 3 (.slice a2 m2.length c2) m2.length (m2.flatMap encM) → LsOk (clks ts) m2 → SlOf 3 RLmt W a2 m2) := Lib.hid (fun W m2 bs a2 c2 h1 h2 => by
          obtain ⟨_, _, e, sm⟩ := lmts_of_owns h1 (by rw [HCL.out]; omega) h2
          cases e
          exact sm)
        have LCC := Lib.hid (LC.out core (by omega) (fun x hx => hx))
        have SR := Lib.hid (S7.out.gr GQ.out)
        have CC1 := Lib.hid (CW.out wr SR.out core aq cq LCC.out (SLC.out wr core w7.heap.size aq cq OX.out LCC.out))
        have C1 : Hid (cntS (clks ts) core = 0) := Lib.hid (cntK_none CNONE.out HC1.out (Nat.le_refl _))
        rw [C1.out] at CC1
        clear hcore OQ GQ OC7 S7 CO hlt
        rw [← cl.out]
        go_wp2_with fail
        refine CC1.out.mono ?_
        rintro e w8 ⟨rfl, hg8⟩
        have S8 := Lib.hid (SR.out.gr hg8)
        have O8 := Lib.hid (Gr.owns OX.out hg8)
        clear hg8 SR OX CC1
        go_wp2_with fail
        go_loopw [102] (fun s102 wk => ∃ i : Nat, i ≤ core.length ∧ s102 = .int .i64 (i : Int) ∧ Gr w8 wk) (fun s102 _ => core.length - (intOf s102).toNat)
        case atStart => exact ⟨0, Nat.zero_le _, rfl, Gr.refl _⟩
        case round =>
          obtain ⟨i, hik, rfl, hgr⟩ := hrel
          have GR := Lib.hid hgr
          have S9 := Lib.hid (S8.out.gr hgr)
          have O9 := Lib.hid (Gr.owns O8.out hgr)
          clear hgr
          by_cases hik2 : i < core.length
          · obtain ⟨gc, capc, eq, hcc, _, _⟩ := owns_cell O9.out (by omega)
            cases eq
            obtain ⟨s, hs, hsm⟩ := CEACH.out i hik2
            have CN : Hid (cntS (clks ts) (core.take i ++ core.drop (i + 1)) ≠ 0) := Lib.hid (cntK_some hs hsm (by have := num_bound hs; omega))
            have i3 : (i : Int) < core.length := by omega
            clear hs hsm
            go_wp2_with fail
            refine wp_code_eq (c := Code.region 24 (regIn 24 Tryd.f11) true) (by kernel_rfl) (cr24 (core := core) (g := gc) (c := cq) (i := i) O9.out hik2 hcc (by omega) ?_)
            intro t105 t106 t107 t108 t109 t110 t111 t112 t113 t114 wx hgx hox
            obtain ⟨a9, c9, rfl⟩ := owns_slice hox
            have GX := Lib.hid (GR.out.trans hgx)
            have SX := Lib.hid (S9.out.gr hgx)
            obtain ⟨m2, hm2⟩ : ∃ m2, core.take i ++ core.drop (i + 1) = m2 := ⟨_, rfl⟩
            have ml : Hid (m2.length = i + (core.length - (i + 1))) := Lib.hid (by rw [← hm2, List.length_append, List.length_take, List.length_drop]; omega)
            rw [hm2] at CN hox
            have LM2 := Lib.hid (LC.out m2 (by have := ml.out; omega) (fun x hx => by
              rw [← hm2] at hx
              rcases List.mem_append.1 hx with q | q
              · exact List.mem_of_mem_take q
              · exact List.mem_of_mem_drop q))
            have CM := Lib.hid (CW.out wx SX.out m2 a9 c9 LM2.out (SLC.out wx m2 _ a9 c9 (by rw [ml.out]; exact hox) LM2.out))
            rw [ml.out] at CM
            obtain ⟨K, hK⟩ : ∃ K : Nat, cntS (clks ts) m2 = K := ⟨_, rfl⟩
            rw [hK] at CM CN
            have k0 : (((K : Nat) : Int) == 0) = false := by rw [beq_eq_false_iff_ne]; have := CN.out; omega
            have k1 : (K == 0) = false := by rw [beq_eq_false_iff_ne]; exact CN.out
            have k2 : decide (K = 0) = false := decide_eq_false CN.out
            clear hK hm2 hgx hox
            simp only [cr24A]
            go_wp2_with fail
            refine CM.out.mono ?_
            rintro e w12 ⟨rfl, hg12⟩
            have G12 := Lib.hid (GX.out.trans hg12)
            clear hg12 CM
            go_wp2_with fail
            go_roundw
            case rel => exact ⟨i + 1, by omega, by go_num, G12.out⟩
            case measure => simp [intOf]; omega
          · have hi' : i = core.length := by omega
            subst hi'
            go_wp2_with fail
            refine (awake17_any wr (HO.out.gr S9.out.gw)).mono ?_
            rintro e w15 ⟨rfl, hg15⟩
            have G15 := Lib.hid (S9.out.gw.trans hg15)
            clear hg15
            go_wp2_with fail
            go_ret
            exact ⟨rfl, G15.out⟩
end Go.Proofs.YtenehghpmnajpaaDoor
