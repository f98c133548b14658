/- The walk of TuningOrder. -/
import Derived.Test.YtenehghpmnajpaaDoorLwA
import Derived.Test.YtenehghpmnajpaaDoorNwC
set_option linter.unusedVariables false
set_option linter.unusedSimpArgs false
namespace Go.Proofs.YtenehghpmnajpaaDoor
open Go.RowKit
open Classical

/-- The limits in another order. -/
def mixL (ms : List Lmt) (xs : List Int) : List Lmt := xs.map fun x => ms.getD x.toNat ⟨0, 0, 0⟩
theorem mixL_len (ms : List Lmt) (xs : List Int) : (mixL ms xs).length = xs.length := by simp [mixL]
theorem mixL_mem {ms : List Lmt} {xs : List Int} (h : xs.Perm (upI ms.length)) (x : Lmt) : x ∈ mixL ms xs ↔ x ∈ ms := by
  unfold mixL
  rw [List.mem_map]
  constructor
  · rintro ⟨k, hk, rfl⟩
    obtain ⟨h0, h1⟩ := upI_mem ((h.mem_iff).1 hk)
    rw [List.getD_eq_getElem?_getD, List.getElem?_eq_getElem (by omega)]
    exact List.getElem_mem _
  · intro hx
    obtain ⟨j, hj, rfl⟩ := List.mem_iff_getElem.1 hx
    refine ⟨(j : Int), (h.mem_iff).2 ?_, ?_⟩
    · unfold upI; rw [List.mem_map]; exact ⟨j, List.mem_range.2 hj, rfl⟩
    · rw [Int.toNat_natCast, List.getD_eq_getElem?_getD, List.getElem?_eq_getElem hj]; rfl
theorem mixL_take (ms : List Lmt) (xs : List Int) (j : Nat) (h : j < xs.length) : mixL ms (xs.take (j + 1)) = mixL ms (xs.take j) ++ [ms.getD xs[j].toNat ⟨0, 0, 0⟩] := by
  unfold mixL
  rw [take_snoc_get xs j h, List.map_append]; rfl
theorem gets_lims {w : World} {base n c : Nat} {a : Option Addr} {ms : List Lmt} (hn : ms.length = n) (h : w.ownsRow base 53 3 (.slice a n c) n (ms.flatMap encM)) : Gets w a n 3 (ms.flatMap encM) := by
  refine ⟨by rw [flat_len encM 3 (fun _ => rfl), hn], fun h0 => ?_⟩
  obtain ⟨g, e, hc⟩ := own_cells h (by omega)
  exact ⟨_, e, hc⟩
theorem Gets.gr {w w' : World} {a : Option Addr} {m size : Nat} {news : List Value} (h : Gets w a m size news) (hg : Gr w w') : Gets w' a m size news := by
  refine ⟨h.1, fun h0 => ?_⟩
  obtain ⟨ad, e, hc⟩ := h.2 h0
  refine ⟨ad, e, fun j u hu => ?_⟩
  have := hc j u hu
  have ee := addr_of_cell this
  rw [ee] at this ⊢
  exact cell_gr hg this
theorem encMs_one (ms : List Lmt) : ∀ u ∈ ms.flatMap encM, u.oneCell' = true := by
  intro u hu
  obtain ⟨x, _, hx⟩ := List.mem_flatMap.1 hu
  simp only [encM, List.mem_cons, List.not_mem_nil, or_false] at hx
  rcases hx with rfl | rfl | rfl <;> rfl
theorem narrow_meets {l : List Clk} {ms : List Lmt} (hk : 0 < ms.length) {y : Int} (hy : y ≤ ms[0].high) (s : List Int) (h : meetS l (ms.set 0 ⟨ms[0].clock, ms[0].low, y⟩) s = true) : meetS l ms s = true := by
  cases ms with
  | nil => simp at hk
  | cons x r => exact meetS_narrow hy h
theorem lsOk_set {l : List Clk} {ms : List Lmt} (h : LsOk l ms) {k : Nat} (hk : k < ms.length) {y : Int} (h0 : ms[k].low ≤ y) (h1 : y ≤ 4000000000) : LsOk l (ms.set k ⟨ms[k].clock, ms[k].low, y⟩) := by
  refine ⟨by rw [List.length_set]; exact h.1, fun j hj => ?_⟩
  rw [List.length_set] at hj
  rw [List.getElem_set]
  split
  · obtain ⟨q0, q1, q2, _, _⟩ := h.2 k hk
    exact ⟨q0, q1, q2, h0, h1⟩
  · exact h.2 j hj
/-- What stays: the clocks, the limits, the tape. -/
structure OSt (b n : Nat) (w w1 w2 : World) (ts : List CT) (g c : Nat) (ms : List Lmt) (am : Option Addr) (cm : Nat) (W : World) : Prop where
  own : W.ownsRow w1.heap.size 28 5 (.slice (some ⟨g, 0, none⟩) ts.length c) ts.length (ts.flatMap encC)
  rows : ChRows w1.heap.size W ts
  lims : W.ownsRow w2.heap.size 53 3 (.slice am ms.length cm) ms.length (ms.flatMap encM)
  tp : Tp W b n
  gw : Gr w W
section
variable {b n : Nat} {w w1 w2 W W' : World} {ts : List CT} {g c : Nat} {ms : List Lmt} {am : Option Addr} {cm : Nat}
theorem OSt.gr (h : OSt b n w w1 w2 ts g c ms am cm W) (hg : Gr W W') : OSt b n w w1 w2 ts g c ms am cm W' :=
  ⟨Gr.owns h.own hg, fun t ht => (h.rows t ht).gr hg, Gr.owns h.lims hg, h.tp.gr hg, h.gw.trans hg⟩
theorem OSt.mv (h : OSt b n w w1 w2 ts g c ms am cm W) (h1 : b < w1.heap.size) (h2 : b < w2.heap.size) (lb : w.heap.size ≤ b) (m : Mv b n W W') : OSt b n w w1 w2 ts g c ms am cm W' :=
  ⟨m.owns h.own h1, fun t ht => (h.rows t ht).mv m h1, m.owns h.lims h2, m.tp h.tp, Mv.gr_low h.gw lb m⟩
theorem OSt.clks (h : OSt b n w w1 w2 ts g c ms am cm W) (hge : 1 ≤ ts.length) : SlOf 5 RClk W (some ⟨g, 0, none⟩) (clks ts) := by
  obtain ⟨_, _, e, _, sl⟩ := clks_at h.own h.rows (by omega)
  cases e
  exact sl
theorem OSt.lm (h : OSt b n w w1 w2 ts g c ms am cm W) (hl : ts.length ≤ 16) (LS : LsOk (Go.Proofs.YtenehghpmnajpaaDoor.clks ts) ms) : SlOf 3 RLmt W am ms := by
  obtain ⟨_, _, e, sm⟩ := lmts_of_owns h.lims (by rw [clks_len]; exact hl) LS
  cases e
  exact sm
end
set_option maxRecDepth 100000 in
set_option maxHeartbeats 4000000 in
theorem order_walk (a : Option Addr) (len cap : Nat) (zs : List Int) (w : World) (h : RowIn w a len cap zs) (hoff : OffV w) :
    Calls Tryd.prog 8 #[.slice a len cap] w (Grows w (.bool true)) := by
  have H := Lib.hid h
  have HO := Lib.hid hoff
  obtain ⟨j0, hj, hy0, hy1, hy2⟩ := info_parts infoLmt
  clear h hoff
  go_enter Tryd.func8, Tryd.ntmps8
  go_wp2_with fail
  refine (newTape_any w a len cap zs H.out).mono ?_
  rintro e w1 ⟨b, n, rfl, T, hg, hb, _⟩
  have HT : Hid (Tp w1 b n) := Lib.hid ⟨_, T⟩
  have HB := Lib.hid T.has
  have HG := Lib.hid hg
  have LB := Lib.hid hb
  clear T hg hb
  go_wp2_with fail
  refine (clocks_any w1 b n 8 256 HT.out (by omega) (by omega) (by omega) (by omega)).mono ?_
  rintro e w2 ⟨ts, v, rfl, ho, hr, hck, hge, hle, hpr, hm2⟩
  obtain ⟨g, c, rfl, hnc, hbg, _⟩ := owns_cell ho (by omega)
  have T2 := Lib.hid (hm2.tp HT.out)
  have LM := Lib.hid (limits_any w2 b n w1.heap.size 4 c (some ⟨g, 0, none⟩) ts (hm2.tp HT.out) HB.out ho hr hck hge (by omega) (by omega))
  have O2 := Lib.hid ho
  have R2 := Lib.hid hr
  have CK := Lib.hid hck
  have G2 : Hid (Gr w w2) := Lib.hid (Mv.gr_low HG.out LB.out hm2)
  have HCL : Hid ((clks ts).length = ts.length) := Lib.hid (clks_len ts)
  have h1l : Hid (1 ≤ (clks ts).length) := Lib.hid (by rw [HCL.out]; exact hge)
  have zr : Hid (b < w2.heap.size) := Lib.hid (hm2.tp HT.out).has
  clear ho hr hck hpr hm2 hbg hnc
  go_wp2_with fail
  refine LM.out.mono ?_
  rintro e w3 ⟨ms, vm, rfl, hom, hml, hlm, hm3⟩
  have LS : Hid (LsOk (clks ts) ms) := Lib.hid ⟨by omega, hlm⟩
  obtain ⟨am, cm, rfl, _⟩ := lmts_of_owns hom (by rw [HCL.out]; omega) LS.out
  have OM := Lib.hid hom
  have M3 := Lib.hid hm3
  have T3 := Lib.hid (hm3.tp T2.out)
  clear hom hlm hm3 LM
  go_wp2_with fail
  refine (order_any w3 b n ms.length T3.out (by omega)).mono ?_
  rintro e w4 ⟨xs, vo, rfl, hperm, hoo, hm4⟩
  obtain ⟨ao, co, rfl⟩ := owns_slice hoo
  have M4 := Lib.hid (M3.out.trans zr.out hm4)
  have T4 := Lib.hid (hm4.tp T3.out)
  have OM4 := Lib.hid (hm4.owns OM.out zr.out)
  have OO := Lib.hid hoo
  have PM := Lib.hid hperm
  have xl : Hid (xs.length = ms.length) := Lib.hid (by rw [hperm.length_eq]; simp [upI])
  have G4 : Hid (Gr w w4) := Lib.hid (Mv.gr_low G2.out LB.out M4.out)
  clear hperm hoo hm4 OM M3 T3
  go_wp2_with fail
  go_loopw [6, 33] (fun s6 s33 wr => ∃ (j : Nat) (aq : Option Addr) (cq : Nat), j ≤ ms.length ∧ s33 = .int .i64 (j : Int) ∧ s6 = .slice aq j cq ∧ wr.ownsRow w4.heap.size 53 3 (.slice aq j cq) j ((mixL ms (xs.take j)).flatMap encM) ∧ Gr w4 wr) (fun _ s33 _ => ms.length - (intOf s33).toNat)
  case atStart => exact ⟨0, none, 0, Nat.zero_le _, rfl, rfl, World.ownsRow_nil _ _ _ _, Gr.refl _⟩
  case round =>
    obtain ⟨j, aq, cq, hjl, rfl, rfl, hoq, hgq⟩ := hrel
    have OQ := Lib.hid hoq
    have GQ := Lib.hid hgq
    clear hoq hgq
    by_cases hlt : j < ms.length
    · obtain ⟨go, cap', eo, oc⟩ := owns_num (xs := xs) (Gr.owns OO.out GQ.out) xl.out j hlt
      cases eo
      have hjx : j < xs.length := by rw [xl.out]; exact hlt
      obtain ⟨x0, x1⟩ := upI_mem ((PM.out.mem_iff).1 (List.getElem_mem hjx))
      have ex : xs.getD j 0 = xs[j] := by rw [List.getD_eq_getElem?_getD, List.getElem?_eq_getElem hjx]; rfl
      rw [ex] at oc
      have TK := Lib.hid (mixL_take ms xs j hjx)
      obtain ⟨x, hx⟩ : ∃ x, xs[j] = x := ⟨_, rfl⟩
      rw [hx] at oc x0 x1 TK
      obtain ⟨q, rfl⟩ := Int.eq_ofNat_of_zero_le x0
      have hql : q < ms.length := by omega
      have q2 : (q : Int) < ms.length := by omega
      have j2 : (j : Int) < ms.length := by omega
      have oh := has_of_cell oc
      obtain ⟨am', cm', ea, sm⟩ := lmts_of_owns (Gr.owns OM4.out GQ.out) (by rw [HCL.out]; omega) LS.out
      cases ea
      obtain ⟨bm, om, eb, ⟨d0, _⟩, ⟨d1, _⟩, ⟨d2, _⟩⟩ := sm q hql
      subst eb
      have mh := has_of_cell d0
      have EL : Hid (ms.getD q ⟨0, 0, 0⟩ = ms[q]) := Lib.hid (by rw [List.getD_eq_getElem?_getD, List.getElem?_eq_getElem hql]; rfl)
      rw [Int.toNat_natCast, EL.out] at TK
      obtain ⟨m0, hm0⟩ : ∃ m0, ms[q] = m0 := ⟨_, rfl⟩
      rw [hm0] at d0 d1 d2 TK
      obtain ⟨mc, mlo, mhi⟩ := m0
      simp only at d0 d1 d2
      obtain ⟨WA, hWA⟩ : ∃ WA : World, Hid (WA = wr.alloc (.cells #[.int .i64 mc, .int .i64 mlo, .int .i64 mhi] 53)) := ⟨_, Lib.hid rfl⟩
      obtain ⟨N9, hN9⟩ : ∃ N9 : Nat, Hid (wr.heap.size = N9) := ⟨_, Lib.hid rfl⟩
      have gA : Hid (Gr wr WA) := Lib.hid (by rw [hWA.out]; exact (Gr.refl _).alloc _)
      have OQa := Lib.hid (Gr.owns OQ.out gA.out)
      have CC : Hid (∀ j u, ([Value.int .i64 mc, .int .i64 mlo, .int .i64 mhi])[j]? = some u → WA.cell? ((⟨N9, 0, none⟩ : Addr).add j) = some u) := Lib.hid (by
        have := row_cells (Row.new wr #[.int .i64 mc, .int .i64 mlo, .int .i64 mhi] 53)
        rw [← hWA.out, hN9.out] at this
        exact this)
      have one : Hid (∀ u ∈ [Value.int .i64 mc, .int .i64 mlo, .int .i64 mhi], u.oneCell' = true) := Lib.hid (by
        intro u hu
        simp only [List.mem_cons, List.not_mem_nil, or_false] at hu
        rcases hu with rfl | rfl | rfl <;> rfl)
      have base : Hid (w4.heap.size ≤ WA.heap.size) := Lib.hid (GQ.out.trans gA.out).size
      clear sm hx hm0 x0 x1 ex
      go_wp2_with (first
        | (at_builtin; rw [← hWA.out, hN9.out]; refine wpList_append_own _ rfl _ _ 39 rfl w4.heap.size 53 j0 (.agg #[.int .i64 0, .int .i64 0, .int .i64 0]) 3 24 Tryd.underlying39 hj hy0 hy1 hy2 rfl (by decide) (.slice aq j cq) j ((mixL ms (xs.take j)).flatMap encM) rfl OQa.out ⟨N9, 0, none⟩ 1 1 [.int .i64 mc, .int .i64 mlo, .int .i64 mhi] rfl rfl CC.out one.out (by unfold maxLen; omega) (by omega) base.out ?_; intro v' W9 hown hgrow hnil; obtain ⟨a9, c9, rfl⟩ := owns_slice hown; have O9 := Lib.hid hown; have G9 := Lib.hid ((GQ.out.trans gA.out).grown hgrow (fun k e => (OQa.out.lt k e).1)); clear hown hgrow hnil)
        | fail)
      go_roundw
      case rel =>
        refine ⟨j + 1, a9, c9, by omega, by go_num, rfl, ?_, G9.out⟩
        rw [TK.out, List.flatMap_append]
        simpa [encM] using O9.out
      case measure => simp [intOf]; omega
    · have hj' : j = ms.length := by omega
      subst hj'
      have OX : Hid (wr.ownsRow w4.heap.size 53 3 (.slice aq (mixL ms xs).length cq) (mixL ms xs).length ((mixL ms xs).flatMap encM)) := Lib.hid (by
        have := OQ.out
        rw [List.take_of_length_le (by rw [xl.out]; exact Nat.le_refl _)] at this
        rwa [mixL_len, xl.out])
      have EX : Hid ((mixL ms xs).length = ms.length) := Lib.hid (by rw [mixL_len, xl.out])
      obtain ⟨mx, hmx⟩ : ∃ mx, mixL ms xs = mx := ⟨_, rfl⟩
      have SAME : Hid (∀ s, meetS (clks ts) ms s = meetS (clks ts) mx s) := Lib.hid (fun s => meetS_same (fun x => by rw [← hmx]; exact mixL_mem PM.out x) s)
      rw [hmx] at OX EX
      have LX : Hid (LsOk (clks ts) mx) := Lib.hid (LsOk.of_mem (by rw [EX.out]; omega) (fun x hx => LS.out.mem x (by rw [← hmx] at hx; exact (mixL_mem PM.out x).1 hx)))
      have OS : Hid (OSt b n w w1 w2 ts g c ms am cm wr) := Lib.hid ⟨Gr.owns (M4.out.owns O2.out HB.out) GQ.out, fun t ht => ((R2.out t ht).mv M4.out HB.out).gr GQ.out, Gr.owns OM4.out GQ.out, T4.out.gr GQ.out, G4.out.trans GQ.out⟩
      have MX := Lib.hid (lmts_of_owns OX.out (by rw [HCL.out]; omega) LX.out)
      have SX : Hid (SlOf 3 RLmt wr aq mx) := Lib.hid (by
        obtain ⟨_, _, e, sm⟩ := MX.out
        cases e
        exact sm)
      have E1 : Hid (∀ W, OSt b n w w1 w2 ts g c ms am cm W → Env W (clks ts) ms (some ⟨g, 0, none⟩) am) := Lib.hid (fun W hW => ⟨hW.clks hge, hW.lm (by omega) LS.out, HO.out.gr hW.gw, CK.out, LS.out⟩)
      have E2 : Hid (∀ W, Gr wr W → Env W (clks ts) mx (some ⟨g, 0, none⟩) aq) := Lib.hid (fun W hW => ⟨(OS.out.gr hW).clks hge, lmts_gr SX.out hW, HO.out.gr (OS.out.gr hW).gw, CK.out, LX.out⟩)
      have SV1 := Lib.hid (fun W (hW : OSt b n w w1 w2 ts g c ms am cm W) => (solve_any (clks ts) ms (some ⟨g, 0, none⟩) am c cm W (E1.out W hW) h1l.out).mono fun e w' h => solve_out h)
      have SV2 := Lib.hid (fun W (hW : Gr wr W) => (solve_any (clks ts) mx (some ⟨g, 0, none⟩) aq c cq W (E2.out W hW) h1l.out).mono fun e w' h => solve_out h)
      have CV := Lib.hid (fun W (hW : OSt b n w w1 w2 ts g c ms am cm W) => count_any (clks ts) ms (some ⟨g, 0, none⟩) am c cm W (E1.out W hW) h1l.out)
      have CW := Lib.hid (fun W (hW : OSt b n w w1 w2 ts g c ms am cm W) (m2 : List Lmt) (a2 : Option Addr) (c2 : Nat) (h2 : LsOk (clks ts) m2) (s2 : SlOf 3 RLmt W a2 m2) => count_any (clks ts) m2 (some ⟨g, 0, none⟩) a2 c c2 W ⟨hW.clks hge, s2, HO.out.gr hW.gw, CK.out, h2⟩ h1l.out)
      rw [HCL.out] at SV1 SV2 CV CW
      rw [EX.out] at SV2
      clear hmx OX MX SX OQ GQ OM4 M4 T4 G4 OO PM xl O2 R2 HT T2 G2
      go_wp2_with fail
      refine (SV1.out wr OS.out).mono ?_
      rintro e w5 ⟨hg5, av, en, rfl, hso⟩
      have SO := Lib.hid hso
      have G5 := Lib.hid hg5
      clear hso hg5 SV1
      go_wp2_with fail
      refine (SV2.out w5 G5.out).mono ?_
      rintro e w6 ⟨hg6, bv, fn, rfl, hsx⟩
      have SY := Lib.hid hsx
      have SO6 := Lib.hid (SO.out.gr hg6)
      have G6 := Lib.hid (G5.out.trans hg6)
      clear hsx hg6 SV2 SO
      go_wp2_with fail
      refine (CV.out w6 (OS.out.gr G6.out)).mono ?_
      rintro e w7 ⟨rfl, hg7⟩
      have G7 := Lib.hid (G6.out.trans hg7)
      have SO7 := Lib.hid (SO6.out.gr hg7)
      have SY7 := Lib.hid (SY.out.gr hg7)
      obtain ⟨N, hN⟩ : ∃ N : Nat, cntS (clks ts) ms = N := ⟨_, rfl⟩
      have HN := Lib.hid hN
      rw [hN]
      clear hg7 SO6 SY CV hN
      go_upto_region 13 with (fail)
      go_cut [75] (fun s75 wx => s75 = .bool false ∧ Gr w7 wx)
      case first =>
        rcases SO7.out with ⟨rfl, s, B2, c2, hls, rfl, hrs⟩ | ⟨rfl, rfl, hno⟩
        · rcases SY7.out with ⟨rfl, t, B3, c3, hlt, rfl, hrt⟩ | ⟨rfl, rfl, hno⟩
          · have est := hls.unique hlt SAME.out
            subst est
            have W1 : ∀ j (h : j < s.length), Wide s[j] := setOk_wide CK.out hls.1
            have IN : Hid (Calls Tryd.prog 20 #[.slice (some ⟨B2, 0, none⟩) (clks ts).length c2, .slice (some ⟨B3, 0, none⟩) (clks ts).length c3] w7 (Grows w7 (.bool true))) := Lib.hid (by
              have := ints_any s s (some ⟨B2, 0, none⟩) (some ⟨B3, 0, none⟩) c2 c3 w7 (hrs.slI W1) (hrt.slI W1) (by rw [hls.1.1, HCL.out]; unfold Fit; omega) (by rw [hls.1.1, HCL.out]; unfold Fit; omega)
              rw [hls.1.1] at this
              simpa using this)
            clear hls hlt hrs hrt W1
            go_wp2_with fail
            refine IN.out.mono ?_
            rintro e w8 ⟨rfl, hg8⟩
            have G8 := Lib.hid hg8
            clear hg8
            go_wp2_with fail
            go_meet
            exact ⟨rfl, G8.out⟩
          · have := hno s hls.1
            rw [← SAME.out, hls.2.1] at this; cases this
        · rcases SY7.out with ⟨rfl, t, B3, c3, hlt, rfl, hrt⟩ | ⟨rfl, rfl, _⟩
          · have := hno t hlt.1
            rw [SAME.out, hlt.2.1] at this; cases this
          · have IN : Hid (Calls Tryd.prog 20 #[.slice none 0 0, .slice none 0 0] w7 (Grows w7 (.bool true))) := Lib.hid (by
              have := ints_any [] [] none none 0 0 w7 (SlOf.nil _ _ _ _) (SlOf.nil _ _ _ _) (by unfold Fit; simp) (by unfold Fit; simp)
              simpa using this)
            clear hno
            go_wp2_with fail
            refine IN.out.mono ?_
            rintro e w8 ⟨rfl, hg8⟩
            have G8 := Lib.hid hg8
            clear hg8
            go_wp2_with fail
            go_meet
            exact ⟨rfl, G8.out⟩
      case rest =>
        obtain ⟨rfl, hgc⟩ := hcut
        have S7 := Lib.hid ((OS.out.gr G7.out).gr hgc)
        clear hgc SO7 SY7 OS G5 G6 G7
        obtain ⟨NB, hNB⟩ : ∃ NB : Nat, Hid (wc.heap.size = NB) := ⟨_, Lib.hid rfl⟩
        obtain ⟨W8, hW8⟩ : ∃ W8 : World, Hid (W8 = wc.alloc (.cells #[] 53)) := ⟨_, Lib.hid rfl⟩
        have g8 : Hid (Gr wc W8) := Lib.hid (by rw [hW8.out]; exact (Gr.refl _).alloc _)
        have OWB : Hid (W8.ownsRow NB 53 3 (.slice (some ⟨NB, 0, none⟩) 0 0) 0 []) := Lib.hid (by
          rw [hW8.out, ← hNB.out]
          exact World.ownsRow_lit wc #[] 0 (Nat.le_refl _) (by unfold maxLen; omega) (by simp))
        have GT := Lib.hid (gets_lims rfl (S7.out.gr g8.out).lims)
        have base8 : Hid (NB ≤ W8.heap.size) := Lib.hid (by have := g8.out.size; have := hNB.out; omega)
        go_wp2_with (first
          | (at_builtin; rw [← hW8.out, hNB.out]; refine wpList_append_gets _ rfl _ _ 39 rfl NB 53 j0 (.agg #[.int .i64 0, .int .i64 0, .int .i64 0]) 3 24 Tryd.underlying39 hj hy0 hy1 hy2 rfl (by decide) (.slice (some ⟨NB, 0, none⟩) 0 0) 0 [] rfl OWB.out am ms.length cm (ms.flatMap encM) rfl GT.out (encMs_one ms) (by unfold maxLen; omega) (by omega) base8.out ?_; intro v' W9 hown hgrow _; rw [Nat.zero_add, List.nil_append] at hown; obtain ⟨a9, c9, rfl⟩ := owns_slice hown; have O9 := Lib.hid hown; have g9 := Lib.hid (g8.out.grown hgrow (fun k e => (OWB.out.lt k e).1 |> fun h => by rw [hNB.out]; exact h)); clear hown hgrow)
          | fail)
        have S9 := Lib.hid (S7.out.gr g9.out)
        have LM9 := Lib.hid (limits_any W9 b n w1.heap.size 1 c (some ⟨g, 0, none⟩) ts S9.out.tp HB.out S9.out.own S9.out.rows CK.out hge (by omega) (by omega))
        have bnb : Hid (b < NB) := Lib.hid (by have := S7.out.tp.has; have := hNB.out; omega)
        clear hW8 OWB GT base8 g8
        refine LM9.out.mono ?_
        rintro e w10 ⟨m2, v2, rfl, ho2, hl2, hk2, hm10⟩
        obtain ⟨a2, c2, rfl⟩ := owns_slice ho2
        have S10 := Lib.hid (S9.out.mv HB.out zr.out LB.out hm10)
        have O10 := Lib.hid (hm10.owns O9.out bnb.out)
        have O2' := Lib.hid ho2
        have GT2 := Lib.hid (gets_lims rfl ho2)
        have K2 := Lib.hid hk2
        have base10 : Hid (NB ≤ w10.heap.size) := Lib.hid (by have := hm10.size; have := g9.out.size; have := hNB.out; omega)
        have MW10 := Lib.hid ((Mv.of_gr S7.out.tp g9.out).trans S7.out.tp.has hm10)
        clear ho2 hm10 hk2 O9 S9 LM9 g9
        go_wp2_with (first
          | (at_builtin; refine wpList_append_gets _ rfl _ _ 39 rfl NB 53 j0 (.agg #[.int .i64 0, .int .i64 0, .int .i64 0]) 3 24 Tryd.underlying39 hj hy0 hy1 hy2 rfl (by decide) (.slice a9 ms.length c9) ms.length (ms.flatMap encM) rfl O10.out a2 m2.length c2 (m2.flatMap encM) rfl GT2.out (encMs_one m2) (by unfold maxLen; omega) (by omega) base10.out ?_; intro v' W11 hown hgrow _; obtain ⟨a11, c11, rfl⟩ := owns_slice hown; have O11 := Lib.hid hown; have g11 := Lib.hid hgrow; clear hown hgrow)
          | fail)
        have MW11 := Lib.hid (MW10.out.grown g11.out (fun k e => by rw [hNB.out]; exact (O10.out.lt k e).1))
        have S11 := Lib.hid (S7.out.mv HB.out zr.out LB.out MW11.out)
        have LM : Hid (LsOk (clks ts) (ms ++ m2)) := Lib.hid (LsOk.of_mem (by rw [List.length_append]; omega) (fun x hx => by
          rcases List.mem_append.1 hx with q | q
          · exact LS.out.mem x q
          · obtain ⟨j, hj, rfl⟩ := List.mem_iff_getElem.1 q
            exact K2.out j hj))
        have SM : Hid (SlOf 3 RLmt W11 a11 (ms ++ m2)) := Lib.hid (by
          have h1 := O11.out
          rw [← List.flatMap_append, ← List.length_append] at h1
          obtain ⟨_, _, e, sm⟩ := lmts_of_owns h1 (by rw [HCL.out]; omega) LM.out
          cases e
          exact sm)
        have CM := Lib.hid (CW.out W11 S11.out (ms ++ m2) a11 c11 LM.out SM.out)
        rw [List.length_append] at CM
        obtain ⟨K, hK⟩ : ∃ K : Nat, cntS (clks ts) (ms ++ m2) = K := ⟨_, rfl⟩
        rw [hK] at CM
        have KN : decide (N < K) = false := decide_eq_false (by
          have := cntS_mono (l := clks ts) (ms := ms) (ms' := ms ++ m2) (fun s h => meetS_sub (fun x hx => List.mem_append_left _ hx) h)
          have := HN.out
          omega)
        clear hK MW10 MW11 g11 O10 O11 S10 base10 GT2 O2' K2
        refine CM.out.mono ?_
        rintro e w12 ⟨rfl, hg12⟩
        have S12 := Lib.hid (S11.out.gr hg12)
        clear hg12 S11 CM SM LM S7 hNB
        by_cases hl0 : 0 < ms.length
        · have q2 : decide (0 < ms.length) = true := decide_eq_true hl0
          obtain ⟨NB, hNB⟩ : ∃ NB : Nat, Hid (w12.heap.size = NB) := ⟨_, Lib.hid rfl⟩
          obtain ⟨W8, hW8⟩ : ∃ W8 : World, Hid (W8 = w12.alloc (.cells #[] 53)) := ⟨_, Lib.hid rfl⟩
          have g8 : Hid (Gr w12 W8) := Lib.hid (by rw [hW8.out]; exact (Gr.refl _).alloc _)
          have OWB : Hid (W8.ownsRow NB 53 3 (.slice (some ⟨NB, 0, none⟩) 0 0) 0 []) := Lib.hid (by
            rw [hW8.out, ← hNB.out]
            exact World.ownsRow_lit w12 #[] 0 (Nat.le_refl _) (by unfold maxLen; omega) (by simp))
          have GT := Lib.hid (gets_lims rfl (S12.out.gr g8.out).lims)
          have base8 : Hid (NB ≤ W8.heap.size) := Lib.hid (by have := g8.out.size; have := hNB.out; omega)
          go_wp2_with (first
            | (at_builtin; rw [← hW8.out, hNB.out]; refine wpList_append_gets _ rfl _ _ 39 rfl NB 53 j0 (.agg #[.int .i64 0, .int .i64 0, .int .i64 0]) 3 24 Tryd.underlying39 hj hy0 hy1 hy2 rfl (by decide) (.slice (some ⟨NB, 0, none⟩) 0 0) 0 [] rfl OWB.out am ms.length cm (ms.flatMap encM) rfl GT.out (encMs_one ms) (by unfold maxLen; omega) (by omega) base8.out ?_; intro v' W9 hown hgrow _; rw [Nat.zero_add, List.nil_append] at hown; obtain ⟨a9, c9, rfl⟩ := owns_slice hown; have O9 := Lib.hid hown; have g9 := Lib.hid (g8.out.grown hgrow (fun k e => (OWB.out.lt k e).1 |> fun h => by rw [hNB.out]; exact h)); clear hown hgrow)
            | fail)
          have S9 := Lib.hid (S12.out.gr g9.out)
          obtain ⟨gm, cm', ea, _, hgm, _⟩ := owns_cell O9.out (by omega)
          cases ea
          obtain ⟨_, _, u0, u1, u2⟩ := LS.out.2 0 hl0
          have tpl := Lib.hid (Mv.of_gr S12.out.tp g9.out)
          have i0' : (0 : Int) < ms.length := by omega
          have bnb : Hid (b < NB) := Lib.hid (by have := S12.out.tp.has; have := hNB.out; omega)
          refine wp_code_eq (c := Code.region 21 (regIn 21 Tryd.f8) true) (by kernel_rfl) (nw21 (wb := w12) (wr := W9) (base := NB) (n := n) (lo := ms[0].low) (hi := ms[0].high) (b := b) (ms := ms) (gm := gm) (cm := c9) (k := 0) (hk := hl0) S12.out.tp (by have := bnb.out; have := hNB.out; omega) bnb.out (by have := hNB.out; omega) tpl.out O9.out rfl rfl u0 u1 u2 i0' rfl i0' hl0 ?_)
          intro t102 t103 t104 t105 t106 t107 t108 t109 t110 t111 t112 t113 t114 t115 t116 w13 y y0 y1 hm13 ho13
          have S13 := Lib.hid (S12.out.mv HB.out zr.out LB.out hm13)
          have O13 := Lib.hid ho13
          have LN := Lib.hid (lsOk_set LS.out hl0 y0 (by omega))
          have NM := Lib.hid (narrow_meets (l := clks ts) hl0 y1)
          simp only [nw21A]
          clear hm13 ho13 hW8 OWB GT base8 g8 O9 g9 S9 tpl u0 u1 u2
          obtain ⟨mn, hmn⟩ : ∃ mn, ms.set 0 ⟨ms[0].clock, ms[0].low, y⟩ = mn := ⟨_, rfl⟩
          have LEN : Hid (mn.length = ms.length) := Lib.hid (by rw [← hmn, List.length_set])
          rw [hmn] at O13 LN NM
          have SN : Hid (SlOf 3 RLmt w13 (some ⟨gm, 0, none⟩) mn) := Lib.hid (by
            have h1 := O13.out
            rw [← LEN.out] at h1
            obtain ⟨_, _, e, sm⟩ := lmts_of_owns h1 (by rw [HCL.out]; omega) LN.out
            cases e
            exact sm)
          have CN := Lib.hid (CW.out w13 S13.out mn (some ⟨gm, 0, none⟩) c9 LN.out SN.out)
          rw [LEN.out] at CN
          obtain ⟨K2, hK2⟩ : ∃ K2 : Nat, cntS (clks ts) mn = K2 := ⟨_, rfl⟩
          rw [hK2] at CN
          have KN2 : decide (N < K2) = false := decide_eq_false (by
            have := cntS_mono (l := clks ts) (ms := ms) (ms' := mn) NM.out
            have := HN.out
            omega)
          clear hK2 hmn
          go_wp2_with fail
          refine CN.out.mono ?_
          rintro e w14 ⟨rfl, hg14⟩
          have G14 := Lib.hid (S13.out.gw.trans hg14)
          clear hg14 CN
          go_wp2_with fail
          refine (awake17_any w14 (HO.out.gr G14.out)).mono ?_
          rintro e w15 ⟨rfl, hg15⟩
          have G15 := Lib.hid (G14.out.trans hg15)
          clear hg15
          go_wp2_with fail
          go_ret
          exact ⟨rfl, G15.out⟩
        · have q2 : decide (0 < ms.length) = false := decide_eq_false hl0
          go_wp2_with fail
          refine (awake17_any w12 (HO.out.gr S12.out.gw)).mono ?_
          rintro e w15 ⟨rfl, hg15⟩
          have G15 := Lib.hid (S12.out.gw.trans hg15)
          clear hg15
          go_wp2_with fail
          go_ret
          exact ⟨rfl, G15.out⟩
end Go.Proofs.YtenehghpmnajpaaDoor
