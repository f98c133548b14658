/- The walk of ManagedExact (printed by wip/tools/exact.py). -/
import Derived.Test.YthpgoldahffbcaaHeD
import Derived.Deep.RegionHeld3
import Derived.Test.YthpgoldahffbcaaHdM
import Derived.Test.YthpgoldahffbcaaHdZ
set_option linter.unusedVariables false
set_option linter.unusedSimpArgs false
namespace Go.Proofs.Ythpgoldahffbcaa
open Go.RowKit
theorem RowIn.gr {w w' : World} {a : Option Addr} {len cap : Nat} {zs : List Int} (h : RowIn w a len cap zs) (hg : Gr w w') : RowIn w' a len cap zs := by
  rcases h with h | ⟨x, h0, h1, h2, h3, h4, h5⟩
  · exact .inl h
  · exact .inr ⟨x, h0, h1, h2, h3, fun i hi => cell_gr hg (h4 i hi), h5⟩
theorem Own1.setH {base : Nat} {w : World} {l : List Hld} {g : Nat} (h : Own1 base w 34 (encHs l) (some ⟨g, 0, none⟩)) (k : Nat) (hk : k < l.length) (x : Hld) : Own1 base (Ythpgoldahffbcaa.setH w g k x) 34 (encHs (l.set k x)) (some ⟨g, 0, none⟩) := by
  have hne : 0 < (encHs l).length := by rw [encHs_len]; omega
  obtain ⟨g', e, hb, rest, row⟩ := h.at hne
  cases e
  exact .inr ⟨g, rfl, hb, rest, row.setH k hk x⟩
theorem same_r (l : List Hld) (ao bo : Option Addr) (ca cb : Nat) (w : World) (ha : SlOf 3 RHld w ao l.reverse) (hb : SlOf 3 RHld w bo l.reverse) (fa : Fit l.length) :
    Calls Try.prog 13 #[.slice ao l.length ca, .slice bo l.length cb] w (Grows w (.bool true)) := by
  have := same_yes l.reverse ao bo ca cb w ha hb (by rw [List.length_reverse]; exact fa)
  rwa [List.length_reverse] at this
theorem ints_gr {w w' : World} {ao : Option Addr} {xs : List Int} (h : SlOf 1 RI w ao xs) (hg : Gr w w') : SlOf 1 RI w' ao xs := h.gr RI.mono hg
theorem takeP_wide {L : List Hld} {z : Hld} (h : HsWide L) (hz : HWide z) : HsWide (takeP L z) := HsWide.of_mem fun y hy => by
  unfold takeP at hy
  split at hy
  · rcases List.mem_append.1 hy with q | q
    · exact h.mem q
    · rw [List.mem_singleton.1 q]; exact hz
  · simp at hy
theorem takeP_len (L : List Hld) (z : Hld) : (takeP L z).length ≤ L.length + 1 := by
  unfold takeP
  split <;> simp
theorem dropP_mem {L : List Hld} {z y : Hld} (h : y ∈ dropP L z) : y ∈ L := by
  unfold dropP at h
  split at h
  · split at h
    · simp at h
    · rcases List.mem_append.1 h with q | q
      · exact List.mem_of_mem_take q
      · exact List.mem_of_mem_drop q
  · simp at h
theorem dropP_wide {L : List Hld} {z : Hld} (h : HsWide L) : HsWide (dropP L z) := HsWide.of_mem fun y hy => h.mem (dropP_mem hy)
theorem dropP_len (L : List Hld) (z : Hld) : (dropP L z).length ≤ L.length := by
  unfold dropP
  split
  · split
    · simp
    · rw [List.length_append, List.length_take, List.length_drop]; omega
  · simp
theorem ints_yes (a : List Int) (ao bo : Option Addr) (ca cb : Nat) (w : World) (ha : SlOf 1 RI w ao a) (hb : SlOf 1 RI w bo a) (fa : Fit a.length) :
    Calls Try.prog 24 #[.slice ao a.length ca, .slice bo a.length cb] w (Grows w (.bool true)) := by
  have := ints_any a a ao bo ca cb w ha hb fa fa
  rwa [show decide (a = a) = true by simp] at this
set_option maxRecDepth 100000 in
set_option maxHeartbeats 60000000 in
theorem exact_walk (a : Option Addr) (len cap : Nat) (zs : List Int) (ra : Option Addr) (raw : List Hld) (rc : Nat) (x : Hld) (dv un : Int) (w : World) (h : RowIn w a len cap zs) (hr : SlOf 3 RHld w ra raw) (hrc : raw.length ≤ rc) (hx : HWide x) :
    Calls Try.prog 5 #[.slice a len cap, .slice ra raw.length rc, .agg #[.int .i64 x.device, .int .i64 x.kind, .int .i64 x.unit], .int .i64 dv, .int .i64 un] w (Grows w (.bool true)) := by
  have H := Lib.hid h
  have HR := Lib.hid hr
  have XW := Lib.hid hx
  clear h hr hx
  obtain ⟨i0, hi, hz0, hz1, hz2⟩ := info_parts infoHld
  by_cases hbig : 200 < len
  · have q1 : decide ((200 : Int) < len) = true := by simp; omega
    have q2 : decide (200 < len) = true := by simpa using hbig
    clear hbig
    go_enter Try.func5, Try.ntmps5
    go_wp2_with fail
    refine (sane_any _).mono ?_
    rintro e W3 ⟨rfl, hg3⟩
    have G3 := Lib.hid hg3
    clear hg3
    go_wp2_with fail
    go_ret
    exact ⟨rfl, ((Gr.refl _).alloc _).trans G3.out⟩
  have q1 : decide ((200 : Int) < len) = false := by simp; omega
  have q2 : decide (200 < len) = false := by simpa using hbig
  clear hbig
  by_cases hbig : 110 < raw.length
  · have q3 : decide ((110 : Int) < raw.length) = true := by simp; omega
    have q4 : decide (110 < raw.length) = true := by simpa using hbig
    clear hbig
    go_enter Try.func5, Try.ntmps5
    go_wp2_with fail
    refine (sane_any _).mono ?_
    rintro e W3 ⟨rfl, hg3⟩
    have G3 := Lib.hid hg3
    clear hg3
    go_wp2_with fail
    go_ret
    exact ⟨rfl, ((Gr.refl _).alloc _).trans G3.out⟩
  have q3 : decide ((110 : Int) < raw.length) = false := by simp; omega
  have q4 : decide (110 < raw.length) = false := by simpa using hbig
  have hraw : raw.length ≤ 110 := by omega
  clear hbig
  go_enter Try.func5, Try.ntmps5
  go_wp2_with fail
  clear q1 q2 q3 q4
  obtain ⟨Wa, hWa⟩ : ∃ Wa : World, Hid (Wa = w.alloc (.cells #[.int .i64 x.device, .int .i64 x.kind, .int .i64 x.unit] 34)) := ⟨_, Lib.hid rfl⟩
  have Ga : Hid (Gr w Wa) := Lib.hid (by rw [hWa.out]; exact (Gr.refl _).alloc _)
  have Ra : Hid (Row Wa w.heap.size 34 [.int .i64 x.device, .int .i64 x.kind, .int .i64 x.unit]) := Lib.hid (by rw [hWa.out]; exact Row.new w _ _)
  rw [← hWa.out]
  clear hWa
  refine (newTape_any Wa a len cap zs (H.out.gr Ga.out)).mono ?_
  rintro e W0 ⟨b, nn, rfl, ht, hg, hb, _⟩
  have T0 : Hid (Tp W0 b nn) := Lib.hid ⟨_, ht⟩
  have G0 := Lib.hid (Ga.out.trans hg)
  have R0 := Lib.hid (Ra.out.gr hg)
  have wb : Hid (w.heap.size < b) := Lib.hid (Nat.lt_of_lt_of_le Ra.out.has hb)
  have bs : Hid (b < W0.heap.size) := Lib.hid T0.out.has
  clear ht hg hb Ra Ga
  go_wp2_with fail
  refine (holds_any W0 b nn T0.out).mono ?_
  rintro e W1 ⟨l, v, rfl, ho, hr, hl9, hsm, hm⟩
  have T1 := Lib.hid (hm.tp T0.out)
  have WL := Lib.hid (smalls_wide hsm)
  have G1 := Lib.hid (Mv.out G0.out hm (Nat.le_of_lt wb.out))
  have R1 := Lib.hid (hm.row R0.out (by have := wb.out; omega))
  have bs1 : Hid (b < W1.heap.size) := Lib.hid T1.out.has
  obtain ⟨al, cl, rfl, hcl, hown⟩ := owns_ownN ho
  have OL := Lib.hid hown
  clear ho hr hsm hm hown T0 G0 R0
  go_upto_if 54 with (at_builtin; refine wpList_append_gets _ rfl _ _ 24 rfl W1.heap.size 34 i0 (.agg #[.int .i64 0, .int .i64 0, .int .i64 0]) 3 24 Try.underlying24 hi hz0 hz1 hz2 rfl (by decide) _ 0 [] rfl (owns_nil _ _ _ _) al l.length cl (encHs l) rfl (gets_sl (OL.out.slH WL.out)) (encHs_one l) (by unfold maxLen; omega) (by omega) (by omega) ?_; intro v2 W2 hown2 hgrow hnil; rw [Nat.zero_add, List.nil_append] at hown2; obtain ⟨am, cm, rfl, hcm, hownm⟩ := owns_ownN hown2)
  have M2 : Hid (Mv b nn W1 W2) := Lib.hid (Mv.of_gr T1.out ((Gr.refl _).grown hgrow (fun k e => by cases e)))
  have T2 := Lib.hid (M2.out.tp T1.out)
  have OM2 := Lib.hid hownm
  clear hown2 hgrow hnil hownm
  go_cut [] (fun wx => ∃ m : List Hld, m.length = l.length ∧ HsWide m ∧ Mv b nn W1 wx ∧ Own1 W1.heap.size wx 34 (encHs m) am)
  case first =>
    by_cases hl0 : 0 < l.length
    · have q1 : decide ((0 : Int) < l.length) = true := by simp; omega
      have q2 : decide (0 < l.length) = true := by simpa using hl0
      go_wp2_with fail
      refine (nM_any W2 b nn l.length T2.out (by omega) (by omega)).mono ?_
      rintro e W3 ⟨iz, rfl, hin, hm⟩
      have M3 : Hid (Mv b nn W1 W3) := Lib.hid (M2.out.trans bs1.out hm)
      have T3 := Lib.hid (hm.tp T2.out)
      have OM3 := Lib.hid (hm.own1 OM2.out bs1.out)
      obtain ⟨i1, i2⟩ := hin
      clear hm M2 T2 OM2
      obtain ⟨i, rfl⟩ : ∃ i : Nat, iz = (i : Int) := ⟨iz.toNat, by omega⟩
      have i3 : i < l.length := by omega
      go_wp2_with fail
      refine (rangeM_any W3 b nn (-1) 12 T3.out (by omega) (by omega) (by omega)).mono ?_
      rintro e W4 ⟨y0, rfl, hin, hm⟩
      have M4 : Hid (Mv b nn W1 W4) := Lib.hid (M3.out.trans bs1.out hm)
      have T4 := Lib.hid (hm.tp T3.out)
      have OM4 := Lib.hid (hm.own1 OM3.out bs1.out)
      obtain ⟨y1, y2⟩ := hin
      clear hm M3 T3 OM3
      go_wp2_with fail
      refine (nM_any W4 b nn 4 T4.out (by omega) (by omega)).mono ?_
      rintro e W5 ⟨y3, rfl, hin, hm⟩
      have M5 : Hid (Mv b nn W1 W5) := Lib.hid (M4.out.trans bs1.out hm)
      have T5 := Lib.hid (hm.tp T4.out)
      have OM5 := Lib.hid (hm.own1 OM4.out bs1.out)
      obtain ⟨y4, y5⟩ := hin
      clear hm M4 T4 OM4
      go_wp2_with fail
      refine (rangeM_any W5 b nn (-1) 6 T5.out (by omega) (by omega) (by omega)).mono ?_
      rintro e W6 ⟨y6, rfl, hin, hm⟩
      have M6 : Hid (Mv b nn W1 W6) := Lib.hid (M5.out.trans bs1.out hm)
      have T6 := Lib.hid (hm.tp T5.out)
      have OM6 := Lib.hid (hm.own1 OM5.out bs1.out)
      obtain ⟨y7, y8⟩ := hin
      clear hm M5 T5 OM5
      have YW : Hid (HWide ⟨y0, y3, y6⟩) := Lib.hid (by unfold HWide Wide; simp only; omega)
      obtain ⟨g, rfl, gb, rest, row⟩ := OM6.out.at (by rw [encHs_len]; omega)
      obtain ⟨g', o', e', ⟨c0, -⟩, ⟨c1, -⟩, ⟨c2, -⟩⟩ := (OM6.out.slH WL.out) i i3
      cases e'
      simp only [Nat.zero_add] at c0 c1 c2
      have gh := has_of_cell c0
      have f0 := row.free (i * 3)
      have f1 := row.free (i * 3 + 1)
      have f2 := row.free (i * 3 + 2)
      have i4 : (i : Int) < l.length := by omega
      go_wp2_with fail
      go_meet
      refine ⟨l.set i ⟨y0, y3, y6⟩, by rw [List.length_set], HsWide.of_mem fun z hz => ?_, ((M6.out.setc gb).setc gb).setc gb, OM6.out.setH i i3 ⟨y0, y3, y6⟩⟩
      rcases List.mem_or_eq_of_mem_set hz with q | q
      · exact WL.out.mem q
      · rw [q]; exact YW.out
    · have q1 : decide ((0 : Int) < l.length) = false := decide_eq_false (by omega)
      have q2 : decide (0 < l.length) = false := by simpa using hl0
      go_wp2_with fail
      go_meet
      exact ⟨l, rfl, WL.out, M2.out, OM2.out⟩
  obtain ⟨m, hml, hwm, hmb, hob⟩ := hcut
  obtain ⟨WB, rfl⟩ : ∃ WB : World, WB = wc := ⟨_, rfl⟩
  have WM := Lib.hid hwm
  have MB := Lib.hid hmb
  have OMB := Lib.hid hob
  clear hwm hmb hob OM2 M2 T2
  have TB := Lib.hid (MB.out.tp T1.out)
  have bsB : Hid (b < WB.heap.size) := Lib.hid TB.out.has
  have KB : Hid (∀ W', Mv b nn WB W' → Row W' w.heap.size 34 [.int .i64 x.device, .int .i64 x.kind, .int .i64 x.unit]) := Lib.hid fun W' M => (MB.out.trans bs1.out M).row R1.out (by have := wb.out; omega)
  have KG : Hid (∀ W', Mv b nn WB W' → Gr w W') := Lib.hid fun W' M => Mv.out G1.out (MB.out.trans bs1.out M) (Nat.le_of_lt wb.out)
  have K0 : Hid (∀ W', Mv b nn WB W' → SlOf 3 RHld W' al l) := Lib.hid fun W' M => ((MB.out.trans bs1.out M).own1 OL.out bs.out).slH WL.out
  have K1 : Hid (∀ W', Mv b nn WB W' → SlOf 3 RHld W' am m) := Lib.hid fun W' M => (M.own1 OMB.out bs1.out).slH WM.out
  have K2 : Hid (∀ W', Mv b nn WB W' → SlOf 3 RHld W' ra raw) := Lib.hid fun W' M => hlds_gr HR.out (KG.out W' M)
  clear MB OMB OL R1 T1 G1 HR
  go_wp2_with fail
  go_loopw [72] (fun i wr => ∃ k : Nat, k ≤ 3 ∧ i = .int .i64 k ∧ Mv b nn WB wr) (fun i _ => 3 - (intOf i).toNat)
  case atStart => exact ⟨0, Nat.zero_le _, rfl, Mv.refl TB.out⟩
  case round =>
    obtain ⟨k, hk, rfl, hm⟩ := hrel
    have M := Lib.hid hm
    clear hm
    by_cases hlt : k < 3
    · have k1 : (k : Int) < 3 := by omega
      obtain ⟨L, aL, cL, hix, hKL, hLc, hLl⟩ : ∃ (L : List Hld) (aL : Option Addr) (cL : Nat), (∀ W : World, Sem.run Try.prog (Instr.index 42 (.agg #[.slice al l.length cl, .slice am l.length cm, .slice ra raw.length rc]) (.int .i64 k)) W = .ok (.slice aL L.length cL) W) ∧ (∀ W', Mv b nn WB W' → SlOf 3 RHld W' aL L) ∧ L.length ≤ cL ∧ L.length ≤ 110 := by
        obtain rfl | rfl | rfl : k = 0 ∨ k = 1 ∨ k = 2 := by omega
        · exact ⟨l, al, cl, fun _ => by simp [Instr.index, go_sem], K0.out, hcl, by omega⟩
        · exact ⟨m, am, cm, fun _ => by rw [hml]; simp [Instr.index, go_sem], K1.out, by omega, by omega⟩
        · exact ⟨raw, ra, rc, fun _ => by simp [Instr.index, go_sem], K2.out, hrc, hraw⟩
      have KL := Lib.hid hKL
      have LW := Lib.hid (sl_wide (KL.out _ M.out))
      clear hKL
      go_wp2_with fail
      clear hix
      refine (valid_any L aL cL _ (KL.out _ M.out) (by unfold Fit; omega) hLc).mono ?_
      rintro e Y1 ⟨rfl, hg⟩
      have M := Lib.hid (M.out.gr hg)
      clear hg
      go_wp2_with fail
      refine (refValid_any L aL cL _ (KL.out _ M.out) (by unfold Fit; omega) hLc).mono ?_
      rintro e Y2 ⟨rfl, hg⟩
      have M := Lib.hid (M.out.gr hg)
      clear hg
      have RZ := Lib.hid (KB.out _ M.out)
      have z0 := RZ.out.cell 0 (by simp)
      have z1 := RZ.out.cell 1 (by simp)
      have z2 := RZ.out.cell 2 (by simp)
      have zh := RZ.out.has
      simp only [List.getElem_cons_zero, List.getElem_cons_succ] at z0 z1 z2
      go_wp2_with fail
      go_cut [90, 91] (fun v i wx => ∃ h2 h3 : Hld, v = .agg #[.int .i64 x.device, .int .i64 x.kind, .int .i64 x.unit, .int .i64 h2.device, .int .i64 h2.kind, .int .i64 h2.unit, .int .i64 h3.device, .int .i64 h3.kind, .int .i64 h3.unit] ∧ i = .int .i64 0 ∧ HWide h2 ∧ HWide h3 ∧ Mv b nn WB wx)
      case first =>
        go_region_held3 (fun w' : World => w'.cell? ⟨w.heap.size, 0, none⟩ = some (.int .i64 x.device) ∧ w'.cell? ⟨w.heap.size, 1, none⟩ = some (.int .i64 x.kind) ∧ w'.cell? ⟨w.heap.size, 2, none⟩ = some (.int .i64 x.unit) ∧ w.heap.size < w'.heap.size) (first | exact ⟨z0, z1, z2, zh⟩ | (simp only [World.drew_cell?]; exact ⟨z0, z1, z2, zh⟩) | exact ⟨z0, z1, z2, by simpa using zh⟩ | (refine ⟨?_, ?_, ?_, ?_⟩ <;> simp [*])) (first
          | (go_at_call 18; refine (hold_any _ b nn ((M.out.gr (by repeat (first | with_reducible exact Gr.refl _ | with_reducible refine Gr.drew ?_ | with_reducible refine Gr.alloc _ ?_))).tp TB.out)).mono ?_; rintro e w2 ⟨h2, rfl, hs2, hm⟩; have M := Lib.hid ((M.out.gr (by repeat (first | with_reducible exact Gr.refl _ | with_reducible refine Gr.drew ?_ | with_reducible refine Gr.alloc _ ?_))).trans bsB.out hm); have H2 := Lib.hid hs2.wide; clear hm hs2; clear RZ z0 z1 z2 zh; have RZ := Lib.hid (KB.out _ M.out); have z0 := RZ.out.cell 0 (by simp); have z1 := RZ.out.cell 1 (by simp); have z2 := RZ.out.cell 2 (by simp); have zh := RZ.out.has; simp only [List.getElem_cons_zero, List.getElem_cons_succ] at z0 z1 z2)
          | (have hq := P2; clear hq; go_at_call 16; refine (nM_any _ b nn _ ((M.out.gr (by repeat (first | with_reducible exact Gr.refl _ | with_reducible refine Gr.drew ?_ | with_reducible refine Gr.alloc _ ?_))).tp TB.out) (by omega) (by omega)).mono ?_; rintro e w2 ⟨p3, rfl, hp3, hm⟩; have M := Lib.hid ((M.out.gr (by repeat (first | with_reducible exact Gr.refl _ | with_reducible refine Gr.drew ?_ | with_reducible refine Gr.alloc _ ?_))).trans bsB.out hm); have P3 := Lib.hid hp3; clear hm hp3; clear RZ z0 z1 z2 zh; have RZ := Lib.hid (KB.out _ M.out); have z0 := RZ.out.cell 0 (by simp); have z1 := RZ.out.cell 1 (by simp); have z2 := RZ.out.cell 2 (by simp); have zh := RZ.out.has; simp only [List.getElem_cons_zero, List.getElem_cons_succ] at z0 z1 z2)
          | (have hq := P1; clear hq; go_at_call 16; refine (nM_any _ b nn _ ((M.out.gr (by repeat (first | with_reducible exact Gr.refl _ | with_reducible refine Gr.drew ?_ | with_reducible refine Gr.alloc _ ?_))).tp TB.out) (by omega) (by omega)).mono ?_; rintro e w2 ⟨p2, rfl, hp2, hm⟩; have M := Lib.hid ((M.out.gr (by repeat (first | with_reducible exact Gr.refl _ | with_reducible refine Gr.drew ?_ | with_reducible refine Gr.alloc _ ?_))).trans bsB.out hm); have P2 := Lib.hid hp2; clear hm hp2; clear RZ z0 z1 z2 zh; have RZ := Lib.hid (KB.out _ M.out); have z0 := RZ.out.cell 0 (by simp); have z1 := RZ.out.cell 1 (by simp); have z2 := RZ.out.cell 2 (by simp); have zh := RZ.out.has; simp only [List.getElem_cons_zero, List.getElem_cons_succ] at z0 z1 z2)
          | (go_at_call 16; refine (nM_any _ b nn _ ((M.out.gr (by repeat (first | with_reducible exact Gr.refl _ | with_reducible refine Gr.drew ?_ | with_reducible refine Gr.alloc _ ?_))).tp TB.out) (by omega) (by omega)).mono ?_; rintro e w2 ⟨p1, rfl, hp1, hm⟩; have M := Lib.hid ((M.out.gr (by repeat (first | with_reducible exact Gr.refl _ | with_reducible refine Gr.drew ?_ | with_reducible refine Gr.alloc _ ?_))).trans bsB.out hm); have P1 := Lib.hid hp1; clear hm hp1; clear RZ z0 z1 z2 zh; have RZ := Lib.hid (KB.out _ M.out); have z0 := RZ.out.cell 0 (by simp); have z1 := RZ.out.cell 1 (by simp); have z2 := RZ.out.cell 2 (by simp); have zh := RZ.out.has; simp only [List.getElem_cons_zero, List.getElem_cons_succ] at z0 z1 z2))
        all_goals (go_wp2_with fail; go_meet)
        all_goals
          refine ⟨h2, ⟨p1, p2, p3⟩, rfl, rfl, H2.out, ?_, M.out.gr (by repeat (first | with_reducible exact Gr.refl _ | with_reducible refine Gr.drew ?_ | with_reducible refine Gr.alloc _ ?_))⟩
          have := P1.out; have := P2.out; have := P3.out
          unfold InTo at *
          unfold HWide Wide; simp only; omega
      obtain ⟨h2, h3, rfl, rfl, hw2, hw3, hm⟩ := hcut
      have W2' := Lib.hid hw2
      have W3' := Lib.hid hw3
      have M := Lib.hid hm
      clear hw2 hw3 hm RZ z0 z1 z2 zh
      go_wp2_with fail
      go_loopw [91] (fun i wi => ∃ j : Nat, j ≤ 3 ∧ i = .int .i64 j ∧ Mv b nn WB wi) (fun i _ => 3 - (intOf i).toNat)
      case atStart => exact ⟨0, Nat.zero_le _, rfl, M.out⟩
      case round =>
        obtain ⟨j, hj, rfl, hm⟩ := hrel
        obtain ⟨wi, rfl⟩ : ∃ wi : World, wi = wr := ⟨_, rfl⟩
        clear M
        have M := Lib.hid hm
        clear hm
        by_cases hjl : j < 3
        · have j1 : (j : Int) < 3 := by omega
          obtain ⟨z, hix, hzw⟩ : ∃ (z : Hld), (∀ W : World, Sem.run Try.prog (Instr.index 44 (.agg #[.int .i64 x.device, .int .i64 x.kind, .int .i64 x.unit, .int .i64 h2.device, .int .i64 h2.kind, .int .i64 h2.unit, .int .i64 h3.device, .int .i64 h3.kind, .int .i64 h3.unit]) (.int .i64 j)) W = .ok (.agg #[.int .i64 z.device, .int .i64 z.kind, .int .i64 z.unit]) W) ∧ HWide z := by
            obtain rfl | rfl | rfl : j = 0 ∨ j = 1 ∨ j = 2 := by omega
            · exact ⟨x, fun _ => by simp [Instr.index, go_sem], XW.out⟩
            · exact ⟨h2, fun _ => by simp [Instr.index, go_sem], W2'.out⟩
            · exact ⟨h3, fun _ => by simp [Instr.index, go_sem], W3'.out⟩
          have ZW := Lib.hid hzw
          have TW := Lib.hid (takeP_wide LW.out ZW.out)
          have DW := Lib.hid (dropP_wide (z := z) LW.out)
          clear hzw
          go_wp2_with fail
          clear hix
          obtain ⟨X1, hX⟩ : ∃ X1 : World, Hid (X1 = wi.alloc (.cells #[.int .i64 z.device, .int .i64 z.kind, .int .i64 z.unit] 34)) := ⟨_, Lib.hid rfl⟩
          have g1 : Hid (Gr wi X1) := Lib.hid (by rw [hX.out]; exact (Gr.refl _).alloc _)
          have RX : Hid (Row X1 wi.heap.size 34 [.int .i64 z.device, .int .i64 z.kind, .int .i64 z.unit]) := Lib.hid (by rw [hX.out]; exact Row.new wi _ _)
          rw [← hX.out]
          clear hX
          have M1 : Hid (Mv b nn WB X1) := Lib.hid (M.out.gr g1.out)
          refine (take_any L z aL cL _ (KL.out _ M1.out) (by unfold Fit; omega) hLc ZW.out).mono ?_
          rintro e X2 ⟨v1, rfl, h1, hg⟩
          have M2 : Hid (Mv b nn WB X2) := Lib.hid (M1.out.gr hg)
          have g2 := Lib.hid hg
          obtain ⟨at1, ct, rfl, ht, ot⟩ := owns_ownN h1
          have St := Lib.hid (ot.slH TW.out)
          clear h1 ot
          clear hg
          have e0 := ((RX.out.gr g2.out).cell 0 (by simp))
          have e1 := ((RX.out.gr g2.out).cell 1 (by simp))
          have e2 := ((RX.out.gr g2.out).cell 2 (by simp))
          have eh := (RX.out.gr g2.out).has
          simp only [List.getElem_cons_zero, List.getElem_cons_succ] at e0 e1 e2
          go_wp2_with fail
          refine (refTake_any L z aL cL _ (KL.out _ M2.out) (by unfold Fit; omega) hLc ZW.out).mono ?_
          rintro e X3 ⟨v2, rfl, h2, hg⟩
          have M3 : Hid (Mv b nn WB X3) := Lib.hid (M2.out.gr hg)
          have g3 := Lib.hid hg
          obtain ⟨au, cu, rfl, hu, ou⟩ := owns_ownN h2
          have Su := Lib.hid (ou.slH TW.out)
          clear h2 ou
          clear hg
          clear e0 e1 e2 eh
          have e0 := ((RX.out.gr (g2.out.trans g3.out)).cell 0 (by simp))
          have e1 := ((RX.out.gr (g2.out.trans g3.out)).cell 1 (by simp))
          have e2 := ((RX.out.gr (g2.out.trans g3.out)).cell 2 (by simp))
          have eh := (RX.out.gr (g2.out.trans g3.out)).has
          simp only [List.getElem_cons_zero, List.getElem_cons_succ] at e0 e1 e2
          go_wp2_with fail
          refine (drop_any L z aL cL _ (KL.out _ M3.out) (by unfold Fit; omega) hLc ZW.out).mono ?_
          rintro e X4 ⟨v3, rfl, h3, hg⟩
          have M4 : Hid (Mv b nn WB X4) := Lib.hid (M3.out.gr hg)
          have g4 := Lib.hid hg
          obtain ⟨ad, cd, rfl, hd, od⟩ := owns_ownN h3
          have Sd := Lib.hid (od.slH DW.out)
          clear h3 od
          clear hg
          clear e0 e1 e2 eh
          have e0 := ((RX.out.gr (g2.out.trans (g3.out.trans g4.out))).cell 0 (by simp))
          have e1 := ((RX.out.gr (g2.out.trans (g3.out.trans g4.out))).cell 1 (by simp))
          have e2 := ((RX.out.gr (g2.out.trans (g3.out.trans g4.out))).cell 2 (by simp))
          have eh := (RX.out.gr (g2.out.trans (g3.out.trans g4.out))).has
          simp only [List.getElem_cons_zero, List.getElem_cons_succ] at e0 e1 e2
          go_wp2_with fail
          refine (refDrop_any L z aL cL _ (KL.out _ M4.out) (by unfold Fit; omega) hLc).mono ?_
          rintro e X5 ⟨v4, rfl, h4, hg⟩
          have M5 : Hid (Mv b nn WB X5) := Lib.hid (M4.out.gr hg)
          have g5 := Lib.hid hg
          obtain ⟨af, cf, rfl, hf, of⟩ := owns_ownN h4
          have Sf := Lib.hid (of.slH DW.out)
          clear h4 of
          clear hg
          clear e0 e1 e2 eh
          have e0 := ((RX.out.gr (g2.out.trans (g3.out.trans (g4.out.trans g5.out)))).cell 0 (by simp))
          have e1 := ((RX.out.gr (g2.out.trans (g3.out.trans (g4.out.trans g5.out)))).cell 1 (by simp))
          have e2 := ((RX.out.gr (g2.out.trans (g3.out.trans (g4.out.trans g5.out)))).cell 2 (by simp))
          have eh := (RX.out.gr (g2.out.trans (g3.out.trans (g4.out.trans g5.out)))).has
          simp only [List.getElem_cons_zero, List.getElem_cons_succ] at e0 e1 e2
          go_wp2_with fail
          refine (same_yes (takeP L z) at1 au ct cu _ (hlds_gr St.out (g3.out.trans (g4.out.trans g5.out))) (hlds_gr Su.out (g4.out.trans g5.out)) (by unfold Fit; have := takeP_len L z; omega)).mono ?_
          rintro e X6 ⟨rfl, hg⟩
          have M6 : Hid (Mv b nn WB X6) := Lib.hid (M5.out.gr hg)
          have g6 := Lib.hid hg
          clear hg
          clear e0 e1 e2 eh
          have e0 := ((RX.out.gr (g2.out.trans (g3.out.trans (g4.out.trans (g5.out.trans g6.out))))).cell 0 (by simp))
          have e1 := ((RX.out.gr (g2.out.trans (g3.out.trans (g4.out.trans (g5.out.trans g6.out))))).cell 1 (by simp))
          have e2 := ((RX.out.gr (g2.out.trans (g3.out.trans (g4.out.trans (g5.out.trans g6.out))))).cell 2 (by simp))
          have eh := (RX.out.gr (g2.out.trans (g3.out.trans (g4.out.trans (g5.out.trans g6.out))))).has
          simp only [List.getElem_cons_zero, List.getElem_cons_succ] at e0 e1 e2
          go_wp2_with fail
          refine (same_yes (dropP L z) ad af cd cf _ (hlds_gr Sd.out (g5.out.trans g6.out)) (hlds_gr Sf.out g6.out) (by unfold Fit; have := dropP_len L z; omega)).mono ?_
          rintro e X7 ⟨rfl, hg⟩
          have M7 : Hid (Mv b nn WB X7) := Lib.hid (M6.out.gr hg)
          have g7 := Lib.hid hg
          clear hg
          clear e0 e1 e2 eh
          have e0 := ((RX.out.gr (g2.out.trans (g3.out.trans (g4.out.trans (g5.out.trans (g6.out.trans g7.out)))))).cell 0 (by simp))
          have e1 := ((RX.out.gr (g2.out.trans (g3.out.trans (g4.out.trans (g5.out.trans (g6.out.trans g7.out)))))).cell 1 (by simp))
          have e2 := ((RX.out.gr (g2.out.trans (g3.out.trans (g4.out.trans (g5.out.trans (g6.out.trans g7.out)))))).cell 2 (by simp))
          have eh := (RX.out.gr (g2.out.trans (g3.out.trans (g4.out.trans (g5.out.trans (g6.out.trans g7.out)))))).has
          simp only [List.getElem_cons_zero, List.getElem_cons_succ] at e0 e1 e2
          go_wp2_with fail
          go_roundw
          case rel => exact ⟨j + 1, by omega, by go_num, M7.out⟩
          case measure => simp [intOf]; omega
        · obtain rfl : j = 3 := by omega
          go_upto_if 141 with (fail)
          go_cut [] (fun wx => Mv b nn WB wx)
          case first =>
            by_cases hL0 : 0 < L.length
            · have q1 : decide ((0 : Int) < L.length) = true := by simp; omega
              have q2 : decide (0 < L.length) = true := by simpa using hL0
              go_wp2_with fail
              refine (nM_any _ b nn L.length (M.out.tp TB.out) (by omega) (by omega)).mono ?_
              rintro e wn ⟨iz, rfl, ⟨i1, i2⟩, hm⟩
              have MN := Lib.hid (M.out.trans bsB.out hm)
              clear hm
              obtain ⟨i, rfl⟩ : ∃ i : Nat, iz = (i : Int) := ⟨iz.toNat, by omega⟩
              have i3 : i < L.length := by omega
              have i4 : (i : Int) < L.length := by omega
              obtain ⟨b1, o1, e1', ⟨c0, -⟩, ⟨c1, -⟩, ⟨c2, -⟩⟩ := (KL.out _ MN.out) i i3
              have ch := has_of_cell c0
              have ZW := Lib.hid (LW.out i i3)
              obtain ⟨z, hz⟩ : ∃ z, Hid (z = L[i]) := ⟨_, Lib.hid rfl⟩
              rw [← hz.out] at c0 c1 c2 ZW
              have DW := Lib.hid (dropP_wide (z := z) LW.out)
              subst e1'
              go_wp2_with fail
              obtain ⟨aL, haL⟩ : ∃ aL : Option Addr, Hid (aL = some ⟨b1, o1, none⟩) := ⟨_, Lib.hid rfl⟩
              rw [← haL.out] at KL ⊢
              clear c0 c1 c2 ch
              obtain ⟨X1, hX⟩ : ∃ X1 : World, Hid (X1 = wn.alloc (.cells #[.int .i64 z.device, .int .i64 z.kind, .int .i64 z.unit] 34)) := ⟨_, Lib.hid rfl⟩
              have g1 : Hid (Gr wn X1) := Lib.hid (by rw [hX.out]; exact (Gr.refl _).alloc _)
              have RX : Hid (Row X1 wn.heap.size 34 [.int .i64 z.device, .int .i64 z.kind, .int .i64 z.unit]) := Lib.hid (by rw [hX.out]; exact Row.new wn _ _)
              rw [← hX.out]
              clear hX
              have M1 : Hid (Mv b nn WB X1) := Lib.hid (MN.out.gr g1.out)
              refine (drop_any L z aL cL _ (KL.out _ M1.out) (by unfold Fit; omega) hLc ZW.out).mono ?_
              rintro e X2 ⟨v3, rfl, h3, hg⟩
              have M2 : Hid (Mv b nn WB X2) := Lib.hid (M1.out.gr hg)
              have g2 := Lib.hid hg
              obtain ⟨ad, cd, rfl, hd, od⟩ := owns_ownN h3
              have Sd := Lib.hid (od.slH DW.out)
              clear h3 od
              clear hg
              have e0 := ((RX.out.gr g2.out).cell 0 (by simp))
              have e1 := ((RX.out.gr g2.out).cell 1 (by simp))
              have e2 := ((RX.out.gr g2.out).cell 2 (by simp))
              have eh := (RX.out.gr g2.out).has
              simp only [List.getElem_cons_zero, List.getElem_cons_succ] at e0 e1 e2
              go_wp2_with fail
              refine (refDrop_any L z aL cL _ (KL.out _ M2.out) (by unfold Fit; omega) hLc).mono ?_
              rintro e X3 ⟨v4, rfl, h4, hg⟩
              have M3 : Hid (Mv b nn WB X3) := Lib.hid (M2.out.gr hg)
              have g3 := Lib.hid hg
              obtain ⟨af, cf, rfl, hf, of⟩ := owns_ownN h4
              have Sf := Lib.hid (of.slH DW.out)
              clear h4 of
              clear hg
              clear e0 e1 e2 eh
              have e0 := ((RX.out.gr (g2.out.trans g3.out)).cell 0 (by simp))
              have e1 := ((RX.out.gr (g2.out.trans g3.out)).cell 1 (by simp))
              have e2 := ((RX.out.gr (g2.out.trans g3.out)).cell 2 (by simp))
              have eh := (RX.out.gr (g2.out.trans g3.out)).has
              simp only [List.getElem_cons_zero, List.getElem_cons_succ] at e0 e1 e2
              go_wp2_with fail
              refine (same_yes (dropP L z) ad af cd cf _ (hlds_gr Sd.out g3.out) (hlds_gr Sf.out (Gr.refl _)) (by unfold Fit; have := dropP_len L z; omega)).mono ?_
              rintro e X4 ⟨rfl, hg⟩
              have M4 : Hid (Mv b nn WB X4) := Lib.hid (M3.out.gr hg)
              have g4 := Lib.hid hg
              clear hg
              clear e0 e1 e2 eh
              have e0 := ((RX.out.gr (g2.out.trans (g3.out.trans g4.out))).cell 0 (by simp))
              have e1 := ((RX.out.gr (g2.out.trans (g3.out.trans g4.out))).cell 1 (by simp))
              have e2 := ((RX.out.gr (g2.out.trans (g3.out.trans g4.out))).cell 2 (by simp))
              have eh := (RX.out.gr (g2.out.trans (g3.out.trans g4.out))).has
              simp only [List.getElem_cons_zero, List.getElem_cons_succ] at e0 e1 e2
              go_wp2_with fail
              have haM := haL.out
              subst haM
              go_meet
              exact M4.out
            · have q1 : decide ((0 : Int) < L.length) = false := decide_eq_false (by omega)
              have q2 : decide (0 < L.length) = false := by simpa using hL0
              go_wp2_with fail
              go_meet
              exact M.out
          clear M
          have M := Lib.hid hcut
          clear hcut
          go_wp2_with fail
          refine (nM_any _ b nn 5 (M.out.tp TB.out) (by omega) (by omega)).mono ?_
          rintro e wn ⟨n5, rfl, hn5, hm⟩
          have M := Lib.hid (M.out.trans bsB.out hm)
          clear hm hn5
          go_wp2_with fail
          go_loopw [174] (fun i wi => ∃ j : Nat, j ≤ 2 ∧ i = .int .i64 j ∧ Mv b nn WB wi) (fun i _ => 2 - (intOf i).toNat)
          case atStart => exact ⟨0, Nat.zero_le _, rfl, M.out⟩
          case round =>
            obtain ⟨j, hj, rfl, hm⟩ := hrel
            obtain ⟨wi, rfl⟩ : ∃ wi : World, wi = wr := ⟨_, rfl⟩
            clear M
            have M := Lib.hid hm
            clear hm
            by_cases hjl : j < 2
            · have j1 : (j : Int) < 2 := by omega
              obtain ⟨q, hix⟩ : ∃ (q : Int), (∀ W : World, Sem.run Try.prog (Instr.index 45 (.agg #[.int .i64 dv, .int .i64 n5]) (.int .i64 j)) W = .ok (.int .i64 q) W) := by
                obtain rfl | rfl : j = 0 ∨ j = 1 := by omega
                · exact ⟨dv, fun _ => by simp [Instr.index, go_sem]⟩
                · exact ⟨n5, fun _ => by simp [Instr.index, go_sem]⟩
              go_wp2_with fail
              clear hix
              refine (return_any q L aL cL _ (KL.out _ M.out) (by omega)).mono ?_
              rintro e X1 ⟨v1, v2, rfl, h1, h2, hg⟩
              have M1 : Hid (Mv b nn WB X1) := Lib.hid (M.out.gr hg)
              have g1 := Lib.hid hg
              obtain ⟨at1, ct, rfl, ht, ot⟩ := owns_ownN h1
              have St := Lib.hid (ot.slH (filter_wide LW.out _))
              clear h1 ot
              obtain ⟨au, cu, rfl, hu, ou⟩ := owns_ownN h2
              have Su := Lib.hid (ou.slH (reverse_wide (filter_wide LW.out _)))
              clear h2 ou
              clear hg
              go_wp2_with fail
              refine (refReturn_any q L aL cL _ (KL.out _ M1.out) (by omega)).mono ?_
              rintro e X2 ⟨v3, v4, rfl, h3, h4, hg⟩
              have M2 : Hid (Mv b nn WB X2) := Lib.hid (M1.out.gr hg)
              have g2 := Lib.hid hg
              obtain ⟨ad, cd, rfl, hd, od⟩ := owns_ownN h3
              have Sd := Lib.hid (od.slH (filter_wide LW.out _))
              clear h3 od
              obtain ⟨af, cf, rfl, hf, of⟩ := owns_ownN h4
              have Sf := Lib.hid (of.slH (reverse_wide (filter_wide LW.out _)))
              clear h4 of
              clear hg
              go_wp2_with fail
              refine (same_yes _ at1 ad ct cd _ (hlds_gr St.out g2.out) (hlds_gr Sd.out (Gr.refl _)) (by unfold Fit; have := List.length_filter_le (fun x : Hld => x.device != q) L; omega)).mono ?_
              rintro e X3 ⟨rfl, hg⟩
              have M3 : Hid (Mv b nn WB X3) := Lib.hid (M2.out.gr hg)
              have g3 := Lib.hid hg
              clear hg
              go_wp2_with fail
              refine (same_r _ au af cu cf _ (hlds_gr Su.out (g2.out.trans g3.out)) (hlds_gr Sf.out g3.out) (by unfold Fit; have := List.length_filter_le (fun x : Hld => x.device == q) L; omega)).mono ?_
              rintro e X4 ⟨rfl, hg⟩
              have M4 : Hid (Mv b nn WB X4) := Lib.hid (M3.out.gr hg)
              have g4 := Lib.hid hg
              clear hg
              go_wp2_with fail
              refine (of_any q L aL cL _ (KL.out _ M4.out) (by omega)).mono ?_
              rintro e X5 ⟨v5, rfl, h5, hg⟩
              have M5 : Hid (Mv b nn WB X5) := Lib.hid (M4.out.gr hg)
              have g5 := Lib.hid hg
              obtain ⟨ap, cp, rfl, hp, op⟩ := owns_ownN h5
              have Sp := Lib.hid (op.slH (filter_wide LW.out _))
              clear h5 op
              clear hg
              go_wp2_with fail
              refine (refOf_any q L aL cL _ (KL.out _ M5.out) (by omega)).mono ?_
              rintro e X6 ⟨v6, rfl, h6, hg⟩
              have M6 : Hid (Mv b nn WB X6) := Lib.hid (M5.out.gr hg)
              have g6 := Lib.hid hg
              obtain ⟨ar, cr, rfl, hr, or⟩ := owns_ownN h6
              have Sr := Lib.hid (or.slH (filter_wide LW.out _))
              clear h6 or
              clear hg
              go_wp2_with fail
              refine (same_yes _ ap ar cp cr _ (hlds_gr Sp.out g6.out) (hlds_gr Sr.out (Gr.refl _)) (by unfold Fit; have := List.length_filter_le (fun x : Hld => x.device == q) L; omega)).mono ?_
              rintro e X7 ⟨rfl, hg⟩
              have M7 : Hid (Mv b nn WB X7) := Lib.hid (M6.out.gr hg)
              have g7 := Lib.hid hg
              clear hg
              go_wp2_with fail
              go_roundw
              case rel => exact ⟨j + 1, by omega, by go_num, M7.out⟩
              case measure => simp [intOf]; omega
            · obtain rfl : j = 2 := by omega
              go_wp2_with fail
              refine (users_any un L aL cL _ (KL.out _ M.out) (by omega)).mono ?_
              rintro e X1 ⟨v5, rfl, h5, hg⟩
              have M1 : Hid (Mv b nn WB X1) := Lib.hid (M.out.gr hg)
              have g1 := Lib.hid hg
              obtain ⟨apa, cpa, rfl, hpa, opa⟩ := owns_ownN h5
              have Spa := Lib.hid (opa.slI (users_wide LW.out un))
              clear h5 opa
              clear hg
              go_wp2_with fail
              refine (refUsers_any un L aL cL _ (KL.out _ M1.out) (by omega)).mono ?_
              rintro e X2 ⟨v6, rfl, h6, hg⟩
              have M2 : Hid (Mv b nn WB X2) := Lib.hid (M1.out.gr hg)
              have g2 := Lib.hid hg
              obtain ⟨apb, cpb, rfl, hpb, opb⟩ := owns_ownN h6
              have Spb := Lib.hid (opb.slI (users_wide LW.out un))
              clear h6 opb
              clear hg
              go_wp2_with fail
              refine (ints_yes (usersL L un) apa apb cpa cpb _ (ints_gr Spa.out g2.out) (ints_gr Spb.out (Gr.refl _)) (by unfold Fit; have := users_len L un; omega)).mono ?_
              rintro e X3 ⟨rfl, hg⟩
              have M3 : Hid (Mv b nn WB X3) := Lib.hid (M2.out.gr hg)
              have g3 := Lib.hid hg
              clear hg
              go_wp2_with fail
              refine (users_any 3 L aL cL _ (KL.out _ M3.out) (by omega)).mono ?_
              rintro e X4 ⟨v5, rfl, h5, hg⟩
              have M4 : Hid (Mv b nn WB X4) := Lib.hid (M3.out.gr hg)
              have g4 := Lib.hid hg
              obtain ⟨aqa, cqa, rfl, hqa, oqa⟩ := owns_ownN h5
              have Sqa := Lib.hid (oqa.slI (users_wide LW.out 3))
              clear h5 oqa
              clear hg
              go_wp2_with fail
              refine (refUsers_any 3 L aL cL _ (KL.out _ M4.out) (by omega)).mono ?_
              rintro e X5 ⟨v6, rfl, h6, hg⟩
              have M5 : Hid (Mv b nn WB X5) := Lib.hid (M4.out.gr hg)
              have g5 := Lib.hid hg
              obtain ⟨aqb, cqb, rfl, hqb, oqb⟩ := owns_ownN h6
              have Sqb := Lib.hid (oqb.slI (users_wide LW.out 3))
              clear h6 oqb
              clear hg
              go_wp2_with fail
              refine (ints_yes (usersL L 3) aqa aqb cqa cqb _ (ints_gr Sqa.out g5.out) (ints_gr Sqb.out (Gr.refl _)) (by unfold Fit; have := users_len L 3; omega)).mono ?_
              rintro e X6 ⟨rfl, hg⟩
              have M6 : Hid (Mv b nn WB X6) := Lib.hid (M5.out.gr hg)
              have g6 := Lib.hid hg
              clear hg
              go_wp2_with fail
              go_roundw
              case rel => exact ⟨k + 1, by omega, by go_num, M6.out⟩
              case measure => simp [intOf]; omega
    · obtain rfl : k = 3 := by omega
      go_wp2_with fail
      refine (sane_any _).mono ?_
      rintro e W9 ⟨rfl, hg9⟩
      have G9 := Lib.hid hg9
      clear hg9
      go_wp2_with fail
      go_ret
      exact ⟨rfl, (KG.out _ M.out).trans G9.out⟩
end Go.Proofs.Ythpgoldahffbcaa
