/- Contracts of the reference's Own, Setting, Limits, where clocks, settings and limits are right. -/
import Derived.Test.YtenehghpmnajpaaDoorSrB
set_option linter.unusedVariables false
set_option linter.unusedSimpArgs false
namespace Go.Proofs.YtenehghpmnajpaaDoor
open Go.RowKit
open Classical

/-- Rates, and whether each runs, as they lie in memory. -/
def RatesAt (w : World) (a : Option Addr) (R : List Rt) : Prop := ∀ k, k < R.length → ∃ g, a = some ⟨g, 0, none⟩ ∧ w.cell? ⟨g, k * 2, none⟩ = some (.int .i64 (numR (rtAt R k))) ∧ w.cell? ⟨g, k * 2 + 1, none⟩ = some (.int .i64 (denR (rtAt R k)))
def OnsAt (w : World) (a : Option Addr) (R : List Rt) : Prop := ∀ k, k < R.length → ∃ g, a = some ⟨g, 0, none⟩ ∧ w.cell? ⟨g, k, none⟩ = some (.bool (rtAt R k).isSome)
theorem RatesAt.gr {w w' : World} {a : Option Addr} {R : List Rt} (h : RatesAt w a R) (hg : Gr w w') : RatesAt w' a R := fun k hk => by
  obtain ⟨g, e, c0, c1⟩ := h k hk; exact ⟨g, e, cell_gr hg c0, cell_gr hg c1⟩
theorem OnsAt.gr {w w' : World} {a : Option Addr} {R : List Rt} (h : OnsAt w a R) (hg : Gr w w') : OnsAt w' a R := fun k hk => by
  obtain ⟨g, e, c0⟩ := h k hk; exact ⟨g, e, cell_gr hg c0⟩
theorem rtAt_eq {R : List Rt} {k : Nat} (h : k < R.length) : rtAt R k = R[k] := by rw [rtAt, List.getD_eq_getElem?_getD, List.getElem?_eq_getElem h]; rfl
theorem rates_of_owns {w : World} {base n : Nat} {v : Value} {R : List Rt} (hn : R.length = n) (h : w.ownsRow base 56 2 v n (encP (R.map prR))) : ∃ a c, v = .slice a n c ∧ RatesAt w a R := by
  subst hn
  rcases Nat.eq_zero_or_pos R.length with e | e
  · obtain ⟨a, c, ev⟩ := owns_slice h
    exact ⟨a, c, ev, fun k hk => by omega⟩
  · obtain ⟨g, c, ev, _, _, hc⟩ := owns_cell h e
    refine ⟨_, c, ev, fun k hk => ⟨g, rfl, ?_⟩⟩
    have hat := encP_at (R.map prR) k (by simpa using hk)
    have h0 := hc (k * 2) (by omega)
    have h1 := hc (k * 2 + 1) (by omega)
    rw [List.getElem?_eq_getElem (by rw [encP_len, List.length_map]; omega), hat.1] at h0
    rw [List.getElem?_eq_getElem (by rw [encP_len, List.length_map]; omega), hat.2] at h1
    rw [rtAt_eq hk]
    simp only [List.getElem_map, prR] at h0 h1
    exact ⟨h0, h1⟩
theorem ons_of_owns {w : World} {base n : Nat} {v : Value} {R : List Rt} (hn : R.length = n) (h : w.ownsRow base 4 1 v n (bools (onL R))) : ∃ a c, v = .slice a n c ∧ OnsAt w a R := by
  subst hn
  rcases Nat.eq_zero_or_pos R.length with e | e
  · obtain ⟨a, c, ev⟩ := owns_slice h
    exact ⟨a, c, ev, fun k hk => by omega⟩
  · obtain ⟨g, c, ev, _, _, hc⟩ := owns_cell h e
    refine ⟨_, c, ev, fun k hk => ⟨g, rfl, ?_⟩⟩
    have h0 := hc k (by omega)
    rw [List.getElem?_eq_getElem (by simp [bools, onL]; exact hk)] at h0
    rw [rtAt_eq hk]
    simpa [bools, onL] using h0
/-- The limits of the clocks themselves are kept. -/
def OwnR (R : List Rt) (l : List Clk) : Prop := ∀ i (h : i < l.length), ownOk (rtAt R i) l[i] = true
set_option maxRecDepth 100000 in
set_option maxHeartbeats 2000000 in
theorem refOwn_any (l : List Clk) (R : List Rt) (al a1 a2 : Option Addr) (cl c1 c2 : Nat) (w : World) (h : SlOf 5 RClk w al l) (hl : l.length ≤ 16) (hR : RtsGood R) (hRl : R.length = l.length) (hr : RatesAt w a1 R) (ho : OnsAt w a2 R) :
    Calls Tryd.prog 27 #[.slice al l.length cl, .slice a1 l.length c1, .slice a2 l.length c2] w (Grows w (.bool (decide (OwnR R l)))) := by
  have H := Lib.hid h
  have HR := Lib.hid hr
  have HO := Lib.hid ho
  have RG := Lib.hid hR
  have HL := Lib.hid hRl
  clear h hr ho hR hRl
  go_enter Tryd.func27, Tryd.ntmps27
  go_wp2_with fail
  go_loopw [11] (fun i wr => ∃ k : Nat, k ≤ l.length ∧ i = .int .i64 k ∧ (∀ j (h : j < l.length), j < k → ownOk (rtAt R j) l[j] = true) ∧ Gr w wr) (fun i _ => l.length - (intOf i).toNat)
  case atStart => exact ⟨0, Nat.zero_le _, rfl, fun j _ h => absurd h (by omega), Gr.refl _⟩
  case round =>
    obtain ⟨k, hk, rfl, hall, hg⟩ := hrel
    have HA := Lib.hid hall
    have HG := Lib.hid hg
    clear hall hg
    obtain ⟨wo, rfl⟩ : ∃ wo : World, wo = wr := ⟨_, rfl⟩
    by_cases hlt : k < l.length
    · obtain ⟨b, o, rfl, ⟨d0, _⟩, ⟨ap, cp, d1, _⟩, ⟨ac, cc, d2, _⟩, ⟨d3, _⟩, ⟨d4, _⟩⟩ := clks_gr H.out HG.out k hlt
      have hkl : k < R.length := by have := HL.out; omega
      obtain ⟨g1, rfl, r0, r1⟩ := (HR.out.gr HG.out) k hkl
      obtain ⟨g2, rfl, r2⟩ := (HO.out.gr HG.out) k hkl
      have e := rtAt_eq hkl
      have hgd := RG.out k hkl
      rw [← e] at hgd
      obtain ⟨r, hrr⟩ : ∃ r, rtAt R k = r := ⟨_, rfl⟩
      rw [hrr] at r0 r1 r2 hgd
      have gh1 := has_of_cell r0
      have gh2 := has_of_cell r2
      have k2 : (k : Int) < l.length := by omega
      have RR := Lib.hid hrr
      have NX : Hid (ownOk r l[k] = true → ∀ j (h : j < l.length), j < k + 1 → ownOk (rtAt R j) l[j] = true) := Lib.hid fun q j h1 hj => by
        by_cases e : j = k
        · subst e; rw [RR.out]; exact q
        · exact HA.out j h1 (by omega)
      clear hrr e
      cases r with
      | none =>
        simp only [numR, denR, Option.isSome_none] at r0 r1 r2
        clear hgd
        go_wp2_with fail
        refine wp_region_grows (by kernel_rfl) (by kernel_rfl) ?_
        repeat (go_big_quiet_step (fail))
        refine wpQuiet_nil ?_
        rintro _ ⟨⟨O, d⟩, rfl⟩
        go_wp2_with fail
        go_roundw
        case rel => exact ⟨k + 1, by omega, by go_num, NX.out rfl, (HG.out.alloc _).xt _ _⟩
        case measure => simp [intOf]; omega
      | some nd =>
        obtain ⟨n, d⟩ := nd
        obtain ⟨hv, hn1⟩ := hgd n d rfl
        obtain ⟨v1, v2, v3, v4, v5⟩ := valid_parts hv
        simp only [numR, denR, Option.isSome_some] at r0 r1 r2
        clear hv v5 hgd
        by_cases h0 : l[k].high = 0
        · have hb : (l[k].high != 0) = false := by simp [h0]
          have NX3 := Lib.hid (NX.out (by simp [ownOk, h0]))
          clear h0 NX
          go_wp2_with fail
          refine wp_region_grows (by kernel_rfl) (by kernel_rfl) ?_
          repeat (go_big_quiet_step (fail))
          refine wpQuiet_nil ?_
          rintro _ ⟨⟨O, d⟩, rfl⟩
          go_wp2_with fail
          go_roundw
          case rel => exact ⟨k + 1, by omega, by go_num, NX3.out, (HG.out.alloc _).xt _ _⟩
          case measure => simp [intOf]; omega
        · have hb : (l[k].high != 0) = true := by simp [h0]
          have hb2 : (l[k].high == 0) = false := by simp [h0]
          cases hq : withinB n d l[k].low l[k].high with
          | true =>
            have NX3 := Lib.hid (NX.out (by simp [ownOk, hq]))
            have wq := refWithin_any n d l[k].low l[k].high
            rw [hq] at wq
            clear h0 NX hq hb2
            go_wp2_with fail
            refine wp_region_grows (by kernel_rfl) (by kernel_rfl) ?_
            repeat (go_big_quiet_step (first | (go_at_call 26; exact calls_grows (wq _ (by omega) (by omega) (by omega) (by omega)))))
            refine wpQuiet_nil ?_
            rintro _ ⟨⟨O, d⟩, rfl⟩
            go_wp2_with fail
            go_roundw
            case rel => exact ⟨k + 1, by omega, by go_num, NX3.out, (HG.out.alloc _).xt _ _⟩
            case measure => simp [intOf]; omega
          | false =>
            have bad : Hid (¬ OwnR R l) := Lib.hid fun q => by
              have := q k hlt
              rw [RR.out] at this
              simp [ownOk, hb2, hq] at this
            have wq := refWithin_any n d l[k].low l[k].high
            rw [hq] at wq
            clear h0 NX hq hb2
            go_wp2_with fail
            refine wp_region_grows (by kernel_rfl) (by kernel_rfl) ?_
            repeat (go_big_quiet_step (first | (go_at_call 26; exact calls_grows (wq _ (by omega) (by omega) (by omega) (by omega)))))
            refine wpQuiet_nil ?_
            rintro _ ⟨⟨O, d⟩, rfl⟩
            go_wp2_with fail
            go_ret
            exact ⟨ret_bool (decide_eq_false bad.out).symm, (HG.out.alloc _).xt _ _⟩
    · have good : Hid (OwnR R l) := Lib.hid fun j h => HA.out j h (by omega)
      go_wp2_with fail
      go_ret
      exact ⟨ret_bool (decide_eq_true good.out).symm, HG.out⟩
set_option maxRecDepth 100000 in
set_option maxHeartbeats 2000000 in
theorem refSetting_ok (l : List Clk) (s : List Int) (al aS : Option Addr) (cl cs : Nat) (w : World) (h : SlOf 5 RClk w al l) (hs : SlOf 1 RI w aS s) (hc : cchk l = 0) (hset : SetOk l s) :
    Calls Tryd.prog 57 #[.slice al l.length cl, .slice aS s.length cs] w (Grows w (.bool true)) := by
  have hl := small_len (cchk_zero hc).1
  have rc := refCheck_any l al cl w h (by unfold Fit; omega)
  rw [hc] at rc
  have RC := Lib.hid rc
  have H := Lib.hid h
  have HS := Lib.hid hs
  have HT := Lib.hid hset
  have HSL := Lib.hid hset.1
  have NB := Lib.hid (cchk_zero hc).1
  rw [hset.1]
  clear rc h hs hset hc
  go_enter Tryd.func57, Tryd.ntmps57
  go_wp2_with fail
  refine RC.out.mono ?_
  rintro e w1 ⟨rfl, hg1⟩
  have G1 := Lib.hid hg1
  clear hg1 RC
  go_wp2_with fail
  go_loopw [19] (fun i wr => ∃ k : Nat, k ≤ l.length ∧ i = .int .i64 k ∧ Gr w wr) (fun i _ => l.length - (intOf i).toNat)
  case atStart => exact ⟨0, Nat.zero_le _, rfl, G1.out⟩
  case round =>
    obtain ⟨k, hk, rfl, hg⟩ := hrel
    have HG := Lib.hid hg
    clear hg
    obtain ⟨wo, rfl⟩ : ∃ wo : World, wo = wr := ⟨_, rfl⟩
    by_cases hlt : k < l.length
    · have hls : k < s.length := by have := HSL.out; omega
      obtain ⟨k0, k1⟩ := HT.out.2 k hlt hls
      obtain ⟨fp, fc⟩ := small_at NB.out hlt
      obtain ⟨b, o, rfl, ⟨d0, _⟩, ⟨ap, cp, d1, _⟩, ⟨ac, cc, d2, _, d2f, _⟩, ⟨d3, _⟩, ⟨d4, _⟩⟩ := clks_gr H.out HG.out k hlt
      obtain ⟨bs, os, rfl, ⟨q1, _⟩⟩ := (HS.out.giI HG.out).one k hls
      have hx1 := has_of_cell q1
      have k2 : (k : Int) < l.length := by omega
      unfold Fit at d2f
      have e1 : decide (s[k] < 0) = false := decide_eq_false (by omega)
      have e2 : decide ((l[k].choices.length : Int) ≤ s[k]) = false := decide_eq_false (by omega)
      go_wp2_with fail
      refine wp_region_grows (by kernel_rfl) (by kernel_rfl) ?_
      repeat (go_big_quiet_step (fail))
      refine wpQuiet_nil ?_
      rintro _ ⟨⟨O, d⟩, rfl⟩
      go_wp2_with fail
      go_roundw
      case rel => exact ⟨k + 1, by omega, by go_num, (HG.out.alloc _).xt _ _⟩
      case measure => simp [intOf]; omega
    · go_wp2_with fail
      go_ret
      exact ⟨rfl, HG.out⟩
set_option maxRecDepth 100000 in
set_option maxHeartbeats 2000000 in
theorem refLimits_ok (l : List Clk) (m : List Lmt) (al am : Option Addr) (cl cm : Nat) (w : World) (h : SlOf 5 RClk w al l) (hm : SlOf 3 RLmt w am m) (hc : cchk l = 0) (hlm : m.length ≤ 32 ∧ ∀ j (h : j < m.length), LmtOk l m[j]) :
    Calls Tryd.prog 58 #[.slice al l.length cl, .slice am m.length cm] w (Grows w (.bool true)) := by
  have hl := small_len (cchk_zero hc).1
  have rc := refCheck_any l al cl w h (by unfold Fit; omega)
  rw [hc] at rc
  have RC := Lib.hid rc
  have HM := Lib.hid hm
  have LM := Lib.hid hlm.2
  have hml := hlm.1
  have hmb : decide ((32 : Int) < m.length) = false := decide_eq_false (by omega)
  clear rc h hm hlm hc
  go_enter Tryd.func58, Tryd.ntmps58
  go_wp2_with fail
  refine RC.out.mono ?_
  rintro e w1 ⟨rfl, hg1⟩
  have G1 := Lib.hid hg1
  clear hg1 RC
  go_wp2_with fail
  go_loopw [17] (fun i wr => ∃ k : Nat, k ≤ m.length ∧ i = .int .i64 k ∧ Gr w wr) (fun i _ => m.length - (intOf i).toNat)
  case atStart => exact ⟨0, Nat.zero_le _, rfl, G1.out⟩
  case round =>
    obtain ⟨k, hk, rfl, hg⟩ := hrel
    have HG := Lib.hid hg
    clear hg
    obtain ⟨wo, rfl⟩ : ∃ wo : World, wo = wr := ⟨_, rfl⟩
    by_cases hlt : k < m.length
    · obtain ⟨b, o, rfl, ⟨c0, _⟩, ⟨c1, _⟩, ⟨c2, _⟩⟩ := lmts_gr HM.out HG.out k hlt
      obtain ⟨q0, q1, q2, q3, q4⟩ := LM.out k hlt
      have e1 : decide (m[k].clock < 0) = false := decide_eq_false (by omega)
      have e2 : decide ((l.length : Int) ≤ m[k].clock) = false := decide_eq_false (by omega)
      have e3 : decide (m[k].low < 0) = false := decide_eq_false (by omega)
      have e4 : decide (m[k].high < m[k].low) = false := decide_eq_false (by omega)
      have e5 : decide (4000000000 < m[k].high) = false := decide_eq_false (by omega)
      go_wp2_with fail
      go_roundw
      case rel => exact ⟨k + 1, by omega, by go_num, HG.out.alloc _⟩
      case measure => simp [intOf]; omega
    · go_wp2_with fail
      go_ret
      exact ⟨rfl, HG.out⟩
end Go.Proofs.YtenehghpmnajpaaDoor
