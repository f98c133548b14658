/- Clocks in rows of the call's own whose limits are struck. The walk of RetuneFree. (several texts in one, by wip/tools/merge.py) -/
import Derived.Test.YtenehghpmnajpaaDoorKg
import Derived.Test.YtenehghpmnajpaaDoorKl
import Derived.Test.YtenehghpmnajpaaDoorKq
import Derived.Test.YtenehghpmnajpaaDoorKd
/-! Clocks in rows of the call's own whose limits are struck. -/
set_option linter.unusedVariables false
set_option linter.unusedSimpArgs false
namespace Go.Proofs.YtenehghpmnajpaaDoor
open Go.RowKit
open Classical

def zt (t : CT) : CT := { t with c := zc t.c }
/-- The first k clocks have no limits any more. -/
def zts (ts : List CT) (k : Nat) : List CT := (ts.take k).map zt ++ ts.drop k
theorem zts_len (ts : List CT) (k : Nat) : (zts ts k).length = ts.length := by simp [zts]; omega
theorem zts_zero (ts : List CT) : zts ts 0 = ts := by simp [zts]
theorem zts_all (ts : List CT) : clks (zts ts ts.length) = (clks ts).map zc := by
  simp [zts, clks, zt, Function.comp_def]
theorem zts_at {ts : List CT} {k : Nat} (h : k < ts.length) : (zts ts k)[k]'(by rw [zts_len]; exact h) = ts[k] := by
  simp only [zts]
  rw [List.getElem_append_right (by simp; omega)]
  simp [Nat.min_eq_left (Nat.le_of_lt h)]
theorem zts_step {ts : List CT} {k : Nat} (h : k < ts.length) : (zts ts k).set k (zt ts[k]) = zts ts (k + 1) := by
  simp only [zts]
  have hd : ts.drop k = ts[k] :: ts.drop (k + 1) := List.drop_eq_getElem_cons h
  rw [List.set_append_right _ _ (by simp; omega), take_snoc_get ts k h, List.map_append, List.append_assoc, hd]
  simp [Nat.min_eq_left (Nat.le_of_lt h)]
  rw [hd]; rfl
theorem encC_set (ts : List CT) : ∀ (k : Nat) (h : k < ts.length), ((ts.flatMap encC).set (k * 5 + 3) (.int .i64 0)).set (k * 5 + 4) (.int .i64 0) = (ts.set k (zt ts[k])).flatMap encC := by
  induction ts with
  | nil => intro k h; simp at h
  | cons t ts ih =>
    intro k h
    cases k with
    | zero => simp [encC, zt, zc]
    | succ k =>
      have := ih k (by simpa using h)
      rw [show (k + 1) * 5 + 3 = (encC t).length + (k * 5 + 3) by rw [encC_len]; omega, show (k + 1) * 5 + 4 = (encC t).length + (k * 5 + 4) by rw [encC_len]; omega]
      rw [List.flatMap_cons, List.set_append_right _ _ (by omega), List.set_append_right _ _ (by omega), List.set_cons_succ, List.flatMap_cons, List.getElem_cons_succ, ← this]
      simp
theorem chRow_zt {base : Nat} {w : World} {t : CT} (h : ChRow base w t) : ChRow base w (zt t) := by
  obtain ⟨h1, h2, h3, h4, h5, h6, h7, h8, h9, h10⟩ := h
  exact ⟨h1, h2, h3, h4, h5, h6, h7, by simp [zt, zc, Wide], by simp [zt, zc, Wide], h10⟩
theorem chRows_zts {base : Nat} {w : World} {ts : List CT} (h : ChRows base w ts) (k : Nat) : ChRows base w (zts ts k) := by
  intro t ht
  rcases List.mem_append.1 ht with ht | ht
  · obtain ⟨u, hu, rfl⟩ := List.mem_map.1 ht
    exact chRow_zt (h u (List.mem_of_mem_take hu))
  · exact h t (List.mem_of_mem_drop ht)
/-- A cell of an own row is written. -/
theorem owns_put {w : World} {base e size n g cap j : Nat} {xs : List Value} (h : w.ownsRow base e size (.slice (some ⟨g, 0, none⟩) n cap) n xs) (hj : j < n * size) (v : Value) : (w.setCell ⟨g, j, none⟩ v).ownsRow base e size (.slice (some ⟨g, 0, none⟩) n cap) n (xs.set j v) := by
  obtain ⟨h0, ⟨e1, _⟩ | ⟨g', cap', cur, e1, hb, hg, hn, hm, hs, ht⟩⟩ := h
  · cases e1
  · simp only [Value.slice.injEq, Option.some.injEq, Addr.mk.injEq, and_true, true_and] at e1
    obtain ⟨rfl, rfl⟩ := e1
    have hr : Row w g e cur.toList := hg
    have hr2 := hr.set j v
    refine ⟨by simpa using h0, .inr ⟨g, cap, (cur.toList.set j v).toArray, rfl, hb, hr2, hn, hm, by simpa using hs, ?_⟩⟩
    rw [← ht]
    simp only []
    rw [List.take_set]
theorem owns_ne_row {w : World} {base e size n g cap : Nat} {xs : List Value} (h : w.ownsRow base e size (.slice (some ⟨g, 0, none⟩) n cap) n xs) {B T : Nat} {vs : List Value} (hr : RowS w B T vs) (hT : T ≠ e) : B ≠ g := fun q => by
  have := owns_apart h hr hT
  exact this (by rw [q]; rfl)
theorem owns_free {w : World} {base e size n g cap : Nat} {xs : List Value} (h : w.ownsRow base e size (.slice (some ⟨g, 0, none⟩) n cap) n xs) (j : Nat) : w.frozen? ⟨g, j, none⟩ = false ∧ Has w g := by
  obtain ⟨h0, ⟨e1, _⟩ | ⟨g', cap', cur, e1, hb, hg, _⟩⟩ := h
  · cases e1
  · simp only [Value.slice.injEq, Option.some.injEq, Addr.mk.injEq, and_true, true_and] at e1
    obtain ⟨rfl, rfl⟩ := e1
    have hr : Row w g e cur.toList := hg
    exact ⟨hr.free j, hr.has⟩
theorem Mv.gr_low {w w1 w2 : World} {b len : Nat} (h : Gr w w1) (hb : w.heap.size ≤ b) (m : Mv b len w1 w2) : Gr w w2 := by
  obtain ⟨p, h0, h1, hg⟩ := m
  exact (h.setc hb).trans hg
theorem owns_slI {w : World} {base n : Nat} {v : Value} {xs : List Int} (h : w.ownsRow base 3 1 v n (nums xs)) (hw : ∀ k (hk : k < xs.length), Wide xs[k]) : ∃ a c, v = .slice a n c ∧ SlOf 1 RI w a xs := by
  obtain ⟨a, c, e, _, ho⟩ := owns_own1 h
  exact ⟨a, c, e, ho.slI hw⟩
end Go.Proofs.YtenehghpmnajpaaDoor

/-! The walk of RetuneFree. -/
set_option linter.unusedVariables false
set_option linter.unusedSimpArgs false
namespace Go.Proofs.YtenehghpmnajpaaDoor
open Go.RowKit
open Classical

theorem want_succ (a b : List Int) (k : Nat) : wantL (k + 1) a b = wantL k a b ++ (wantOne a b k).toList := by
  unfold wantL
  rw [List.range_succ, List.filterMap_append]
  cases h : wantOne a b k <;> simp [h]
theorem want_len (a b : List Int) (k : Nat) : (wantL k a b).length ≤ k := by
  unfold wantL
  have := List.length_filterMap_le (wantOne a b) (List.range k)
  simpa using this
set_option maxRecDepth 100000 in
set_option maxHeartbeats 4000000 in
theorem free_walk (a : Option Addr) (len cap : Nat) (zs : List Int) (w : World) (h : RowIn w a len cap zs) (hoff : OffV w) :
    Calls Tryd.prog 3 #[.slice a len cap] w (Grows w (.bool true)) := by
  have H := Lib.hid h
  have HO := Lib.hid hoff
  clear h hoff
  go_enter Tryd.func3, Tryd.ntmps3
  go_wp2_with fail
  refine (newTape_any w a len cap zs H.out).mono ?_
  rintro e w1 ⟨b, n, rfl, T, hg, hb, _⟩
  have HT : Hid (Tp w1 b n) := Lib.hid ⟨_, T⟩
  have HB := Lib.hid T.has
  have HG := Lib.hid hg
  have LB := Lib.hid hb
  clear T hg hb
  go_wp2_with fail
  refine (clocks_any w1 b n 8 400 HT.out (by omega) (by omega) (by omega) (by omega)).mono ?_
  rintro e w2 ⟨ts, v, rfl, ho, hr, hck, hge, hle, hpr, hm⟩
  obtain ⟨g, c, rfl, hnc, hbg, _⟩ := owns_cell ho (by omega)
  have O2 := Lib.hid ho
  have R2 := Lib.hid hr
  have CK := Lib.hid hck
  have M2 := Lib.hid hm
  have BG := Lib.hid hbg
  clear ho hr hck hpr hm hbg hnc
  go_wp2_with fail
  go_loopw [18] (fun i wr => ∃ k : Nat, k ≤ ts.length ∧ i = .int .i64 k ∧ wr.ownsRow w1.heap.size 28 5 (.slice (some ⟨g, 0, none⟩) ts.length c) ts.length ((zts ts k).flatMap encC) ∧ ChRows w1.heap.size wr (zts ts k) ∧ Mv b n w1 wr) (fun i _ => ts.length - (intOf i).toNat)
  case atStart => exact ⟨0, Nat.zero_le _, rfl, by rw [zts_zero]; exact O2.out, by rw [zts_zero]; exact R2.out, M2.out⟩
  case round =>
    clear O2 R2 M2
    obtain ⟨k, hk, rfl, ho, hr, hm⟩ := hrel
    have O3 := Lib.hid ho
    have R3 := Lib.hid hr
    have M3 := Lib.hid hm
    by_cases hlt : k < ts.length
    · obtain ⟨g', cap', e', hnc, hbg', hc⟩ := owns_cell ho (by omega)
      cases e'
      have k2 : (k : Int) < ts.length := by omega
      have hf := fun j (hj : j < 5) => flat_at encC 5 (fun _ => rfl) (zts ts k) k j (by rw [zts_len]; exact hlt) hj
      have c3 := hc (k * 5 + 3) (by omega)
      have c4 := hc (k * 5 + 4) (by omega)
      rw [hf 3 (by omega)] at c3
      rw [hf 4 (by omega)] at c4
      simp only [encC, List.getElem?_cons_succ, List.getElem?_cons_zero] at c3 c4
      obtain ⟨x3, e3⟩ : ∃ x, ((zts ts k)[k]'(by rw [zts_len]; exact hlt)).c.low = x := ⟨_, rfl⟩
      obtain ⟨x4, e4⟩ : ∃ x, ((zts ts k)[k]'(by rw [zts_len]; exact hlt)).c.high = x := ⟨_, rfl⟩
      rw [e3] at c3
      rw [e4] at c4
      obtain ⟨f3, gh⟩ := owns_free ho (k * 5 + 3)
      have f4 := (owns_free ho (k * 5 + 4)).1
      clear ho hr hm hc hf e3 e4 hnc hbg'
      go_wp2_with fail
      go_roundw
      case rel =>
        have p1 := owns_put O3.out (j := k * 5 + 3) (by omega) (.int .i64 0)
        have p2 := owns_put p1 (j := k * 5 + 4) (by omega) (.int .i64 0)
        rw [encC_set (zts ts k) k (by rw [zts_len]; exact hlt), zts_at hlt, zts_step hlt] at p2
        have hbs := BG.out
        refine ⟨k + 1, by omega, by go_num, p2, ?_, (M3.out.setc hbs).setc hbs⟩
        have q : ChRows w1.heap.size wr (zts ts (k + 1)) := by
          rw [← zts_step hlt]
          intro t ht
          rcases List.mem_or_eq_of_mem_set ht with ht | ht
          · exact R3.out t ht
          · subst ht
            have := chRow_zt (R3.out ((zts ts k)[k]'(by rw [zts_len]; exact hlt)) (List.getElem_mem _))
            rwa [zts_at hlt] at this
        intro t ht
        have h1 := (q t ht).grown (grownBy_set wr g (k * 5 + 3) (.int .i64 0)) (fun B vs hB e => owns_ne_row O3.out hB (by decide) (Option.some.inj e))
        exact h1.grown (grownBy_set _ g (k * 5 + 4) (.int .i64 0)) (fun B vs hB e => owns_ne_row p1 hB (by decide) (Option.some.inj e))
      case measure => simp [intOf]; omega
    · obtain rfl : k = ts.length := by omega
      have hcl := zts_all ts
      have hul := zts_len ts ts.length
      obtain ⟨us, hus⟩ : ∃ us, zts ts ts.length = us := ⟨_, rfl⟩
      rw [hus] at hcl hul O3 R3
      have HCK : Hid (cchk (clks us) = 0) := Lib.hid (by rw [hcl]; exact cchk_zc CK.out)
      have HCAL : Hid (calS (clks us) [] = fun _ => true) := Lib.hid (by rw [hcl]; exact cal_free _)
      obtain ⟨L, hL⟩ : ∃ L, ts.length = L := ⟨_, rfl⟩
      rw [hL] at hul O3 hle hge ⊢
      have hcl2 : (clks us).length = L := by rw [clks_len, hul]
      have HC1 := Lib.hid (allOk_cho (cchk_zero HCK.out).2.1)
      have HLU := Lib.hid hul
      have HLC := Lib.hid hcl2
      have GT : Hid (Gr w wr) := Lib.hid (Mv.gr_low HG.out LB.out M3.out)
      have T3 := Lib.hid (M3.out.tp HT.out)
      have lb3 : Hid (b < w1.heap.size) := Lib.hid HB.out
      have SA := setting_any wr b n w1.heap.size c (some ⟨g, 0, none⟩) us T3.out HB.out (by rw [hul]; exact O3.out) R3.out (by omega) HC1.out
      rw [hul] at SA
      have SA' := Lib.hid SA
      clear ho hr hm hus hul hcl hcl2 SA M3 hL
      go_wp2_with fail
      refine SA'.out.mono ?_
      rintro e w3 ⟨f, vf, rfl, hof, hsf, hm3⟩
      have T4 := Lib.hid (hm3.tp T3.out)
      have O4 := Lib.hid (hm3.owns O3.out HB.out)
      have R4 : Hid (ChRows w1.heap.size w3 us) := Lib.hid (fun t ht => (R3.out t ht).mv hm3 HB.out)
      have G4 : Hid (Gr w w3) := Lib.hid (Mv.gr_low GT.out LB.out hm3)
      have OF := Lib.hid hof
      have SF := Lib.hid hsf
      have zr : Hid (w1.heap.size ≤ wr.heap.size ∧ b < wr.heap.size) := Lib.hid (by have := T3.out.has; have := O3.out.lt g rfl; unfold Has at *; omega)
      have SB := setting_any w3 b n w1.heap.size c (some ⟨g, 0, none⟩) us T4.out HB.out (by rw [HLU.out]; exact O4.out) R4.out (by have := HLU.out; omega) HC1.out
      rw [HLU.out] at SB
      have SB' := Lib.hid SB
      clear hof hsf hm3 SA' SB T3 O3 R3 GT
      go_wp2_with fail
      refine SB'.out.mono ?_
      rintro e w4 ⟨t, vt, rfl, hot, hst, hm4⟩
      have O5 := Lib.hid (hm4.owns O4.out HB.out)
      have R5 : Hid (ChRows w1.heap.size w4 us) := Lib.hid (fun t' ht => (R4.out t' ht).mv hm4 HB.out)
      have G5 : Hid (Gr w w4) := Lib.hid (Mv.gr_low G4.out LB.out hm4)
      have of4 := hm4.owns OF.out zr.out.2
      obtain ⟨af, cf, rfl, sf4⟩ := owns_slI of4 (setOk_wide HCK.out SF.out)
      obtain ⟨at', ct, rfl, st4⟩ := owns_slI hot (setOk_wide HCK.out hst)
      obtain ⟨_, _, eq5, _, sl5⟩ := clks_at (by rw [HLU.out]; exact O5.out) R5.out (by have := HLU.out; omega)
      cases eq5
      have env : Env w4 (clks us) [] (some ⟨g, 0, none⟩) none := ⟨sl5, SlOf.nil _ _ _ _, HO.out.gr G5.out, HCK.out, by simp⟩
      have PL := plan_any (clks us) [] f t (some ⟨g, 0, none⟩) none af at' c 0 cf ct w4 env SF.out hst sf4 st4
      rw [SF.out.1, hst.1, HLC.out] at PL
      have PL' := Lib.hid PL
      have SF4 := Lib.hid sf4
      have ST4 := Lib.hid st4
      have TT := Lib.hid hst
      clear PL env sl5 hot hst hm4 of4 sf4 st4 SB' OF O4 R4 G4
      rw [HLC.out]
      go_wp2_with fail
      refine PL'.out.mono ?_
      rintro e w5 ⟨hg5, _, hr5⟩
      obtain ⟨D, hD, _, hsome⟩ := hr5 (by rw [HCAL.out]; rfl)
      rw [HCAL.out] at hD hsome
      obtain ⟨v, rfl, hov⟩ := hsome _ (free_dist TT.out hD SF.out)
      rw [free_planS TT.out hD SF.out, HLC.out] at hov
      have hw : WideW (wantL us.length f t) := by
        intro p hp
        unfold wantL at hp
        obtain ⟨i, hi, hp⟩ := List.mem_filterMap.1 hp
        have hiL := List.mem_range.1 hi
        unfold wantOne at hp
        split at hp
        · cases hp
          have := TT.out.at (i := i) (by rw [HLC.out]; exact hiL)
          have h2 := small_at (cchk_zero HCK.out).1 (k := i) (by rw [HLC.out]; exact hiL)
          rw [kOf_at (by rw [HLC.out]; exact hiL)] at this
          exact ⟨by unfold Wide; omega, by unfold Wide; omega⟩
        · cases hp
      have HW := Lib.hid hw
      obtain ⟨ap, cp, rfl, _, slp⟩ := writes_at hov hw
      have SLP := Lib.hid slp
      have G6 := Lib.hid (G5.out.trans hg5)
      have SF6 := Lib.hid (SF4.out.giI hg5)
      have ST6 := Lib.hid (ST4.out.giI hg5)
      clear slp hov hw hsome hD hr5 hg5 PL' SF4 ST4 G5 O5 R5
      go_wp2_with fail
      obtain ⟨L, hL⟩ : ∃ L, us.length = L := ⟨_, rfl⟩
      rw [hL] at SLP HW HLC ⊢
      obtain ⟨j0, hj, hy0, hy1, hy2⟩ := info_parts infoW
      have fl : Hid (f.length = L) := Lib.hid (by rw [SF.out.1, HLC.out])
      have tl : Hid (t.length = L) := Lib.hid (by rw [TT.out.1, HLC.out])
      have L16 : L ≤ 16 := by omega
      clear hL hge hle
      go_loopw [10, 45] (fun s10 i wr => ∃ (k : Nat) (aw : Option Addr) (cw : Nat), k ≤ L ∧ i = .int .i64 k ∧ s10 = .slice aw (wantL k f t).length cw ∧ wr.ownsRow w5.heap.size 35 3 (.slice aw (wantL k f t).length cw) (wantL k f t).length ((wantL k f t).flatMap encW) ∧ Gr w5 wr) (fun _ i _ => L - (intOf i).toNat)
      case atStart => exact ⟨0, none, 0, Nat.zero_le _, rfl, rfl, World.ownsRow_nil _ _ _ _, Gr.refl _⟩
      case round =>
        obtain ⟨k, aw, cw, hk, rfl, rfl, how, hgw⟩ := hrel
        have OW := Lib.hid how
        have GW := Lib.hid hgw
        have LW := Lib.hid (want_len f t k)
        obtain ⟨m, hm⟩ : ∃ m, (wantL k f t).length = m := ⟨_, rfl⟩
        have HM := Lib.hid hm
        have WS := Lib.hid (want_succ f t k)
        by_cases hlt : k < L
        · have hkf : k < f.length := by have := fl.out; omega
          have hkt : k < t.length := by have := tl.out; omega
          obtain ⟨bf, o1, rfl, ⟨q1, _⟩⟩ := (SF6.out.giI hgw).one k hkf
          obtain ⟨bt, o2, rfl, ⟨q2, z2⟩⟩ := (ST6.out.giI hgw).one k hkt
          have h1 := has_of_cell q1
          have h2 := has_of_cell q2
          have k2 : (k : Int) < L := by omega
          have EF : Hid (sOf f k = f[k]) := Lib.hid (sOf_at hkf)
          have ET : Hid (sOf t k = t[k]) := Lib.hid (sOf_at hkt)
          by_cases he : f[k] = t[k]
          · have bb : (f[k] != t[k]) = false := by simp [he]
            have W1 : Hid (wantL (k + 1) f t = wantL k f t) := Lib.hid (by rw [WS.out]; simp [wantOne, EF.out, ET.out, he])
            clear he how hgw hm
            go_wp2_with fail
            go_quiet (fail)
            go_wp2_with fail
            go_roundw
            case rel => exact ⟨k + 1, aw, cw, by omega, by go_num, by rw [W1.out], by rw [W1.out]; exact Gr.owns OW.out ((Gr.refl _).drewN _), GW.out.drewN _⟩
            case measure => simp [intOf]; omega
          · have bb : (f[k] != t[k]) = true := by simp [he]
            have W1 : Hid (wantL (k + 1) f t = wantL k f t ++ [((k : Int), t[k])]) := Lib.hid (by rw [WS.out]; simp [wantOne, EF.out, ET.out, he])
            obtain ⟨y, hy⟩ : ∃ y, t[k] = y := ⟨_, rfl⟩
            rw [hy] at W1 q2 bb z2
            clear he how hgw hy hm
            go_wp2_with fail
            go_quiet (fail)
            obtain ⟨W7, hW7⟩ : ∃ W7 : World, Hid (W7 = wr.drewN nq) := ⟨_, Lib.hid rfl⟩
            rw [← hW7.out]
            have g7 : Gr wr W7 := by rw [hW7.out]; exact (Gr.refl _).drewN _
            have q2' := cell_gr g7 q2
            have h2' := has_of_cell q2'
            have O7 := Lib.hid (Gr.owns OW.out (g7.alloc (.cells #[.int .i64 1, .int .i64 k, .int .i64 y] 35)))
            have G7 := Lib.hid (GW.out.trans g7)
            have C7 : Hid (∀ j u, (encW ((k : Int), y))[j]? = some u → (W7.alloc (.cells #[.int .i64 1, .int .i64 k, .int .i64 y] 35)).cell? ((⟨W7.heap.size, 0, none⟩ : Addr).add j) = some u) := Lib.hid (row_cells (Row.new W7 #[.int .i64 1, .int .i64 k, .int .i64 y] 35))
            have one : Hid (∀ u ∈ encW ((k : Int), y), u.oneCell' = true) := Lib.hid (by
              intro u hu
              simp only [encW, List.mem_cons, List.not_mem_nil, or_false] at hu
              rcases hu with rfl | rfl | rfl <;> rfl)
            have base : Hid (w5.heap.size ≤ (W7.alloc (.cells #[.int .i64 1, .int .i64 k, .int .i64 y] 35)).heap.size) := Lib.hid (by have := G7.out.size; simp; omega)
            unfold Wide at z2
            clear g7 hW7 q1 q2 h1 h2
            go_wp2_with (first
              | (at_builtin; refine wpList_append_own _ rfl _ _ 30 rfl w5.heap.size 35 j0 (.agg #[.int .i64 0, .int .i64 0, .int .i64 0]) 3 24 Tryd.underlying30 hj hy0 hy1 hy2 rfl (by decide) (.slice aw (wantL k f t).length cw) (wantL k f t).length ((wantL k f t).flatMap encW) rfl O7.out ⟨W7.heap.size, 0, none⟩ 1 1 (encW ((k : Int), y)) rfl rfl C7.out one.out (by have := LW.out; unfold maxLen; omega) (by have := LW.out; omega) base.out ?_; intro v' W8 hown hgrow hnil; obtain ⟨a8, c8, rfl⟩ := owns_slice hown; have O8 := Lib.hid hown; have G8 := Lib.hid hgrow; clear hown hgrow hnil)
              | fail)
            go_roundw
            case rel =>
              have e1 : (wantL (k + 1) f t).length = (wantL k f t).length + 1 := by rw [W1.out]; simp
              have e2 : (wantL (k + 1) f t).flatMap encW = (wantL k f t).flatMap encW ++ encW ((k : Int), y) := by rw [W1.out]; simp
              refine ⟨k + 1, a8, c8, by omega, by go_num, by rw [e1], by rw [e1, e2]; exact O8.out, ?_⟩
              exact (G7.out.alloc _).grown G8.out (fun q e => (O7.out.lt q e).1)
            case measure => simp [intOf]; omega
        · obtain rfl : k = L := by omega
          obtain ⟨aw', cw', ew, _, slw⟩ := writes_at how HW.out
          cases ew
          have SLW := Lib.hid slw
          have GF := Lib.hid (G6.out.trans hgw)
          have SLP2 := Lib.hid (SLP.out.gr RWc.mono hgw)
          have SW := sameWrites_any (wantL k f t) (wantL k f t) ap aw cp cw wr SLP2.out SLW.out (by have := LW.out; unfold Fit; omega) (by have := LW.out; unfold Fit; omega)
          rw [decide_eq_true rfl] at SW
          have SW' := Lib.hid SW
          clear how hgw slw SW hm
          go_wp2_with fail
          refine SW'.out.mono ?_
          rintro e w9 ⟨rfl, hg9⟩
          have G9 := Lib.hid (GF.out.trans hg9)
          clear hg9 SW'
          go_wp2_with fail
          refine (awake_any w9 (HO.out.gr G9.out)).mono ?_
          rintro e w10 ⟨rfl, hg10⟩
          have G10 := Lib.hid (G9.out.trans hg10)
          clear hg10
          go_wp2_with fail
          go_ret
          exact ⟨rfl, G10.out⟩
end Go.Proofs.YtenehghpmnajpaaDoor
