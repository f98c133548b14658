/- What calm is; contract of the search of retune.calm over the limits. Contract of retune.calm. (several texts in one, by wip/tools/merge.py) -/
import Derived.Test.YtenehghpmnajpaaGreatDoorKj
import Derived.Test.YtenehghpmnajpaaGreatDoorKi
import Derived.Test.YtenehghpmnajpaaGreatDoorKk
import Derived.Test.YtenehghpmnajpaaGreatDoorKh
/-! What calm is; contract of the search of retune.calm over the limits. -/
set_option linter.unusedVariables false
set_option linter.unusedSimpArgs false
namespace Go.Proofs.YtenehghpmnajpaaGreatDoor
open Go.RowKit
open Classical

def okIn (r : Rt) (lo hi : Int) : Bool := match r with | some (n, d) => withinB n d lo hi | none => false
def ownOk (r : Rt) (c : Clk) : Bool := match r with | some (n, d) => c.high == 0 || withinB n d c.low c.high | none => true
def rtAt (R : List Rt) (i : Nat) : Rt := R.getD i none
/-- No clock is faster than it may be, or stands still though it is watched. -/
def CalmR (R : List Rt) (l : List Clk) (ms : List Lmt) : Prop := (∀ i (h : i < l.length), ownOk (rtAt R i) l[i] = true) ∧ ∀ j (h : j < ms.length), okIn (rtAt R ms[j].clock.toNat) 0 ms[j].high = true
noncomputable def calS (l : List Clk) (ms : List Lmt) (s : List Int) : Bool := decide (CalmR (rts l s) l ms)
def RtsGood (R : List Rt) : Prop := ∀ j (h : j < R.length), ∀ n d, R[j] = some (n, d) → validB n d = true ∧ 1 ≤ n
theorem rts_good {l : List Clk} {s : List Int} (hc : cchk l = 0) (hs : SetOk l s) : RtsGood (rts l s) := by
  obtain ⟨_, ok, _, fs⟩ := cchk_zero hc
  have h := rts_ok_take ok fs hs l.length (Nat.le_refl _)
  rw [List.take_length, List.take_of_length_le (by rw [hs.1]; exact Nat.le_refl _)] at h
  intro j hj n d e
  obtain ⟨h1, h2, _⟩ := h j hj n d e
  exact ⟨h1, h2⟩
theorem rate_cells {w : World} {RB : Nat} {R : List Rt} (hr : Row w RB 93 (encP (R.map prR))) {k : Nat} (hk : k < R.length) : w.cell? ⟨RB, k * 2, none⟩ = some (.int .i64 (numR (rtAt R k))) ∧ w.cell? ⟨RB, k * 2 + 1, none⟩ = some (.int .i64 (denR (rtAt R k))) := by
  have hl : (R.map prR).length = R.length := by simp
  have hat := encP_at (R.map prR) k (by rw [hl]; exact hk)
  have e : rtAt R k = R[k] := by rw [rtAt, List.getD_eq_getElem?_getD, List.getElem?_eq_getElem hk]; rfl
  refine ⟨?_, ?_⟩
  · rw [hr.cell (k * 2) (by rw [encP_len, hl]; omega), hat.1]; simp [prR, e]
  · rw [hr.cell (k * 2 + 1) (by rw [encP_len, hl]; omega), hat.2]; simp [prR, e]
theorem calm1_any (R : List Rt) (x : Lmt) (B RB : Nat) (w : World) (c : w.cell? ⟨B, 0, none⟩ = some (.slice (some ⟨RB, 0, none⟩) R.length R.length)) (hr : Row w RB 93 (encP (R.map prR))) (hx : 0 ≤ x.clock ∧ x.clock < R.length) (hR : RtsGood R) (hl : R.length ≤ 16) :
    Calls Tryz.prog 127 #[.agg #[.int .i64 x.clock, .int .i64 x.low, .int .i64 x.high], .pointer (some ⟨B, 0, none⟩)] w (Grows w (.bool (!okIn (rtAt R x.clock.toNat) 0 x.high))) := by
  obtain ⟨k, hk⟩ : ∃ k : Nat, x.clock = k := ⟨_, (Int.toNat_of_nonneg hx.1).symm⟩
  have hkl : k < R.length := by omega
  obtain ⟨g0, g1⟩ := rate_cells hr hkl
  have ek : x.clock.toNat = k := by omega
  have e : rtAt R k = R[k] := by rw [rtAt, List.getD_eq_getElem?_getD, List.getElem?_eq_getElem hkl]; rfl
  have hg := hR k hkl
  rw [← e] at hg
  rw [hk, Int.toNat_natCast]
  obtain ⟨r, hrr⟩ : ∃ r, rtAt R k = r := ⟨_, rfl⟩
  rw [hrr] at g0 g1 hg ⊢
  have ch := has_of_cell c
  have gh := hr.has
  have k2 : (k : Int) < R.length := by omega
  clear hr hrr e ek hk hR hx
  cases r with
  | none =>
    simp only [numR, denR] at g0 g1
    go_enter Tryz.func127, Tryz.ntmps127
    go_wp2_with fail
    refine wp_region_grows (by kernel_rfl) (by kernel_rfl) ?_
    repeat (go_big_quiet_step (fail))
    refine wpQuiet_nil ?_
    rintro _ ⟨⟨O, d⟩, rfl⟩
    go_wp2_with fail
    go_ret
    exact ⟨rfl, by repeat (first | with_reducible exact Gr.refl _ | with_reducible refine Gr.xt _ _ ?_ | with_reducible refine Gr.alloc _ ?_)⟩
  | some nd =>
    obtain ⟨n, d⟩ := nd
    obtain ⟨hv, hn1⟩ := hg n d rfl
    obtain ⟨v1, v2, v3, v4, v5⟩ := valid_parts hv
    have nb : (n == 0) = false := beq_eq_false_iff_ne.2 (by omega)
    simp only [numR, denR] at g0 g1
    clear hv v5 hg
    go_enter Tryz.func127, Tryz.ntmps127
    go_wp2_with fail
    refine wp_region_grows (by kernel_rfl) (by kernel_rfl) ?_
    repeat (go_big_quiet_step (first | (go_at_call 115; exact calls_grows (within_any n d 0 x.high _ (by omega) (by omega) (by omega) (by omega)))))
    refine wpQuiet_nil ?_
    rintro _ ⟨⟨O, d⟩, rfl⟩
    go_wp2_with fail
    go_ret
    exact ⟨rfl, by repeat (first | with_reducible exact Gr.refl _ | with_reducible refine Gr.xt _ _ ?_ | with_reducible refine Gr.alloc _ ?_)⟩
def AnyHot (R : List Rt) (m : List Lmt) : Prop := ∃ k, ∃ h : k < m.length, okIn (rtAt R m[k].clock.toNat) 0 m[k].high = false
set_option maxRecDepth 100000 in
set_option maxHeartbeats 1000000 in
theorem indexHot_any (R : List Rt) (m : List Lmt) (am : Option Addr) (cm B RB : Nat) (w : World) (c : w.cell? ⟨B, 0, none⟩ = some (.slice (some ⟨RB, 0, none⟩) R.length R.length)) (hr : Row w RB 93 (encP (R.map prR))) (hR : RtsGood R) (hl : R.length ≤ 16)
    (h : SlOf 3 RLmt w am m) (hm : Fit m.length) (hx : ∀ j (h : j < m.length), 0 ≤ m[j].clock ∧ m[j].clock < R.length) :
    Calls Tryz.prog 151 #[.slice am m.length cm, .func (.func 127) #[] #[.pointer (some ⟨B, 0, none⟩)]] w fun e w' => ∃ y : Int, e = .returned (.int .i64 y) ∧ (0 ≤ y ↔ AnyHot R m) ∧ Gr w w' := by
  unfold Fit at hm
  have H := Lib.hid h
  have HR := Lib.hid hr
  have HC := Lib.hid c
  have RG := Lib.hid hR
  have RL := Lib.hid hl
  have HX := Lib.hid hx
  clear h hr c hR hl hx
  go_enter Tryz.func151, Tryz.ntmps151
  go_wp2
  go_loopw [8] (fun i wr => ∃ k : Nat, k ≤ m.length ∧ i = .int .i64 k ∧ (∀ j (h : j < m.length), j < k → okIn (rtAt R m[j].clock.toNat) 0 m[j].high = true) ∧ Gr w wr) (fun i _ => m.length - (intOf i).toNat)
  case atStart => exact ⟨0, Nat.zero_le _, rfl, fun j _ h => absurd h (by omega), Gr.refl _⟩
  case round =>
    obtain ⟨k, hk, rfl, hall, hg⟩ := hrel
    have HA := Lib.hid hall
    have HG := Lib.hid hg
    clear hall hg
    obtain ⟨wo, rfl⟩ : ∃ wo : World, wo = wr := ⟨_, rfl⟩
    by_cases hlt : k < m.length
    · obtain ⟨b, o, rfl, ⟨c0, _⟩, ⟨c1, _⟩, ⟨c2, _⟩⟩ := lmts_gr H.out HG.out k hlt
      have hcall := calm1_any R m[k] B RB wo (cell_gr HG.out HC.out) (HR.out.gr HG.out) (HX.out k hlt) RG.out RL.out
      cases hq : okIn (rtAt R m[k].clock.toNat) 0 m[k].high with
      | true =>
        rw [hq] at hcall
        have Q := Lib.hid hq
        clear hq
        go_wp2_with fail
        refine hcall.mono ?_
        rintro e w' ⟨rfl, O, d, rfl⟩
        go_wp2_with fail
        go_roundw
        case rel =>
          refine ⟨k + 1, by omega, by go_num, fun j h1 hj => ?_, HG.out.xt _ _⟩
          by_cases e : j = k
          · subst e; exact Q.out
          · exact HA.out j h1 (by omega)
        case measure => simp [intOf]; omega
      | false =>
        rw [hq] at hcall
        have Q := Lib.hid hq
        clear hq
        go_wp2_with fail
        refine hcall.mono ?_
        rintro e w' ⟨rfl, O, d, rfl⟩
        go_wp2_with fail
        go_ret
        exact ⟨k, rfl, ⟨fun _ => ⟨k, hlt, Q.out⟩, fun _ => by omega⟩, HG.out.xt _ _⟩
    · go_wp2
      go_ret
      exact ⟨-1, rfl, ⟨fun q => by omega, fun ⟨j, hj, q⟩ => by rw [HA.out j hj (by omega)] at q; cases q⟩, HG.out⟩
theorem containsHot_any (R : List Rt) (m : List Lmt) (am : Option Addr) (cm B RB : Nat) (w : World) (c : w.cell? ⟨B, 0, none⟩ = some (.slice (some ⟨RB, 0, none⟩) R.length R.length)) (hr : Row w RB 93 (encP (R.map prR))) (hR : RtsGood R) (hl : R.length ≤ 16)
    (h : SlOf 3 RLmt w am m) (hm : Fit m.length) (hx : ∀ j (h : j < m.length), 0 ≤ m[j].clock ∧ m[j].clock < R.length) :
    Calls Tryz.prog 124 #[.slice am m.length cm, .func (.func 127) #[] #[.pointer (some ⟨B, 0, none⟩)]] w (Grows w (.bool (decide (AnyHot R m)))) := by
  have IX := Lib.hid (indexHot_any R m am cm B RB w c hr hR hl h hm hx)
  clear h hr hR hl hx c hm
  go_enter Tryz.func124, Tryz.ntmps124
  go_wp2_with fail
  refine IX.out.mono ?_
  rintro e w' ⟨y, rfl, hy, hg⟩
  have HY := Lib.hid hy
  have HG := Lib.hid hg
  clear hy hg
  go_wp2_with fail
  go_ret
  exact ⟨ret_bool (by rw [decide_eq_decide]; exact HY.out), HG.out⟩
end Go.Proofs.YtenehghpmnajpaaGreatDoor

/-! Contract of retune.calm. -/
set_option linter.unusedVariables false
set_option linter.unusedSimpArgs false
namespace Go.Proofs.YtenehghpmnajpaaGreatDoor
open Go.RowKit
open Classical

set_option maxRecDepth 100000 in
set_option maxHeartbeats 2000000 in
theorem calm_any (l : List Clk) (ms : List Lmt) (s : List Int) (al aS am : Option Addr) (cl cs cm : Nat) (w : World) (h : SlOf 5 RClk w al l) (hs : SlOf 1 RI w aS s) (hm : SlOf 3 RLmt w am ms) (hc : cchk l = 0) (hset : SetOk l s) (hlm : ms.length ≤ 32 ∧ ∀ j (h : j < ms.length), LmtOk l ms[j]) (hoff : OffV w) :
    Calls Tryz.prog 98 #[.slice al l.length cl, .slice aS s.length cs, .slice am ms.length cm] w (Grows w (.bool (calS l ms s))) := by
  obtain ⟨nb, _, _, _⟩ := cchk_zero hc
  have hl := small_len nb
  have hRl : (rts l s).length = l.length := rts_len _ _ hset.1.symm
  have RG := Lib.hid (rts_good hc hset)
  have HX : Hid (∀ j (h : j < ms.length), 0 ≤ ms[j].clock ∧ ms[j].clock < (rts l s).length) := Lib.hid fun j hj => by
    have := hlm.2 j hj; rw [hRl]; exact ⟨this.1, this.2.1⟩
  have hml := hlm.1
  have RT := Lib.hid (pRates_any l s al aS cl cs w h hs hc hset hoff)
  have NB := Lib.hid nb
  have H := Lib.hid h
  have HM := Lib.hid hm
  obtain ⟨R, eR⟩ : ∃ R, rts l s = R := ⟨_, rfl⟩
  have ER := Lib.hid eR
  have RT2 : Hid (Calls Tryz.prog 109 #[.slice al l.length cl, .slice aS s.length cs] w (fun e w' => ∃ RB, e = .returned (.tuple #[.slice (some ⟨RB, 0, none⟩) l.length l.length, .int .i64 0]) ∧ Row w' RB 93 (encP (R.map prR)) ∧ w.heap.size ≤ RB ∧ Gr w w')) := Lib.hid (by rw [← eR]; exact RT.out)
  rw [eR] at RG HX hRl
  have cal : calS l ms s = decide (CalmR R l ms) := by rw [← eR]; rfl
  rw [cal]
  clear cal RT h hs hm hc hset hlm hoff nb eR
  go_enter Tryz.func98, Tryz.ntmps98
  go_wp2_with fail
  refine RT2.out.mono ?_
  rintro e w1 ⟨RB, rfl, hr, hb, hg⟩
  have HR := Lib.hid hr
  have G1 := Lib.hid hg
  clear hr hb hg RT2
  go_wp2_with fail
  obtain ⟨W2, hW2⟩ : ∃ W2 : World, Hid (W2 = w1.alloc (.cells #[.slice (some ⟨RB, 0, none⟩) l.length l.length] 87)) := ⟨_, Lib.hid rfl⟩
  rw [← hW2.out]
  obtain ⟨BR, hBR⟩ : ∃ BR : Nat, Hid (w1.heap.size = BR) := ⟨_, Lib.hid rfl⟩
  rw [hBR.out]
  have C2 : Hid (Row W2 BR 87 [.slice (some ⟨RB, 0, none⟩) l.length l.length]) := Lib.hid (by rw [hW2.out, ← hBR.out]; exact Row.new w1 _ _)
  have R2 : Hid (Row W2 RB 93 (encP (R.map prR))) := Lib.hid (by rw [hW2.out]; exact HR.out.alloc _)
  have G2 : Hid (Gr w W2) := Lib.hid (by rw [hW2.out]; exact G1.out.alloc _)
  clear hW2 hBR HR G1
  go_loopw [19] (fun i wr => ∃ k : Nat, k ≤ l.length ∧ i = .int .i64 k ∧ (∀ j (h : j < l.length), j < k → ownOk (rtAt R j) l[j] = true) ∧ Gr W2 wr) (fun i _ => l.length - (intOf i).toNat)
  case atStart => exact ⟨0, Nat.zero_le _, rfl, fun j _ h => absurd h (by omega), Gr.refl _⟩
  case round =>
    obtain ⟨k, hk, rfl, hall, hg⟩ := hrel
    have HA := Lib.hid hall
    have HG := Lib.hid hg
    clear hall hg
    obtain ⟨wo, rfl⟩ : ∃ wo : World, wo = wr := ⟨_, rfl⟩
    have c0 := (C2.out.gr HG.out).cell 0 (by simp)
    simp only [List.getElem_cons_zero] at c0
    have ch := has_of_cell c0
    by_cases hlt : k < l.length
    · obtain ⟨b, o, rfl, ⟨d0, _⟩, ⟨ap, cp, d1, _⟩, ⟨ac, cc, d2, _⟩, ⟨d3, _⟩, ⟨d4, _⟩⟩ := clks_gr H.out (G2.out.trans HG.out) k hlt
      have hkl : k < R.length := by omega
      obtain ⟨g0, g1⟩ := rate_cells (R2.out.gr HG.out) hkl
      have e : rtAt R k = R[k] := by rw [rtAt, List.getD_eq_getElem?_getD, List.getElem?_eq_getElem hkl]; rfl
      have hgd := RG.out k hkl
      rw [← e] at hgd
      obtain ⟨r, hrr⟩ : ∃ r, rtAt R k = r := ⟨_, rfl⟩
      rw [hrr] at g0 g1 hgd
      have gh := (R2.out.gr HG.out).has
      have k2 : (k : Int) < l.length := by omega
      have RR := Lib.hid hrr
      have next : ownOk r l[k] = true → ∀ j (h : j < l.length), j < k + 1 → ownOk (rtAt R j) l[j] = true := fun q j h1 hj => by
        by_cases e : j = k
        · subst e; rw [RR.out]; exact q
        · exact HA.out j h1 (by omega)
      have NX := Lib.hid next
      clear hrr e next
      cases r with
      | none =>
        simp only [numR, denR] at g0 g1
        clear hgd
        go_wp2_with fail
        refine wp_region_grows (by kernel_rfl) (by kernel_rfl) ?_
        repeat (go_big_quiet_step (fail))
        refine wpQuiet_nil ?_
        rintro _ ⟨⟨O, d⟩, rfl⟩
        go_wp2_with fail
        go_roundw
        case rel => exact ⟨k + 1, by omega, by go_num, NX.out rfl, (HG.out.alloc _).xt _ _⟩
        case measure => simp [intOf]; omega
      | some nd =>
        obtain ⟨n, d⟩ := nd
        obtain ⟨hv, hn1⟩ := hgd n d rfl
        obtain ⟨v1, v2, v3, v4, v5⟩ := valid_parts hv
        have nb : (n == 0) = false := beq_eq_false_iff_ne.2 (by omega)
        have nb2 : (n != 0) = true := by simp; omega
        simp only [numR, denR] at g0 g1
        clear hv v5 hgd
        by_cases h0 : l[k].high = 0
        · have hb : (l[k].high != 0) = false := by simp [h0]
          have NX2 := NX.out (by simp [ownOk, h0])
          have NX3 := Lib.hid NX2
          clear h0 NX2 NX
          go_wp2_with fail
          refine wp_region_grows (by kernel_rfl) (by kernel_rfl) ?_
          repeat (go_big_quiet_step (fail))
          refine wpQuiet_nil ?_
          rintro _ ⟨⟨O, d⟩, rfl⟩
          go_wp2_with fail
          go_roundw
          case rel => exact ⟨k + 1, by omega, by go_num, NX3.out, (HG.out.alloc _).xt _ _⟩
          case measure => simp [intOf]; omega
        · have hb : (l[k].high != 0) = true := by simp [h0]
          have hb2 : (l[k].high == 0) = false := by simp [h0]
          cases hq : withinB n d l[k].low l[k].high with
          | true =>
            have NX2 := NX.out (by simp [ownOk, hq])
            have NX3 := Lib.hid NX2
            have wq := within_any n d l[k].low l[k].high
            rw [hq] at wq
            clear h0 NX2 NX hq hb2
            go_wp2_with fail
            refine wp_region_grows (by kernel_rfl) (by kernel_rfl) ?_
            repeat (go_big_quiet_step (first | (go_at_call 115; exact calls_grows (wq _ (by omega) (by omega) (by omega) (by omega)))))
            refine wpQuiet_nil ?_
            rintro _ ⟨⟨O, d⟩, rfl⟩
            go_wp2_with fail
            go_roundw
            case rel => exact ⟨k + 1, by omega, by go_num, NX3.out, (HG.out.alloc _).xt _ _⟩
            case measure => simp [intOf]; omega
          | false =>
            have bad : Hid (¬ CalmR R l ms) := Lib.hid fun q => by
              have := q.1 k hlt
              rw [RR.out] at this
              simp [ownOk, hb2, hq] at this
            have wq := within_any n d l[k].low l[k].high
            rw [hq] at wq
            clear h0 NX hq hb2
            go_wp2_with fail
            refine wp_region_grows (by kernel_rfl) (by kernel_rfl) ?_
            repeat (go_big_quiet_step (first | (go_at_call 115; exact calls_grows (wq _ (by omega) (by omega) (by omega) (by omega)))))
            refine wpQuiet_nil ?_
            rintro _ ⟨⟨O, d⟩, rfl⟩
            go_wp2_with fail
            go_ret
            exact ⟨ret_bool (decide_eq_false bad.out).symm, ((G2.out.trans HG.out).alloc _).xt _ _⟩
    · have HA2 : Hid (∀ j (h : j < l.length), ownOk (rtAt R j) l[j] = true) := Lib.hid fun j h => HA.out j h (by omega)
      clear HA
      rw [← hRl] at c0
      go_wp2_with fail
      refine (containsHot_any R ms am cm BR RB wo c0 (R2.out.gr HG.out) RG.out (by omega) (lmts_gr HM.out (G2.out.trans HG.out)) (by unfold Fit; omega) HX.out).mono ?_
      rintro e w' ⟨rfl, O, d, rfl⟩
      by_cases hq : AnyHot R ms
      · rw [decide_eq_true hq]
        have bad : Hid (¬ CalmR R l ms) := Lib.hid fun q => by
          obtain ⟨k, hk, e⟩ := hq
          rw [q.2 k hk] at e; cases e
        clear hq
        go_wp2_with fail
        go_ret
        exact ⟨ret_bool (decide_eq_false bad.out).symm, (G2.out.trans HG.out).xt _ _⟩
      · rw [decide_eq_false hq]
        have good : Hid (CalmR R l ms) := Lib.hid ⟨HA2.out, fun j hj => by
          cases e : okIn (rtAt R ms[j].clock.toNat) 0 ms[j].high with
          | true => rfl
          | false => exact absurd ⟨j, hj, e⟩ hq⟩
        clear hq
        go_wp2_with fail
        go_ret
        exact ⟨ret_bool (decide_eq_true good.out).symm, (G2.out.trans HG.out).xt _ _⟩
end Go.Proofs.YtenehghpmnajpaaGreatDoor

/-! Plain: clocks whose limits are struck. No program in sight. -/
set_option linter.unusedVariables false
set_option linter.unusedSimpArgs false
namespace Go.Proofs.YtenehghpmnajpaaGreatDoor
open Classical

/-- A clock without limits. -/
def zc (c : Clk) : Clk := { c with low := 0, high := 0 }
theorem prodC_zc (l : List Clk) : prodC (l.map zc) = prodC l := by
  induction l with
  | nil => rfl
  | cons c l ih => simp only [List.map_cons, prodC, ih]; rfl
theorem facs_zc (l : List Clk) : facs (l.map zc) = facs l := by
  have : ∀ out, facsGo (l.map zc) out = facsGo l out := by
    induction l with
    | nil => intro out; rfl
    | cons c l ih => intro out; simp only [List.map_cons, facsGo, ih]; rfl
  exact this []
theorem cchk_zc {l : List Clk} (h : cchk l = 0) : cchk (l.map zc) = 0 := by
  obtain ⟨nb, ok, pr, fs⟩ := cchk_zero h
  refine cchk_ok ?_ ?_ (by rw [prodC_zc]; exact pr) (by rw [facs_zc]; exact fs)
  · rintro (q | ⟨k, hk, q⟩)
    · exact nb (.inl (by simpa using q))
    · have hk' : k < l.length := by simpa using hk
      rw [List.getElem_map] at q
      exact nb (.inr ⟨k, hk', q⟩)
  · intro k hk
    have hk' : k < l.length := by simpa using hk
    obtain ⟨_, hp, hc, hl⟩ := ok k hk'
    refine ⟨hk, ?_⟩
    rw [List.getElem_map]
    exact ⟨hp, hc, by unfold LimOk zc; simp⟩
theorem setOk_zc {l : List Clk} {s : List Int} (h : SetOk l s) : SetOk (l.map zc) s :=
  ⟨by simpa using h.1, fun i h1 h2 => by
    have h1' : i < l.length := by simpa using h1
    rw [List.getElem_map]; exact h.2 i h1' h2⟩
theorem calm_zc (l : List Clk) (s : List Int) : calS (l.map zc) [] s = true := by
  unfold calS
  rw [decide_eq_true_eq]
  refine ⟨fun i h => ?_, fun j h => by simp at h⟩
  rw [List.getElem_map]
  unfold ownOk
  split <;> simp [zc]
theorem cal_free (l : List Clk) : calS (l.map zc) [] = fun _ => true := funext fun s => calm_zc l s
end Go.Proofs.YtenehghpmnajpaaGreatDoor

/-! Contracts of the number of a setting, and of the setting with a number. -/
set_option linter.unusedVariables false
set_option linter.unusedSimpArgs false
namespace Go.Proofs.YtenehghpmnajpaaGreatDoor
open Go.RowKit
open Classical

theorem numU_small {l : List Clk} {s : List Int} (hc : cchk l = 0) (hs : SetOk l s) {j : Nat} (hj : j ≤ l.length) : 0 ≤ numU (kOf l) (sOf s) j ∧ numU (kOf l) (sOf s) j < 4096 := by
  obtain ⟨nb, ok, pr, fs⟩ := cchk_zero hc
  have h1 := numU_bound hs j hj
  have h2 := prodC_take_le (allOk_cho ok) j
  omega
theorem num_small {l : List Clk} {s : List Int} (hc : cchk l = 0) (hs : SetOk l s) : 0 ≤ num l s ∧ num l s < 4096 := numU_small hc hs (Nat.le_refl _)
set_option maxRecDepth 100000 in
set_option maxHeartbeats 1000000 in
theorem number_any (l : List Clk) (s : List Int) (al aS am : Option Addr) (cl cs ml cm : Nat) (kv : Value) (w : World) (h : SlOf 5 RClk w al l) (hs : SlOf 1 RI w aS s) (hc : cchk l = 0) (hset : SetOk l s) :
    Calls Tryz.prog 81 #[.agg #[.slice al l.length cl, .slice am ml cm, kv], .slice aS s.length cs] w (Grows w (.int .i64 (num l s))) := by
  obtain ⟨nb, _, _, _⟩ := cchk_zero hc
  have hl := small_len nb
  have hsl : s.length ≤ 16 := by have := hset.1; omega
  have NB := Lib.hid nb
  have H := Lib.hid (clks_gr h ((Gr.refl w).alloc (.cells #[.slice al l.length cl, .slice am ml cm, kv] 127)))
  have HS := Lib.hid (hs.giI ((Gr.refl w).alloc (.cells #[.slice al l.length cl, .slice am ml cm, kv] 127)))
  have HC := Lib.hid hc
  have HT := Lib.hid hset
  clear h hs hc hset nb
  go_enter Tryz.func81, Tryz.ntmps81
  go_wp2
  go_loop [5, 10] (fun n i => ∃ k : Nat, k ≤ s.length ∧ i = .int .i64 k ∧ n = .int .i64 (numU (kOf l) (sOf s) k)) (fun _ i => s.length - (intOf i).toNat)
  case atStart => exact ⟨0, Nat.zero_le _, rfl, rfl⟩
  case round =>
    obtain ⟨k, hk, rfl, rfl⟩ := hrel
    by_cases hlt : k < s.length
    · have hlt2 : k < l.length := by have := HT.out.1; omega
      have hx := numU_small HC.out HT.out (j := k) (by omega)
      have hx1 := numU_small HC.out HT.out (j := k + 1) (by omega)
      simp only [numU, sOf_at hlt, kOf_at hlt2] at hx1
      obtain ⟨x, ex⟩ : ∃ x, numU (kOf l) (sOf s) k = x := ⟨_, rfl⟩
      have hstep : Hid (numU (kOf l) (sOf s) (k + 1) = x * (l[k].choices.length : Int) + s[k]) := Lib.hid (by simp only [numU, sOf_at hlt, kOf_at hlt2, ex])
      rw [ex] at hx hx1 ⊢
      have hset := HT.out.2 k hlt2 hlt
      obtain ⟨fp, fc⟩ := small_at NB.out hlt2
      have hm : 0 ≤ x * (l[k].choices.length : Int) := Int.mul_nonneg hx.1 (by omega)
      have hm1 : x * (l[k].choices.length : Int) ≤ 4096 := by omega
      obtain ⟨bs, os, rfl, ⟨q1, _⟩⟩ := HS.out.one k hlt
      obtain ⟨b, o, rfl, ⟨c0, _⟩, ⟨ap, cp, c1, c1l, c1f, sp⟩, ⟨ac, cc, c2, c2l, c2f, sc⟩, ⟨c4, _⟩, c5, _⟩ := H.out k hlt2
      unfold Fit at c2f
      have k2 : (k : Int) < l.length := by omega
      clear sp sc c1f c0 c1 c4 c5 ex
      go_wp2_with fail
      go_round
      case rel => exact ⟨k + 1, by omega, by go_num, by rw [hstep.out]⟩
      case measure => simp [intOf]; omega
    · obtain rfl : k = s.length := by omega
      go_wp2
      go_ret
      exact ⟨by rw [num, HT.out.1]; rfl, (Gr.refl _).alloc _⟩
/-- Noughts, and the choices from a place on. -/
def setV (s : List Int) (j : Nat) : List Int := List.replicate j 0 ++ s.drop j
theorem setV_len (s : List Int) (j : Nat) (h : j ≤ s.length) : (setV s j).length = s.length := by simp [setV]; omega
theorem setV_step (s : List Int) (j : Nat) (h : j < s.length) : (setV s (j + 1)).set j s[j] = setV s j := by
  unfold setV
  rw [List.replicate_succ', List.append_assoc, List.set_append_right _ _ (by simp), List.drop_eq_getElem_cons h]
  simp
set_option maxRecDepth 100000 in
set_option maxHeartbeats 1000000 in
theorem spSet_any (l : List Clk) (s : List Int) (al am : Option Addr) (cl ml cm : Nat) (kv : Value) (w : World) (h : SlOf 5 RClk w al l) (hc : cchk l = 0) (hset : SetOk l s) :
    Calls Tryz.prog 85 #[.agg #[.slice al l.length cl, .slice am ml cm, kv], .int .i64 (num l s)] w
      fun e w' => ∃ RB, e = .returned (.slice (some ⟨RB, 0, none⟩) l.length l.length) ∧ Row w' RB 3 (nums s) ∧ w.heap.size ≤ RB ∧ Gr w w' := by
  obtain ⟨nb, _, _, _⟩ := cchk_zero hc
  have hl := small_len nb
  have NB := Lib.hid nb
  have H := Lib.hid h
  have HC := Lib.hid hc
  have HT := Lib.hid hset
  have hsl : s.length = l.length := hset.1
  clear h hc hset nb
  obtain ⟨j0, hj, hy0, hy1, hy2⟩ := info_parts infoInt
  have hmk : ∀ W : World, (Instr.makeSlice 22 (.int .i64 (l.length : Int)) (.int .i64 (l.length : Int))).run Tryz.prog W = .ok (.slice (some ⟨W.heap.size, 0, none⟩) l.length l.length) (W.alloc (.cells (madeCells #[.int .i64 0] l.length) 3)) := fun W => by
    have hr := run_make (P := Tryz.prog) W 22 3 j0 (.int .i64 0) Tryz.underlying22 hj hy0 .i64 .i64 l.length l.length (by omega) (Int.le_refl _) (by rw [hy2]; omega) (by omega)
    simp only [Int.toNat_natCast, hy1, Nat.mul_one] at hr
    exact hr
  obtain ⟨n, hn⟩ : ∃ n, num l s = n := ⟨_, rfl⟩
  rw [hn]
  have HN := Lib.hid hn
  clear hn
  go_enter Tryz.func85, Tryz.ntmps85
  go_wp2_with fail
  obtain ⟨W2, hW2⟩ : ∃ W2 : World, Hid (W2 = (w.alloc (.cells #[.slice al l.length cl, .slice am ml cm, kv] 127)).alloc (.cells (madeCells #[.int .i64 0] l.length) 3)) := ⟨_, Lib.hid rfl⟩
  rw [← hW2.out]
  obtain ⟨RB, hRB⟩ : ∃ RB : Nat, Hid (w.heap.size + 1 = RB) := ⟨_, Lib.hid rfl⟩
  rw [hRB.out]
  obtain ⟨XB, hXB⟩ : ∃ XB : Nat, Hid (w.heap.size = XB) := ⟨_, Lib.hid rfl⟩
  rw [hXB.out]
  have R2 : Hid (Row W2 RB 3 (nums (setV s l.length))) := Lib.hid (by
    rw [hW2.out, ← hRB.out]
    have := Row.new (w.alloc (.cells #[.slice al l.length cl, .slice am ml cm, kv] 127)) (madeCells #[.int .i64 0] l.length) 3
    rw [made_zero] at this
    have e : s.drop l.length = [] := List.drop_of_length_le (by omega)
    simpa [setV, nums, e] using this)
  have X2 : Hid (Row W2 XB 127 [.slice al l.length cl, .slice am ml cm, kv]) := Lib.hid (by
    rw [hW2.out, ← hXB.out]
    exact (Row.new w #[.slice al l.length cl, .slice am ml cm, kv] 127).alloc _)
  have HG2 : Hid (Gr w W2) := Lib.hid (by rw [hW2.out]; exact ((Gr.refl _).alloc _).alloc _)
  have rb : Hid (w.heap.size ≤ RB) := Lib.hid (by have := hRB.out; omega)
  have xr : Hid (XB ≠ RB) := Lib.hid (by have := hRB.out; have := hXB.out; omega)
  have xb : Hid (w.heap.size ≤ XB) := Lib.hid (by have := hXB.out; omega)
  clear hW2 hmk hRB hXB
  go_loopw [1, 6] (fun n i wr => ∃ k : Nat, k ≤ l.length ∧ i = .int .i64 ((k : Int) - 1) ∧ n = .int .i64 (numU (kOf l) (sOf s) k) ∧ Row wr RB 3 (nums (setV s k)) ∧ Row wr XB 127 [.slice al l.length cl, .slice am ml cm, kv] ∧ Gr w wr) (fun _ i _ => (intOf i + 1).toNat)
  case atStart => exact ⟨l.length, Nat.le_refl _, by go_num, by rw [← HN.out]; rfl, R2.out, X2.out, HG2.out⟩
  case round =>
    clear R2 HG2 X2
    obtain ⟨k', hk, rfl, rfl, hr, hx, hg⟩ := hrel
    have HR := Lib.hid hr
    have HX := Lib.hid hx
    have HG := Lib.hid hg
    clear hr hx hg
    cases k' with
    | zero =>
      go_wp2_with fail
      go_ret
      exact ⟨RB, rfl, by have := HR.out; simpa [setV] using this, rb.out, HG.out⟩
    | succ k =>
      have hlt : k < s.length := by omega
      have hlt2 : k < l.length := by omega
      have hdm := numU_divmod HT.out hlt2
      rw [sOf_at hlt, kOf_at hlt2] at hdm
      have hx1 := numU_small HC.out HT.out (j := k + 1) (by omega)
      have hx0 := numU_small HC.out HT.out (j := k) (by omega)
      obtain ⟨x, ex⟩ : ∃ x, numU (kOf l) (sOf s) (k + 1) = x := ⟨_, rfl⟩
      obtain ⟨y, ey⟩ : ∃ y, numU (kOf l) (sOf s) k = y := ⟨_, rfl⟩
      rw [ex] at hdm hx1 ⊢
      rw [ey] at hdm hx0
      have hset := HT.out.2 k hlt2 hlt
      obtain ⟨fp, fc⟩ := small_at NB.out hlt2
      have kp : 0 < (l[k].choices.length : Int) := by omega
      have hq : x.tdiv (l[k].choices.length : Int) = y := by rw [Int.tdiv_eq_ediv_of_nonneg hx1.1, hdm.1]
      have hm : x.tmod (l[k].choices.length : Int) = s[k] := by rw [Int.tmod_eq_emod_of_nonneg hx1.1, hdm.2]
      obtain ⟨b, o, rfl, ⟨c0, _⟩, ⟨ap, cp, c1, c1l, c1f, sp⟩, ⟨ac, cc, c2, c2l, c2f, sc⟩, ⟨c4, _⟩, c5, _⟩ := clks_gr H.out HG.out k hlt2
      unfold Fit at c2f
      have k2 : (k : Int) < l.length := by omega
      have x0 := HX.out.cell 0 (by simp)
      simp only [List.getElem_cons_zero] at x0
      have xh := HX.out.has
      have e0 := HR.out.cell k (by rw [nums_len, setV_len _ _ (by omega)]; omega)
      have f0 := HR.out.free k
      have rh := HR.out.has
      have ST := Lib.hid (setV_step s k hlt)
      have EY := Lib.hid ey
      clear sp sc c1f c0 c1 c4 c5 ex ey hdm
      rw [show ((k + 1 : Nat) : Int) - 1 = (k : Int) by omega]
      go_wp2_with fail
      go_region
      go_wp2_with fail
      go_roundw
      case rel => exact ⟨k, by omega, by go_num, by rw [EY.out], by rw [← ST.out]; exact (HR.out.iset k _).drew, (HX.out.oth (Ne.symm xr.out)).drew, (HG.out.setc rb.out).drew⟩
      case measure => simp [intOf]
end Go.Proofs.YtenehghpmnajpaaGreatDoor
