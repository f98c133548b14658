/- Lemmas and contracts for the proof of RetuneAnswers (several texts in one, printed by wip/tools/pack.py): Kl Km EaC. -/
import Derived.Test.YtenehghpmnajpaaGreatDoorRa8pf
import Derived.Test.YtenehghpmnajpaaGreatDoorRa8pg
import Derived.Test.YtenehghpmnajpaaGreatDoorRa8pe
import Derived.Test.YtenehghpmnajpaaGreatDoorRa8pb
set_option maxRecDepth 100000
set_option maxHeartbeats 16000000

/-! What calm is; contract of the search of retune.calm over the limits. -/
set_option linter.unusedVariables false
set_option linter.unusedSimpArgs false
namespace Go.Proofs.YtenehghpmnajpaaGreatDoor
open Go.RowKit
open Classical
def okIn (r : Rt) (lo hi : Int) : Bool := match r with | some (n, d) => withinB n d lo hi | none => false
def ownOk (r : Rt) (c : Clk) : Bool := match r with | some (n, d) => c.high == 0 || withinB n d c.low c.high | none => true
def rtAt (R : List Rt) (i : Nat) : Rt := R.getD i none
def CalmR (R : List Rt) (l : List Clk) (ms : List Lmt) : Prop := (∀ i (h : i < l.length), ownOk (rtAt R i) l[i] = true) ∧ ∀ j (h : j < ms.length), okIn (rtAt R ms[j].clock.toNat) 0 ms[j].high = true
noncomputable def calS (l : List Clk) (ms : List Lmt) (s : List Int) : Bool := decide (CalmR (rts l s) l ms)
def RtsGood (R : List Rt) : Prop := ∀ j (h : j < R.length), ∀ n d, R[j] = some (n, d) → validB n d = true ∧ 1 ≤ n
theorem rts_good {l : List Clk} {s : List Int} (hc : cchk l = 0) (hs : SetOk l s) : RtsGood (rts l s) := by
  obtain ⟨_, ok, _, fs⟩ := cchk_zero hc
  have h := rts_ok_take ok fs hs l.length (Nat.le_refl _)
  rw [List.take_length, List.take_of_length_le (by rw [hs.1]; exact Nat.le_refl _)] at h
  intro j hj n d e
  obtain ⟨h1, h2, _⟩ := h j hj n d e
  exact ⟨h1, h2⟩
theorem rate_cells {w : World} {RB : Nat} {R : List Rt} (hr : Row w RB 93 (encP (R.map prR))) {k : Nat} (hk : k < R.length) : w.cell? ⟨RB, k * 2, none⟩ = some (.int .i64 (numR (rtAt R k))) ∧ w.cell? ⟨RB, k * 2 + 1, none⟩ = some (.int .i64 (denR (rtAt R k))) := by
  have hl : (R.map prR).length = R.length := by simp
  have hat := encP_at (R.map prR) k (by rw [hl]; exact hk)
  have e : rtAt R k = R[k] := by rw [rtAt, List.getD_eq_getElem?_getD, List.getElem?_eq_getElem hk]; rfl
  refine ⟨?_, ?_⟩
  · rw [hr.cell (k * 2) (by rw [encP_len, hl]; omega), hat.1]; simp [prR, e]
  · rw [hr.cell (k * 2 + 1) (by rw [encP_len, hl]; omega), hat.2]; simp [prR, e]
theorem calm1_any (R : List Rt) (x : Lmt) (B RB : Nat) (w : World) (c : w.cell? ⟨B, 0, none⟩ = some (.slice (some ⟨RB, 0, none⟩) R.length R.length)) (hr : Row w RB 93 (encP (R.map prR))) (hx : 0 ≤ x.clock ∧ x.clock < R.length) (hR : RtsGood R) (hl : R.length ≤ 16) :
    Calls Tryz.prog 127 #[.agg #[.int .i64 x.clock, .int .i64 x.low, .int .i64 x.high], .pointer (some ⟨B, 0, none⟩)] w (Grows w (.bool (!okIn (rtAt R x.clock.toNat) 0 x.high))) := by
  obtain ⟨k, hk⟩ : ∃ k : Nat, x.clock = k := ⟨_, (Int.toNat_of_nonneg hx.1).symm⟩
  have hkl : k < R.length := by omega
  obtain ⟨g0, g1⟩ := rate_cells hr hkl
  have ek : x.clock.toNat = k := by omega
  have e : rtAt R k = R[k] := by rw [rtAt, List.getD_eq_getElem?_getD, List.getElem?_eq_getElem hkl]; rfl
  have hg := hR k hkl
  rw [← e] at hg
  rw [hk, Int.toNat_natCast]
  obtain ⟨r, hrr⟩ : ∃ r, rtAt R k = r := ⟨_, rfl⟩
  rw [hrr] at g0 g1 hg ⊢
  have ch := has_of_cell c
  have gh := hr.has
  have k2 : (k : Int) < R.length := by omega
  clear hr hrr e ek hk hR hx
  cases r with
  | none =>
    simp only [numR, denR] at g0 g1
    go_enter Tryz.func127, Tryz.ntmps127
    go_wp2_with fail
    refine wp_region_grows (by kernel_rfl) (by kernel_rfl) ?_
    repeat (go_big_quiet_step (fail))
    refine wpQuiet_nil ?_
    rintro _ ⟨⟨O, d⟩, rfl⟩
    go_wp2_with fail
    go_ret
    exact ⟨rfl, by repeat (first | with_reducible exact Gr.refl _ | with_reducible refine Gr.xt _ _ ?_ | with_reducible refine Gr.alloc _ ?_)⟩
  | some nd =>
    obtain ⟨n, d⟩ := nd
    obtain ⟨hv, hn1⟩ := hg n d rfl
    obtain ⟨v1, v2, v3, v4, v5⟩ := valid_parts hv
    have nb : (n == 0) = false := beq_eq_false_iff_ne.2 (by omega)
    simp only [numR, denR] at g0 g1
    clear hv v5 hg
    go_enter Tryz.func127, Tryz.ntmps127
    go_wp2_with fail
    refine wp_region_grows (by kernel_rfl) (by kernel_rfl) ?_
    repeat (go_big_quiet_step (first | (go_at_call 115; exact calls_grows (within_any n d 0 x.high _ (by omega) (by omega) (by omega) (by omega)))))
    refine wpQuiet_nil ?_
    rintro _ ⟨⟨O, d⟩, rfl⟩
    go_wp2_with fail
    go_ret
    exact ⟨rfl, by repeat (first | with_reducible exact Gr.refl _ | with_reducible refine Gr.xt _ _ ?_ | with_reducible refine Gr.alloc _ ?_)⟩
def AnyHot (R : List Rt) (m : List Lmt) : Prop := ∃ k, ∃ h : k < m.length, okIn (rtAt R m[k].clock.toNat) 0 m[k].high = false
theorem indexHot_any (R : List Rt) (m : List Lmt) (am : Option Addr) (cm B RB : Nat) (w : World) (c : w.cell? ⟨B, 0, none⟩ = some (.slice (some ⟨RB, 0, none⟩) R.length R.length)) (hr : Row w RB 93 (encP (R.map prR))) (hR : RtsGood R) (hl : R.length ≤ 16)
    (h : SlOf 3 RLmt w am m) (hm : Fit m.length) (hx : ∀ j (h : j < m.length), 0 ≤ m[j].clock ∧ m[j].clock < R.length) :
    Calls Tryz.prog 151 #[.slice am m.length cm, .func (.func 127) #[] #[.pointer (some ⟨B, 0, none⟩)]] w fun e w' => ∃ y : Int, e = .returned (.int .i64 y) ∧ (0 ≤ y ↔ AnyHot R m) ∧ Gr w w' := by
  unfold Fit at hm
  have H := Lib.hid h
  have HR := Lib.hid hr
  have HC := Lib.hid c
  have RG := Lib.hid hR
  have RL := Lib.hid hl
  have HX := Lib.hid hx
  clear h hr c hR hl hx
  go_enter Tryz.func151, Tryz.ntmps151
  go_wp2
  go_loopw [8] (fun i wr => ∃ k : Nat, k ≤ m.length ∧ i = .int .i64 k ∧ (∀ j (h : j < m.length), j < k → okIn (rtAt R m[j].clock.toNat) 0 m[j].high = true) ∧ Gr w wr) (fun i _ => m.length - (intOf i).toNat)
  case atStart => exact ⟨0, Nat.zero_le _, rfl, fun j _ h => absurd h (by omega), Gr.refl _⟩
  case round =>
    obtain ⟨k, hk, rfl, hall, hg⟩ := hrel
    have HA := Lib.hid hall
    have HG := Lib.hid hg
    clear hall hg
    obtain ⟨wo, rfl⟩ : ∃ wo : World, wo = wr := ⟨_, rfl⟩
    by_cases hlt : k < m.length
    · obtain ⟨b, o, rfl, ⟨c0, _⟩, ⟨c1, _⟩, ⟨c2, _⟩⟩ := lmts_gr H.out HG.out k hlt
      have hcall := calm1_any R m[k] B RB wo (cell_gr HG.out HC.out) (HR.out.gr HG.out) (HX.out k hlt) RG.out RL.out
      cases hq : okIn (rtAt R m[k].clock.toNat) 0 m[k].high with
      | true =>
        rw [hq] at hcall
        have Q := Lib.hid hq
        clear hq
        go_wp2_with fail
        refine hcall.mono ?_
        rintro e w' ⟨rfl, O, d, rfl⟩
        go_wp2_with fail
        go_roundw
        case rel =>
          refine ⟨k + 1, by omega, by go_num, fun j h1 hj => ?_, HG.out.xt _ _⟩
          by_cases e : j = k
          · subst e; exact Q.out
          · exact HA.out j h1 (by omega)
        case measure => simp [intOf]; omega
      | false =>
        rw [hq] at hcall
        have Q := Lib.hid hq
        clear hq
        go_wp2_with fail
        refine hcall.mono ?_
        rintro e w' ⟨rfl, O, d, rfl⟩
        go_wp2_with fail
        go_ret
        exact ⟨k, rfl, ⟨fun _ => ⟨k, hlt, Q.out⟩, fun _ => by omega⟩, HG.out.xt _ _⟩
    · go_wp2
      go_ret
      exact ⟨-1, rfl, ⟨fun q => by omega, fun ⟨j, hj, q⟩ => by rw [HA.out j hj (by omega)] at q; cases q⟩, HG.out⟩
theorem containsHot_any (R : List Rt) (m : List Lmt) (am : Option Addr) (cm B RB : Nat) (w : World) (c : w.cell? ⟨B, 0, none⟩ = some (.slice (some ⟨RB, 0, none⟩) R.length R.length)) (hr : Row w RB 93 (encP (R.map prR))) (hR : RtsGood R) (hl : R.length ≤ 16)
    (h : SlOf 3 RLmt w am m) (hm : Fit m.length) (hx : ∀ j (h : j < m.length), 0 ≤ m[j].clock ∧ m[j].clock < R.length) :
    Calls Tryz.prog 124 #[.slice am m.length cm, .func (.func 127) #[] #[.pointer (some ⟨B, 0, none⟩)]] w (Grows w (.bool (decide (AnyHot R m)))) := by
  have IX := Lib.hid (indexHot_any R m am cm B RB w c hr hR hl h hm hx)
  clear h hr hR hl hx c hm
  go_enter Tryz.func124, Tryz.ntmps124
  go_wp2_with fail
  refine IX.out.mono ?_
  rintro e w' ⟨y, rfl, hy, hg⟩
  have HY := Lib.hid hy
  have HG := Lib.hid hg
  clear hy hg
  go_wp2_with fail
  go_ret
  exact ⟨ret_bool (by rw [decide_eq_decide]; exact HY.out), HG.out⟩
end Go.Proofs.YtenehghpmnajpaaGreatDoor
/-! Contract of retune.calm. -/
set_option linter.unusedVariables false
set_option linter.unusedSimpArgs false
namespace Go.Proofs.YtenehghpmnajpaaGreatDoor
open Go.RowKit
open Classical
theorem calm_any (l : List Clk) (ms : List Lmt) (s : List Int) (al aS am : Option Addr) (cl cs cm : Nat) (w : World) (h : SlOf 5 RClk w al l) (hs : SlOf 1 RI w aS s) (hm : SlOf 3 RLmt w am ms) (hc : cchk l = 0) (hset : SetOk l s) (hlm : ms.length ≤ 32 ∧ ∀ j (h : j < ms.length), LmtOk l ms[j]) (hoff : OffV w) :
    Calls Tryz.prog 98 #[.slice al l.length cl, .slice aS s.length cs, .slice am ms.length cm] w (Grows w (.bool (calS l ms s))) := by
  obtain ⟨nb, _, _, _⟩ := cchk_zero hc
  have hl := small_len nb
  have hRl : (rts l s).length = l.length := rts_len _ _ hset.1.symm
  have RG := Lib.hid (rts_good hc hset)
  have HX : Hid (∀ j (h : j < ms.length), 0 ≤ ms[j].clock ∧ ms[j].clock < (rts l s).length) := Lib.hid fun j hj => by
    have := hlm.2 j hj; rw [hRl]; exact ⟨this.1, this.2.1⟩
  have hml := hlm.1
  have RT := Lib.hid (pRates_any l s al aS cl cs w h hs hc hset hoff)
  have NB := Lib.hid nb
  have H := Lib.hid h
  have HM := Lib.hid hm
  obtain ⟨R, eR⟩ : ∃ R, rts l s = R := ⟨_, rfl⟩
  have ER := Lib.hid eR
  have RT2 : Hid (Calls Tryz.prog 109 #[.slice al l.length cl, .slice aS s.length cs] w (fun e w' => ∃ RB, e = .returned (.tuple #[.slice (some ⟨RB, 0, none⟩) l.length l.length, .int .i64 0]) ∧ Row w' RB 93 (encP (R.map prR)) ∧ w.heap.size ≤ RB ∧ Gr w w')) := Lib.hid (by rw [← eR]; exact RT.out)
  rw [eR] at RG HX hRl
  have cal : calS l ms s = decide (CalmR R l ms) := by rw [← eR]; rfl
  rw [cal]
  clear cal RT h hs hm hc hset hlm hoff nb eR
  go_enter Tryz.func98, Tryz.ntmps98
  go_wp2_with fail
  refine RT2.out.mono ?_
  rintro e w1 ⟨RB, rfl, hr, hb, hg⟩
  have HR := Lib.hid hr
  have G1 := Lib.hid hg
  clear hr hb hg RT2
  go_wp2_with fail
  obtain ⟨W2, hW2⟩ : ∃ W2 : World, Hid (W2 = w1.alloc (.cells #[.slice (some ⟨RB, 0, none⟩) l.length l.length] 87)) := ⟨_, Lib.hid rfl⟩
  rw [← hW2.out]
  obtain ⟨BR, hBR⟩ : ∃ BR : Nat, Hid (w1.heap.size = BR) := ⟨_, Lib.hid rfl⟩
  rw [hBR.out]
  have C2 : Hid (Row W2 BR 87 [.slice (some ⟨RB, 0, none⟩) l.length l.length]) := Lib.hid (by rw [hW2.out, ← hBR.out]; exact Row.new w1 _ _)
  have R2 : Hid (Row W2 RB 93 (encP (R.map prR))) := Lib.hid (by rw [hW2.out]; exact HR.out.alloc _)
  have G2 : Hid (Gr w W2) := Lib.hid (by rw [hW2.out]; exact G1.out.alloc _)
  clear hW2 hBR HR G1
  go_loopw [19] (fun i wr => ∃ k : Nat, k ≤ l.length ∧ i = .int .i64 k ∧ (∀ j (h : j < l.length), j < k → ownOk (rtAt R j) l[j] = true) ∧ Gr W2 wr) (fun i _ => l.length - (intOf i).toNat)
  case atStart => exact ⟨0, Nat.zero_le _, rfl, fun j _ h => absurd h (by omega), Gr.refl _⟩
  case round =>
    obtain ⟨k, hk, rfl, hall, hg⟩ := hrel
    have HA := Lib.hid hall
    have HG := Lib.hid hg
    clear hall hg
    obtain ⟨wo, rfl⟩ : ∃ wo : World, wo = wr := ⟨_, rfl⟩
    have c0 := (C2.out.gr HG.out).cell 0 (by simp)
    simp only [List.getElem_cons_zero] at c0
    have ch := has_of_cell c0
    by_cases hlt : k < l.length
    · obtain ⟨b, o, rfl, ⟨d0, _⟩, ⟨ap, cp, d1, _⟩, ⟨ac, cc, d2, _⟩, ⟨d3, _⟩, ⟨d4, _⟩⟩ := clks_gr H.out (G2.out.trans HG.out) k hlt
      have hkl : k < R.length := by omega
      obtain ⟨g0, g1⟩ := rate_cells (R2.out.gr HG.out) hkl
      have e : rtAt R k = R[k] := by rw [rtAt, List.getD_eq_getElem?_getD, List.getElem?_eq_getElem hkl]; rfl
      have hgd := RG.out k hkl
      rw [← e] at hgd
      obtain ⟨r, hrr⟩ : ∃ r, rtAt R k = r := ⟨_, rfl⟩
      rw [hrr] at g0 g1 hgd
      have gh := (R2.out.gr HG.out).has
      have k2 : (k : Int) < l.length := by omega
      have RR := Lib.hid hrr
      have next : ownOk r l[k] = true → ∀ j (h : j < l.length), j < k + 1 → ownOk (rtAt R j) l[j] = true := fun q j h1 hj => by
        by_cases e : j = k
        · subst e; rw [RR.out]; exact q
        · exact HA.out j h1 (by omega)
      have NX := Lib.hid next
      clear hrr e next
      cases r with
      | none =>
        simp only [numR, denR] at g0 g1
        clear hgd
        go_wp2_with fail
        refine wp_region_grows (by kernel_rfl) (by kernel_rfl) ?_
        repeat (go_big_quiet_step (fail))
        refine wpQuiet_nil ?_
        rintro _ ⟨⟨O, d⟩, rfl⟩
        go_wp2_with fail
        go_roundw
        case rel => exact ⟨k + 1, by omega, by go_num, NX.out rfl, (HG.out.alloc _).xt _ _⟩
        case measure => simp [intOf]; omega
      | some nd =>
        obtain ⟨n, d⟩ := nd
        obtain ⟨hv, hn1⟩ := hgd n d rfl
        obtain ⟨v1, v2, v3, v4, v5⟩ := valid_parts hv
        have nb : (n == 0) = false := beq_eq_false_iff_ne.2 (by omega)
        have nb2 : (n != 0) = true := by simp; omega
        simp only [numR, denR] at g0 g1
        clear hv v5 hgd
        by_cases h0 : l[k].high = 0
        · have hb : (l[k].high != 0) = false := by simp [h0]
          have NX2 := NX.out (by simp [ownOk, h0])
          have NX3 := Lib.hid NX2
          clear h0 NX2 NX
          go_wp2_with fail
          refine wp_region_grows (by kernel_rfl) (by kernel_rfl) ?_
          repeat (go_big_quiet_step (fail))
          refine wpQuiet_nil ?_
          rintro _ ⟨⟨O, d⟩, rfl⟩
          go_wp2_with fail
          go_roundw
          case rel => exact ⟨k + 1, by omega, by go_num, NX3.out, (HG.out.alloc _).xt _ _⟩
          case measure => simp [intOf]; omega
        · have hb : (l[k].high != 0) = true := by simp [h0]
          have hb2 : (l[k].high == 0) = false := by simp [h0]
          cases hq : withinB n d l[k].low l[k].high with
          | true =>
            have NX2 := NX.out (by simp [ownOk, hq])
            have NX3 := Lib.hid NX2
            have wq := within_any n d l[k].low l[k].high
            rw [hq] at wq
            clear h0 NX2 NX hq hb2
            go_wp2_with fail
            refine wp_region_grows (by kernel_rfl) (by kernel_rfl) ?_
            repeat (go_big_quiet_step (first | (go_at_call 115; exact calls_grows (wq _ (by omega) (by omega) (by omega) (by omega)))))
            refine wpQuiet_nil ?_
            rintro _ ⟨⟨O, d⟩, rfl⟩
            go_wp2_with fail
            go_roundw
            case rel => exact ⟨k + 1, by omega, by go_num, NX3.out, (HG.out.alloc _).xt _ _⟩
            case measure => simp [intOf]; omega
          | false =>
            have bad : Hid (¬ CalmR R l ms) := Lib.hid fun q => by
              have := q.1 k hlt
              rw [RR.out] at this
              simp [ownOk, hb2, hq] at this
            have wq := within_any n d l[k].low l[k].high
            rw [hq] at wq
            clear h0 NX hq hb2
            go_wp2_with fail
            refine wp_region_grows (by kernel_rfl) (by kernel_rfl) ?_
            repeat (go_big_quiet_step (first | (go_at_call 115; exact calls_grows (wq _ (by omega) (by omega) (by omega) (by omega)))))
            refine wpQuiet_nil ?_
            rintro _ ⟨⟨O, d⟩, rfl⟩
            go_wp2_with fail
            go_ret
            exact ⟨ret_bool (decide_eq_false bad.out).symm, ((G2.out.trans HG.out).alloc _).xt _ _⟩
    · have HA2 : Hid (∀ j (h : j < l.length), ownOk (rtAt R j) l[j] = true) := Lib.hid fun j h => HA.out j h (by omega)
      clear HA
      rw [← hRl] at c0
      go_wp2_with fail
      refine (containsHot_any R ms am cm BR RB wo c0 (R2.out.gr HG.out) RG.out (by omega) (lmts_gr HM.out (G2.out.trans HG.out)) (by unfold Fit; omega) HX.out).mono ?_
      rintro e w' ⟨rfl, O, d, rfl⟩
      by_cases hq : AnyHot R ms
      · rw [decide_eq_true hq]
        have bad : Hid (¬ CalmR R l ms) := Lib.hid fun q => by
          obtain ⟨k, hk, e⟩ := hq
          rw [q.2 k hk] at e; cases e
        clear hq
        go_wp2_with fail
        go_ret
        exact ⟨ret_bool (decide_eq_false bad.out).symm, (G2.out.trans HG.out).xt _ _⟩
      · rw [decide_eq_false hq]
        have good : Hid (CalmR R l ms) := Lib.hid ⟨HA2.out, fun j hj => by
          cases e : okIn (rtAt R ms[j].clock.toNat) 0 ms[j].high with
          | true => rfl
          | false => exact absurd ⟨j, hj, e⟩ hq⟩
        clear hq
        go_wp2_with fail
        go_ret
        exact ⟨ret_bool (decide_eq_true good.out).symm, (G2.out.trans HG.out).xt _ _⟩
end Go.Proofs.YtenehghpmnajpaaGreatDoor
/-! Plain: clocks whose limits are struck. No program in sight. -/
set_option linter.unusedVariables false
set_option linter.unusedSimpArgs false
namespace Go.Proofs.YtenehghpmnajpaaGreatDoor
open Classical
end Go.Proofs.YtenehghpmnajpaaGreatDoor
/-! Contracts of the number of a setting, and of the setting with a number. -/
set_option linter.unusedVariables false
set_option linter.unusedSimpArgs false
namespace Go.Proofs.YtenehghpmnajpaaGreatDoor
open Go.RowKit
open Classical
theorem numU_small {l : List Clk} {s : List Int} (hc : cchk l = 0) (hs : SetOk l s) {j : Nat} (hj : j ≤ l.length) : 0 ≤ numU (kOf l) (sOf s) j ∧ numU (kOf l) (sOf s) j < 4096 := by
  obtain ⟨nb, ok, pr, fs⟩ := cchk_zero hc
  have h1 := numU_bound hs j hj
  have h2 := prodC_take_le (allOk_cho ok) j
  omega
theorem num_small {l : List Clk} {s : List Int} (hc : cchk l = 0) (hs : SetOk l s) : 0 ≤ num l s ∧ num l s < 4096 := numU_small hc hs (Nat.le_refl _)
theorem number_any (l : List Clk) (s : List Int) (al aS am : Option Addr) (cl cs ml cm : Nat) (kv : Value) (w : World) (h : SlOf 5 RClk w al l) (hs : SlOf 1 RI w aS s) (hc : cchk l = 0) (hset : SetOk l s) :
    Calls Tryz.prog 81 #[.agg #[.slice al l.length cl, .slice am ml cm, kv], .slice aS s.length cs] w (Grows w (.int .i64 (num l s))) := by
  obtain ⟨nb, _, _, _⟩ := cchk_zero hc
  have hl := small_len nb
  have hsl : s.length ≤ 16 := by have := hset.1; omega
  have NB := Lib.hid nb
  have H := Lib.hid (clks_gr h ((Gr.refl w).alloc (.cells #[.slice al l.length cl, .slice am ml cm, kv] 127)))
  have HS := Lib.hid (hs.giI ((Gr.refl w).alloc (.cells #[.slice al l.length cl, .slice am ml cm, kv] 127)))
  have HC := Lib.hid hc
  have HT := Lib.hid hset
  clear h hs hc hset nb
  go_enter Tryz.func81, Tryz.ntmps81
  go_wp2
  go_loop [5, 10] (fun n i => ∃ k : Nat, k ≤ s.length ∧ i = .int .i64 k ∧ n = .int .i64 (numU (kOf l) (sOf s) k)) (fun _ i => s.length - (intOf i).toNat)
  case atStart => exact ⟨0, Nat.zero_le _, rfl, rfl⟩
  case round =>
    obtain ⟨k, hk, rfl, rfl⟩ := hrel
    by_cases hlt : k < s.length
    · have hlt2 : k < l.length := by have := HT.out.1; omega
      have hx := numU_small HC.out HT.out (j := k) (by omega)
      have hx1 := numU_small HC.out HT.out (j := k + 1) (by omega)
      simp only [numU, sOf_at hlt, kOf_at hlt2] at hx1
      obtain ⟨x, ex⟩ : ∃ x, numU (kOf l) (sOf s) k = x := ⟨_, rfl⟩
      have hstep : Hid (numU (kOf l) (sOf s) (k + 1) = x * (l[k].choices.length : Int) + s[k]) := Lib.hid (by simp only [numU, sOf_at hlt, kOf_at hlt2, ex])
      rw [ex] at hx hx1 ⊢
      have hset := HT.out.2 k hlt2 hlt
      obtain ⟨fp, fc⟩ := small_at NB.out hlt2
      have hm : 0 ≤ x * (l[k].choices.length : Int) := Int.mul_nonneg hx.1 (by omega)
      have hm1 : x * (l[k].choices.length : Int) ≤ 4096 := by omega
      obtain ⟨bs, os, rfl, ⟨q1, _⟩⟩ := HS.out.one k hlt
      obtain ⟨b, o, rfl, ⟨c0, _⟩, ⟨ap, cp, c1, c1l, c1f, sp⟩, ⟨ac, cc, c2, c2l, c2f, sc⟩, ⟨c4, _⟩, c5, _⟩ := H.out k hlt2
      unfold Fit at c2f
      have k2 : (k : Int) < l.length := by omega
      clear sp sc c1f c0 c1 c4 c5 ex
      go_wp2_with fail
      go_round
      case rel => exact ⟨k + 1, by omega, by go_num, by rw [hstep.out]⟩
      case measure => simp [intOf]; omega
    · obtain rfl : k = s.length := by omega
      go_wp2
      go_ret
      exact ⟨by rw [num, HT.out.1]; rfl, (Gr.refl _).alloc _⟩
def setV (s : List Int) (j : Nat) : List Int := List.replicate j 0 ++ s.drop j
theorem setV_len (s : List Int) (j : Nat) (h : j ≤ s.length) : (setV s j).length = s.length := by simp [setV]; omega
theorem setV_step (s : List Int) (j : Nat) (h : j < s.length) : (setV s (j + 1)).set j s[j] = setV s j := by
  unfold setV
  rw [List.replicate_succ', List.append_assoc, List.set_append_right _ _ (by simp), List.drop_eq_getElem_cons h]
  simp
theorem spSet_any (l : List Clk) (s : List Int) (al am : Option Addr) (cl ml cm : Nat) (kv : Value) (w : World) (h : SlOf 5 RClk w al l) (hc : cchk l = 0) (hset : SetOk l s) :
    Calls Tryz.prog 85 #[.agg #[.slice al l.length cl, .slice am ml cm, kv], .int .i64 (num l s)] w
      fun e w' => ∃ RB, e = .returned (.slice (some ⟨RB, 0, none⟩) l.length l.length) ∧ Row w' RB 3 (nums s) ∧ w.heap.size ≤ RB ∧ Gr w w' := by
  obtain ⟨nb, _, _, _⟩ := cchk_zero hc
  have hl := small_len nb
  have NB := Lib.hid nb
  have H := Lib.hid h
  have HC := Lib.hid hc
  have HT := Lib.hid hset
  have hsl : s.length = l.length := hset.1
  clear h hc hset nb
  obtain ⟨j0, hj, hy0, hy1, hy2⟩ := info_parts infoInt
  have hmk : ∀ W : World, (Instr.makeSlice 22 (.int .i64 (l.length : Int)) (.int .i64 (l.length : Int))).run Tryz.prog W = .ok (.slice (some ⟨W.heap.size, 0, none⟩) l.length l.length) (W.alloc (.cells (madeCells #[.int .i64 0] l.length) 3)) := fun W => by
    have hr := run_make (P := Tryz.prog) W 22 3 j0 (.int .i64 0) Tryz.underlying22 hj hy0 .i64 .i64 l.length l.length (by omega) (Int.le_refl _) (by rw [hy2]; omega) (by omega)
    simp only [Int.toNat_natCast, hy1, Nat.mul_one] at hr
    exact hr
  obtain ⟨n, hn⟩ : ∃ n, num l s = n := ⟨_, rfl⟩
  rw [hn]
  have HN := Lib.hid hn
  clear hn
  go_enter Tryz.func85, Tryz.ntmps85
  go_wp2_with fail
  obtain ⟨W2, hW2⟩ : ∃ W2 : World, Hid (W2 = (w.alloc (.cells #[.slice al l.length cl, .slice am ml cm, kv] 127)).alloc (.cells (madeCells #[.int .i64 0] l.length) 3)) := ⟨_, Lib.hid rfl⟩
  rw [← hW2.out]
  obtain ⟨RB, hRB⟩ : ∃ RB : Nat, Hid (w.heap.size + 1 = RB) := ⟨_, Lib.hid rfl⟩
  rw [hRB.out]
  obtain ⟨XB, hXB⟩ : ∃ XB : Nat, Hid (w.heap.size = XB) := ⟨_, Lib.hid rfl⟩
  rw [hXB.out]
  have R2 : Hid (Row W2 RB 3 (nums (setV s l.length))) := Lib.hid (by
    rw [hW2.out, ← hRB.out]
    have := Row.new (w.alloc (.cells #[.slice al l.length cl, .slice am ml cm, kv] 127)) (madeCells #[.int .i64 0] l.length) 3
    rw [made_zero] at this
    have e : s.drop l.length = [] := List.drop_of_length_le (by omega)
    simpa [setV, nums, e] using this)
  have X2 : Hid (Row W2 XB 127 [.slice al l.length cl, .slice am ml cm, kv]) := Lib.hid (by
    rw [hW2.out, ← hXB.out]
    exact (Row.new w #[.slice al l.length cl, .slice am ml cm, kv] 127).alloc _)
  have HG2 : Hid (Gr w W2) := Lib.hid (by rw [hW2.out]; exact ((Gr.refl _).alloc _).alloc _)
  have rb : Hid (w.heap.size ≤ RB) := Lib.hid (by have := hRB.out; omega)
  have xr : Hid (XB ≠ RB) := Lib.hid (by have := hRB.out; have := hXB.out; omega)
  have xb : Hid (w.heap.size ≤ XB) := Lib.hid (by have := hXB.out; omega)
  clear hW2 hmk hRB hXB
  go_loopw [1, 6] (fun n i wr => ∃ k : Nat, k ≤ l.length ∧ i = .int .i64 ((k : Int) - 1) ∧ n = .int .i64 (numU (kOf l) (sOf s) k) ∧ Row wr RB 3 (nums (setV s k)) ∧ Row wr XB 127 [.slice al l.length cl, .slice am ml cm, kv] ∧ Gr w wr) (fun _ i _ => (intOf i + 1).toNat)
  case atStart => exact ⟨l.length, Nat.le_refl _, by go_num, by rw [← HN.out]; rfl, R2.out, X2.out, HG2.out⟩
  case round =>
    clear R2 HG2 X2
    obtain ⟨k', hk, rfl, rfl, hr, hx, hg⟩ := hrel
    have HR := Lib.hid hr
    have HX := Lib.hid hx
    have HG := Lib.hid hg
    clear hr hx hg
    cases k' with
    | zero =>
      go_wp2_with fail
      go_ret
      exact ⟨RB, rfl, by have := HR.out; simpa [setV] using this, rb.out, HG.out⟩
    | succ k =>
      have hlt : k < s.length := by omega
      have hlt2 : k < l.length := by omega
      have hdm := numU_divmod HT.out hlt2
      rw [sOf_at hlt, kOf_at hlt2] at hdm
      have hx1 := numU_small HC.out HT.out (j := k + 1) (by omega)
      have hx0 := numU_small HC.out HT.out (j := k) (by omega)
      obtain ⟨x, ex⟩ : ∃ x, numU (kOf l) (sOf s) (k + 1) = x := ⟨_, rfl⟩
      obtain ⟨y, ey⟩ : ∃ y, numU (kOf l) (sOf s) k = y := ⟨_, rfl⟩
      rw [ex] at hdm hx1 ⊢
      rw [ey] at hdm hx0
      have hset := HT.out.2 k hlt2 hlt
      obtain ⟨fp, fc⟩ := small_at NB.out hlt2
      have kp : 0 < (l[k].choices.length : Int) := by omega
      have hq : x.tdiv (l[k].choices.length : Int) = y := by rw [Int.tdiv_eq_ediv_of_nonneg hx1.1, hdm.1]
      have hm : x.tmod (l[k].choices.length : Int) = s[k] := by rw [Int.tmod_eq_emod_of_nonneg hx1.1, hdm.2]
      obtain ⟨b, o, rfl, ⟨c0, _⟩, ⟨ap, cp, c1, c1l, c1f, sp⟩, ⟨ac, cc, c2, c2l, c2f, sc⟩, ⟨c4, _⟩, c5, _⟩ := clks_gr H.out HG.out k hlt2
      unfold Fit at c2f
      have k2 : (k : Int) < l.length := by omega
      have x0 := HX.out.cell 0 (by simp)
      simp only [List.getElem_cons_zero] at x0
      have xh := HX.out.has
      have e0 := HR.out.cell k (by rw [nums_len, setV_len _ _ (by omega)]; omega)
      have f0 := HR.out.free k
      have rh := HR.out.has
      have ST := Lib.hid (setV_step s k hlt)
      have EY := Lib.hid ey
      clear sp sc c1f c0 c1 c4 c5 ex ey hdm
      rw [show ((k + 1 : Nat) : Int) - 1 = (k : Int) by omega]
      go_wp2_with fail
      go_region
      go_wp2_with fail
      go_roundw
      case rel => exact ⟨k, by omega, by go_num, by rw [EY.out], by rw [← ST.out]; exact (HR.out.iset k _).drew, (HX.out.oth (Ne.symm xr.out)).drew, (HG.out.setc rb.out).drew⟩
      case measure => simp [intOf]
end Go.Proofs.YtenehghpmnajpaaGreatDoor


/-! Contract of space.calm: whether the setting with a number is calm, and what is known then. -/
set_option linter.unusedVariables false
set_option linter.unusedSimpArgs false
namespace Go.Proofs.YtenehghpmnajpaaGreatDoor
open Go.RowKit
open Classical
structure Env (w : World) (l : List Clk) (ms : List Lmt) (al am : Option Addr) : Prop where
  clks : SlOf 5 RClk w al l
  lmts : SlOf 3 RLmt w am ms
  off : OffV w
  chk : cchk l = 0
  lims : ms.length ≤ 32 ∧ ∀ j (h : j < ms.length), LmtOk l ms[j]
theorem Env.gr {w w' : World} {l : List Clk} {ms : List Lmt} {al am : Option Addr} (h : Env w l ms al am) (hg : Gr w w') : Env w' l ms al am :=
  ⟨clks_gr h.clks hg, lmts_gr h.lmts hg, h.off.gr hg, h.chk, h.lims⟩
abbrev spV (l : List Clk) (ms : List Lmt) (al am : Option Addr) (cl cm BK : Nat) : Value := .agg #[.slice al l.length cl, .slice am ms.length cm, .map (some BK)]
def Kn (w : World) (BK : Nat) (l : List Clk) (cal : List Int → Bool) : Prop :=
  ∃ V : List (List Int × Bool), MapB w BK (V.map fun q => (num l q.1, q.2)) ∧ (V.map (·.1)).Nodup ∧ ∀ q ∈ V, SetOk l q.1 ∧ q.2 = cal q.1
theorem Kn.has {w : World} {BK : Nat} {l : List Clk} {cal : List Int → Bool} (h : Kn w BK l cal) : Has w BK := h.elim fun _ h => h.1.has
theorem Kn.kept {w w' : World} {BK : Nat} {l : List Clk} {cal : List Int → Bool} {row : Option Nat} (h : Kn w BK l cal) (hg : w.grownBy w' row) (hne : some BK ≠ row) : Kn w' BK l cal :=
  h.elim fun V h => ⟨V, h.1.kept hg hne, h.2⟩
theorem Kn.gr {w w' : World} {BK : Nat} {l : List Clk} {cal : List Int → Bool} (h : Kn w BK l cal) (hg : Gr w w') : Kn w' BK l cal := h.elim fun V h => ⟨V, h.1.gr hg, h.2⟩
theorem Kn.block {w w' : World} {BK : Nat} {l : List Clk} {cal : List Int → Bool} (h : Kn w BK l cal) (hb : w'.heap[BK]? = w.heap[BK]?) : Kn w' BK l cal := h.elim fun V h => ⟨V, h.1.block hb, h.2⟩
theorem wide_num {l : List Clk} {s : List Int} (hc : cchk l = 0) (hs : SetOk l s) : Wide (num l s) := by
  have := num_small hc hs
  unfold Wide; omega
theorem look_num {β : Type} {l : List Clk} {V : List (List Int × β)} {s : List Int} (hV : ∀ q ∈ V, SetOk l q.1) (hs : SetOk l s) : look (V.map fun q => (num l q.1, q.2)) (num l s) = look V s :=
  look_map (num l) V s fun q hq e => num_inj (hV q hq) hs e
theorem nodup_len {β : Type} {l : List Clk} {V : List (List Int × β)} (hn : (V.map (·.1)).Nodup) (hV : ∀ q ∈ V, SetOk l q.1) : V.length ≤ prodC l := by
  have h1 : (V.map (fun q => num l q.1)).Nodup := by
    rw [List.nodup_iff_pairwise_ne, List.pairwise_map] at hn ⊢
    exact hn.imp_of_mem fun {a b} ha hb hab e => hab (num_inj (hV a ha) (hV b hb) e)
  have := nodup_int_le h1 (n := prodC l) (fun x hx => by
    obtain ⟨q, hq, rfl⟩ := List.mem_map.1 hx
    exact num_bound (hV q hq))
  simpa using this
theorem Gr.by {w w' : World} (h : Gr w w') (row : Option Nat) : w.grownBy w' row := by
  have hb := h.below
  exact ⟨hb.os, hb.tape, hb.output, hb.size, fun k hk _ => hb.block k hk⟩
theorem setOk_wide {l : List Clk} {s : List Int} (hc : cchk l = 0) (hs : SetOk l s) : ∀ k (hk : k < s.length), Wide s[k] := fun k hk => by
  obtain ⟨nb, _, _, _⟩ := cchk_zero hc
  have hl := hs.1
  have h1 := hs.2 k (by omega) hk
  have h2 := small_at nb (k := k) (by omega)
  unfold Wide; omega
end Go.Proofs.YtenehghpmnajpaaGreatDoor
/-! A statement of space.calm by an invariant (printed by wip/tools/sp.py). -/
set_option linter.unusedVariables false
set_option linter.unusedSimpArgs false
namespace Go.Proofs.YtenehghpmnajpaaGreatDoor
open Go.RowKit
open Classical
def sp3F (wr : World) (l : List Clk) (ms : List Lmt) (s : List Int) (al am : Option Addr) (cl cm BK XB : Nat) (t5 t16 t17 t18 t19 t20 t21 t22 t23 : Value) (d : Array Bool) (w : World) : Prop :=
  Gr wr w ∧ (d.getD 0 false = true → t16 = .pointer (some ⟨XB, 0, none⟩)) ∧
  (d.getD 1 false = true → t17 = .slice al l.length cl) ∧
  (d.getD 2 false = true → t18 = .agg #[.slice al l.length cl, .slice am ms.length cm, .map (some BK)]) ∧
  (d.getD 3 false = true → t19 = .int .i64 (num l s)) ∧
  (d.getD 4 false = true → (∃ SB, t20 = .slice (some ⟨SB, 0, none⟩) l.length l.length ∧ Row w SB 3 (nums s))) ∧
  (d.getD 5 false = true → t21 = .pointer (some ⟨XB, 1, none⟩)) ∧
  (d.getD 6 false = true → t22 = .slice am ms.length cm) ∧
  (d.getD 7 false = true → t23 = .bool (calS l ms s)) ∧
  (d.getD 8 false = true → t5 = .bool (calS l ms s))
def sp3A (l : List Clk) (s : List Int) (XB : Nat) (t5 t16 t17 t18 t19 t20 t21 t22 t23 s0 s3 s4 s6 s7 s8 s9 s10 s11 s12 s13 s14 s15 s24 s25 s26 s27 s28 : Value) : Act := { tmps := #[s0, .int .i64 (num l s), .pointer (some ⟨XB, 0, none⟩), s3, s4, t5, s6, s7, s8, s9, s10, s11, s12, s13, s14, s15, t16, t17, t18, t19, t20, t21, t22, t23, s24, s25, s26, s27, s28], defers := [] }
theorem sp3 {Q : Exit → Act → World → Prop} {wr : World} {l : List Clk} {ms : List Lmt} {s : List Int} {al am : Option Addr} {cl cm BK XB : Nat}  {s0 s3 s4 s5 s6 s7 s8 s9 s10 s11 s12 s13 s14 s15 s16 s17 s18 s19 s20 s21 s22 s23 s24 s25 s26 s27 s28 : Value} (RX : Row wr XB 127 [.slice al l.length cl, .slice am ms.length cm, .map (some BK)]) (he : Env wr l ms al am) (hset : SetOk l s)
    (h' : ∀ t16 t17 t18 t19 t20 t21 t22 t23 wx, Gr wr wx → Q .normal (sp3A l s XB (.bool (calS l ms s)) t16 t17 t18 t19 t20 t21 t22 t23 s0 s3 s4 s6 s7 s8 s9 s10 s11 s12 s13 s14 s15 s24 s25 s26 s27 s28) wx) :
    (Code.region 3 (regIn 3 Tryz.f87) true).wp Tryz.prog Q { tmps := #[s0, .int .i64 (num l s), .pointer (some ⟨XB, 0, none⟩), s3, s4, s5, s6, s7, s8, s9, s10, s11, s12, s13, s14, s15, s16, s17, s18, s19, s20, s21, s22, s23, s24, s25, s26, s27, s28], defers := [] } wr := by
  have HE := PLift.up he
  have HT := PLift.up hset
  have SW := PLift.up (setOk_wide he.chk hset)
  clear he hset
  simp only [regIn, Tryz.f87, regOps, Option.bind_some, Option.getD_some, Nat.beq, cond_true, cond_false]
  refine wp_region_steps (fun done a w => ∃ t5 t16 t17 t18 t19 t20 t21 t22 t23, a = sp3A l s XB t5 t16 t17 t18 t19 t20 t21 t22 t23 s0 s3 s4 s6 s7 s8 s9 s10 s11 s12 s13 s14 s15 s24 s25 s26 s27 s28 ∧ sp3F wr l ms s al am cl cm BK XB t5 t16 t17 t18 t19 t20 t21 t22 t23 done w) (by kernel_rfl) (by kernel_rfl) ?_ ⟨?_, ?_, ?_, ?_, ?_, ?_, ?_, ?_, ?_, trivial⟩ ?_
  · exact ⟨s5, s16, s17, s18, s19, s20, s21, s22, s23, rfl, (Gr.refl _).drew, fun q => absurd q (by decide), fun q => absurd q (by decide), fun q => absurd q (by decide), fun q => absurd q (by decide), fun q => absurd q (by decide), fun q => absurd q (by decide), fun q => absurd q (by decide), fun q => absurd q (by decide), fun q => absurd q (by decide)⟩
  · rintro done a w hsz hnot hdep ⟨t5, t16, t17, t18, t19, t20, t21, t22, t23, rfl, gw, f0, f1, f2, f3, f4, f5, f6, f7, f8⟩ K hK
    have hn : ¬ done.getD 0 false = true := by rw [getD_both hnot]; decide
    have HK := PLift.up hK
    clear hK 
    simp only [sp3A]
    go_simp
    have gg : Gr w w := Gr.refl _
    refine HK.down _ _ ⟨_, _, _, _, _, _, _, _, _, rfl, gw, fun _ => rfl, kp f1, kp f2, kp f3, fun q => (let ⟨SB, e, h2⟩ := f4 (done_old q (by decide)); ⟨SB, e, h2.gr gg⟩), kp f5, kp f6, kp f7, kp f8⟩
  · rintro done a w hsz hnot hdep ⟨t5, t16, t17, t18, t19, t20, t21, t22, t23, rfl, gw, f0, f1, f2, f3, f4, f5, f6, f7, f8⟩ K hK
    have hn : ¬ done.getD 1 false = true := by rw [getD_both hnot]; decide
    have d0 := hdep 0 (by kernel_rfl)
    obtain rfl := f0 d0
    have r := RX.gr gw
    have c0 := r.cell 0 (by simp)
    have c1 := r.cell 1 (by simp)
    have c2 := r.cell 2 (by simp)
    have ch := r.has
    simp only [List.getElem_cons_zero, List.getElem_cons_succ] at c0 c1 c2
    clear r
    have HK := PLift.up hK
    clear hK d0
    simp only [sp3A]
    go_simp
    have gg : Gr w w := Gr.refl _
    refine HK.down _ _ ⟨_, _, _, _, _, _, _, _, _, rfl, gw, kp f0, fun _ => rfl, kp f2, kp f3, fun q => (let ⟨SB, e, h2⟩ := f4 (done_old q (by decide)); ⟨SB, e, h2.gr gg⟩), kp f5, kp f6, kp f7, kp f8⟩
  · rintro done a w hsz hnot hdep ⟨t5, t16, t17, t18, t19, t20, t21, t22, t23, rfl, gw, f0, f1, f2, f3, f4, f5, f6, f7, f8⟩ K hK
    have hn : ¬ done.getD 2 false = true := by rw [getD_both hnot]; decide
    have r := RX.gr gw
    have c0 := r.cell 0 (by simp)
    have c1 := r.cell 1 (by simp)
    have c2 := r.cell 2 (by simp)
    have ch := r.has
    simp only [List.getElem_cons_zero, List.getElem_cons_succ] at c0 c1 c2
    clear r
    have HK := PLift.up hK
    clear hK 
    simp only [sp3A]
    go_simp
    have gg : Gr w w := Gr.refl _
    refine HK.down _ _ ⟨_, _, _, _, _, _, _, _, _, rfl, gw, kp f0, kp f1, fun _ => rfl, kp f3, fun q => (let ⟨SB, e, h2⟩ := f4 (done_old q (by decide)); ⟨SB, e, h2.gr gg⟩), kp f5, kp f6, kp f7, kp f8⟩
  · rintro done a w hsz hnot hdep ⟨t5, t16, t17, t18, t19, t20, t21, t22, t23, rfl, gw, f0, f1, f2, f3, f4, f5, f6, f7, f8⟩ K hK
    have hn : ¬ done.getD 3 false = true := by rw [getD_both hnot]; decide
    have HK := PLift.up hK
    clear hK 
    simp only [sp3A]
    go_simp
    have gg : Gr w w := Gr.refl _
    refine HK.down _ _ ⟨_, _, _, _, _, _, _, _, _, rfl, gw, kp f0, kp f1, kp f2, fun _ => rfl, fun q => (let ⟨SB, e, h2⟩ := f4 (done_old q (by decide)); ⟨SB, e, h2.gr gg⟩), kp f5, kp f6, kp f7, kp f8⟩
  · rintro done a w hsz hnot hdep ⟨t5, t16, t17, t18, t19, t20, t21, t22, t23, rfl, gw, f0, f1, f2, f3, f4, f5, f6, f7, f8⟩ K hK
    have hn : ¬ done.getD 4 false = true := by rw [getD_both hnot]; decide
    have d2 := hdep 2 (by kernel_rfl)
    have d3 := hdep 3 (by kernel_rfl)
    obtain rfl := f2 d2
    obtain rfl := f3 d3
    have HK := PLift.up hK
    clear hK d2 d3
    simp only [sp3A]
    go_simp
    refine (spSet_any l s al am cl ms.length cm (.map (some BK)) w (clks_gr HE.down.clks gw) HE.down.chk HT.down).mono ?_
    rintro e w2 ⟨SB, rfl, hr, hb, hg⟩
    have gg : Gr w w2 := hg
    clear hg hb
    (try go_simp)
    refine HK.down _ _ ⟨_, _, _, _, _, _, _, _, _, rfl, gw.trans gg, kp f0, kp f1, kp f2, kp f3, ?_, kp f5, kp f6, kp f7, kp f8⟩
    exact fun _ => ⟨SB, rfl, hr⟩
  · rintro done a w hsz hnot hdep ⟨t5, t16, t17, t18, t19, t20, t21, t22, t23, rfl, gw, f0, f1, f2, f3, f4, f5, f6, f7, f8⟩ K hK
    have hn : ¬ done.getD 5 false = true := by rw [getD_both hnot]; decide
    have HK := PLift.up hK
    clear hK 
    simp only [sp3A]
    go_simp
    have gg : Gr w w := Gr.refl _
    refine HK.down _ _ ⟨_, _, _, _, _, _, _, _, _, rfl, gw, kp f0, kp f1, kp f2, kp f3, fun q => (let ⟨SB, e, h2⟩ := f4 (done_old q (by decide)); ⟨SB, e, h2.gr gg⟩), fun _ => rfl, kp f6, kp f7, kp f8⟩
  · rintro done a w hsz hnot hdep ⟨t5, t16, t17, t18, t19, t20, t21, t22, t23, rfl, gw, f0, f1, f2, f3, f4, f5, f6, f7, f8⟩ K hK
    have hn : ¬ done.getD 6 false = true := by rw [getD_both hnot]; decide
    have d5 := hdep 5 (by kernel_rfl)
    obtain rfl := f5 d5
    have r := RX.gr gw
    have c0 := r.cell 0 (by simp)
    have c1 := r.cell 1 (by simp)
    have c2 := r.cell 2 (by simp)
    have ch := r.has
    simp only [List.getElem_cons_zero, List.getElem_cons_succ] at c0 c1 c2
    clear r
    have HK := PLift.up hK
    clear hK d5
    simp only [sp3A]
    go_simp
    have gg : Gr w w := Gr.refl _
    refine HK.down _ _ ⟨_, _, _, _, _, _, _, _, _, rfl, gw, kp f0, kp f1, kp f2, kp f3, fun q => (let ⟨SB, e, h2⟩ := f4 (done_old q (by decide)); ⟨SB, e, h2.gr gg⟩), kp f5, fun _ => rfl, kp f7, kp f8⟩
  · rintro done a w hsz hnot hdep ⟨t5, t16, t17, t18, t19, t20, t21, t22, t23, rfl, gw, f0, f1, f2, f3, f4, f5, f6, f7, f8⟩ K hK
    have hn : ¬ done.getD 7 false = true := by rw [getD_both hnot]; decide
    have d1 := hdep 1 (by kernel_rfl)
    have d4 := hdep 4 (by kernel_rfl)
    have d6 := hdep 6 (by kernel_rfl)
    obtain rfl := f1 d1
    obtain rfl := f6 d6
    obtain ⟨SB, rfl, hr⟩ := f4 d4
    have HR := PLift.up hr
    clear hr
    have HK := PLift.up hK
    clear hK d1 d6
    simp only [sp3A]
    go_simp
    have CC := calm_any l ms s al (some ⟨SB, 0, none⟩) am cl l.length cm w (clks_gr HE.down.clks gw) (HR.down.s.slI SW.down) (lmts_gr HE.down.lmts gw) HE.down.chk HT.down HE.down.lims (HE.down.off.gr gw)
    rw [HT.down.1] at CC
    refine CC.mono ?_
    rintro e w2 ⟨rfl, hg⟩
    have gg : Gr w w2 := hg
    clear hg
    (try go_simp)
    refine HK.down _ _ ⟨_, _, _, _, _, _, _, _, _, rfl, gw.trans gg, kp f0, kp f1, kp f2, kp f3, fun _ => ⟨SB, rfl, HR.down.gr gg⟩, kp f5, kp f6, fun _ => rfl, kp f8⟩
  · rintro done a w hsz hnot hdep ⟨t5, t16, t17, t18, t19, t20, t21, t22, t23, rfl, gw, f0, f1, f2, f3, f4, f5, f6, f7, f8⟩ K hK
    have hn : ¬ done.getD 8 false = true := by rw [getD_both hnot]; decide
    have d7 := hdep 7 (by kernel_rfl)
    obtain rfl := f7 d7
    have HK := PLift.up hK
    clear hK d7
    simp only [sp3A]
    go_simp
    have gg : Gr w w := Gr.refl _
    refine HK.down _ _ ⟨_, _, _, _, _, _, _, _, _, rfl, gw, kp f0, kp f1, kp f2, kp f3, fun q => (let ⟨SB, e, h2⟩ := f4 (done_old q (by decide)); ⟨SB, e, h2.gr gg⟩), kp f5, kp f6, kp f7, fun _ => rfl⟩
  · rintro done a w hall ⟨t5, t16, t17, t18, t19, t20, t21, t22, t23, rfl, gw, f0, f1, f2, f3, f4, f5, f6, f7, f8⟩
    obtain rfl := f8 (hall 8 (by decide))
    exact h' _ _ _ _ _ _ _ _ w gw
end Go.Proofs.YtenehghpmnajpaaGreatDoor
/-! Contract of space.calm: whether the setting with a number is calm, and what is known then. -/
set_option linter.unusedVariables false
set_option linter.unusedSimpArgs false
namespace Go.Proofs.YtenehghpmnajpaaGreatDoor
open Go.RowKit
open Classical
theorem scalm_any (l : List Clk) (ms : List Lmt) (s : List Int) (al am : Option Addr) (cl cm BK : Nat) (w : World) (henv : Env w l ms al am) (hset : SetOk l s) (hk : Kn w BK l (calS l ms)) :
    Calls Tryz.prog 87 #[spV l ms al am cl cm BK, .int .i64 (num l s)] w fun e w' => e = .returned (.bool (calS l ms s)) ∧ Kn w' BK l (calS l ms) ∧ w.grownBy w' (some BK) := by
  obtain ⟨V, hV, hn, hq⟩ := hk
  have hlk := look_num (fun q h => (hq q h).1) hset (V := V)
  have hwn := wide_num henv.chk hset
  obtain ⟨XB, hXB⟩ : ∃ XB : Nat, Hid (w.heap.size = XB) := ⟨_, Lib.hid rfl⟩
  obtain ⟨W1, hW1⟩ : ∃ W1 : World, Hid (W1 = w.alloc (.cells #[.slice al l.length cl, .slice am ms.length cm, .map (some BK)] 127)) := ⟨_, Lib.hid rfl⟩
  have G1 : Hid (Gr w W1) := Lib.hid (by rw [hW1.out]; exact (Gr.refl _).alloc _)
  have X1 : Hid (Row W1 XB 127 [.slice al l.length cl, .slice am ms.length cm, .map (some BK)]) := Lib.hid (by rw [hW1.out, ← hXB.out]; exact Row.new w _ _)
  have E1 := Lib.hid (henv.gr G1.out)
  have M1 := Lib.hid (hV.gr G1.out)
  have VN := Lib.hid hn
  have VQ := Lib.hid hq
  have HT := Lib.hid hset
  have LK := run_look_bool M1.out hwn
  rw [hlk] at LK
  have WN := Lib.hid hwn
  have HLK := Lib.hid hlk
  obtain ⟨n, en⟩ : ∃ n, num l s = n := ⟨_, rfl⟩
  have EN := Lib.hid en
  rw [en] at LK ⊢
  clear hV hn hq hset hwn hlk henv en
  cases hl : look V s with
  | some b =>
    have hb : b = calS l ms s := (VQ.out _ (look_some hl)).2
    rw [hl] at LK
    simp only [Option.getD_some, Option.isSome_some] at LK
    have HB := Lib.hid hb
    clear hb hl
    rw [hW1.out] at LK
    go_enter Tryz.func87, Tryz.ntmps87
    go_wp2_with fail
    go_ret
    exact ⟨ret_bool HB.out, (show Kn W1 BK l (calS l ms) from ⟨V, M1.out, VN.out, VQ.out⟩) |> (fun h => hW1.out ▸ h), World.grownBy_alloc _ _ _⟩
  | none =>
    rw [hl] at LK
    simp only [Option.getD_none, Option.isSome_none] at LK
    rw [hW1.out] at LK
    have HL := Lib.hid hl
    clear hl
    go_enter Tryz.func87, Tryz.ntmps87
    go_wp2_with fail
    rw [← hW1.out, hXB.out, ← EN.out]
    have x0 := X1.out.cell 0 (by simp)
    have x1 := X1.out.cell 1 (by simp)
    have x2 := X1.out.cell 2 (by simp)
    simp only [List.getElem_cons_zero, List.getElem_cons_succ] at x0 x1 x2
    have xh := X1.out.has
    refine wp_code_eq (c := Code.region 3 (regIn 3 Tryz.f87) true) (by kernel_rfl) (sp3 (wr := W1) (l := l) (ms := ms) (s := s) (al := al) (am := am) (cl := cl) (cm := cm) (BK := BK) (XB := XB) X1.out E1.out HT.out ?_)
    intro t16 t17 t18 t19 t20 t21 t22 t23 W3 hg
    simp only [sp3A]
    have x2 := (X1.out.gr hg).cell 2 (by simp)
    simp only [List.getElem_cons_zero, List.getElem_cons_succ] at x2
    have xh := (X1.out.gr hg).has
    have hlk : look (V.map fun q => (num l q.1, q.2)) (num l s) = none := by rw [HLK.out, HL.out]
    have hlen := nodup_len VN.out (fun q h => (VQ.out q h).1)
    have h4 := (cchk_zero E1.out.chk).2.2.1
    have SR := run_store_bool (M1.out.gr hg) WN.out hlk (by rw [List.length_map]; unfold maxLen; omega) (calS l ms s)
    have G3 := Lib.hid hg
    clear hg hlk hlen h4 M1
    go_wp2_with (first | (at_mapUpdate; refine wpList_mapStore _ rfl _ _ _ _ rfl rfl rfl rfl SR ?_; rintro W4 ⟨hm, hgb⟩) | fail)
    go_ret
    refine ⟨rfl, ⟨V ++ [(s, calS l ms s)], ?_, ?_, ?_⟩, ?_⟩
    · rw [List.map_append]; exact hm
    · rw [List.map_append, List.nodup_append]
      refine ⟨VN.out, by simp, ?_⟩
      intro a ha b hb e
      subst e
      have : a = s := by simpa using hb
      subst this
      exact look_none.1 HL.out ha
    · intro q hq
      rcases List.mem_append.1 hq with hq | hq
      · exact VQ.out q hq
      · have : q = (s, calS l ms s) := by simpa using hq
        subst this; exact ⟨HT.out, rfl⟩
    · exact ((G1.out.trans G3.out).by _).trans hgb
end Go.Proofs.YtenehghpmnajpaaGreatDoor
/-! What holds in the loops of space.each, whatever function it calls. -/
set_option linter.unusedVariables false
set_option linter.unusedSimpArgs false
namespace Go.Proofs.YtenehghpmnajpaaGreatDoor
open Go.RowKit
open Classical
abbrev Lies (σ : Type) := σ → World → List Nat → Prop
structure LiesOk {σ : Type} (I : Lies σ) : Prop where
  keep : ∀ st w w' L row, I st w L → w.grownBy w' row → (∀ b, row = some b → b ∈ L) → I st w' L
  sub : ∀ st w L L', I st w L → (∀ b ∈ L', b ∈ L) → I st w L'
structure EI {σ : Type} (I : Lies σ) (w0 w : World) (l : List Clk) (ms : List Lmt) (al am : Option Addr) (cl cm BK XB SB : Nat) (L0 : List Nat) (st : σ) (wr : World) (u : List Int) : Prop where
  row : Row wr SB 3 (nums u)
  box : Row wr XB 127 [.slice al l.length cl, .slice am ms.length cm, .map (some BK)]
  kn : Kn wr BK l (calS l ms)
  st : I st wr (XB :: SB :: L0)
  gr : Gr w0 wr
  keep : ∀ b ∈ L0, b ≠ BK → wr.heap[b]? = w.heap[b]?
  size : w.heap.size ≤ wr.heap.size
section
variable {σ : Type} {I : Lies σ} {w0 w : World} {l : List Clk} {ms : List Lmt} {al am : Option Addr} {cl cm BK XB SB : Nat} {L0 : List Nat} {st : σ} {wr : World} {u : List Int}
theorem EI.grow {w' : World} (h : EI I w0 w l ms al am cl cm BK XB SB L0 st wr u) (hI : LiesOk I) (hL : ∀ b ∈ L0, Has w b) (hg : Gr wr w') : EI I w0 w l ms al am cl cm BK XB SB L0 st w' u where
  row := h.row.gr hg
  box := h.box.gr hg
  kn := h.kn.gr hg
  st := hI.keep _ _ _ _ none h.st (hg.by none) (fun b e => by cases e)
  gr := h.gr.trans hg
  keep := fun b hb hne => (hg.below.block b (Nat.lt_of_lt_of_le (hL b hb) h.size)).trans (h.keep b hb hne)
  size := Nat.le_trans h.size hg.size
theorem EI.set (h : EI I w0 w l ms al am cl cm BK XB SB L0 st wr u) (hI : LiesOk I) (hL : ∀ b ∈ L0, Has w b) (hs : w.heap.size ≤ SB) (hx : XB ≠ SB) (h0 : w0.heap.size ≤ SB) (hBK : BK ∈ L0) (i : Nat) (x : Int) :
    EI I w0 w l ms al am cl cm BK XB SB L0 st (wr.setCell ⟨SB, i, none⟩ (.int .i64 x)) (u.set i x) where
  row := h.row.iset i x
  box := h.box.oth (Ne.symm hx)
  kn := h.kn.kept (grownBy_set wr SB i _) (by have := hL BK hBK; unfold Has at this; intro e; injection e with e; omega)
  st := hI.keep _ _ _ _ _ h.st (grownBy_set wr SB i _) (fun b e => by injection e with e; subst e; simp)
  gr := h.gr.setc h0
  keep := fun b hb hne => ((grownBy_set wr SB i (.int .i64 x)).block b (Nat.lt_of_lt_of_le (hL b hb) h.size) (by have := hL b hb; unfold Has at this; intro e; injection e with e; omega)).trans (h.keep b hb hne)
  size := Nat.le_trans h.size (grownBy_set wr SB i (.int .i64 x)).size
theorem EI.known {w' : World} (h : EI I w0 w l ms al am cl cm BK XB SB L0 st wr u) (hI : LiesOk I) (hL : ∀ b ∈ L0, Has w b) (hs : w.heap.size ≤ SB) (hX : w.heap.size ≤ XB) (h0 : w0.heap.size ≤ BK) (hBK : BK ∈ L0) (hg : wr.grownBy w' (some BK)) (hk : Kn w' BK l (calS l ms)) :
    EI I w0 w l ms al am cl cm BK XB SB L0 st w' u where
  row := h.row.grown hg (by have := hL BK hBK; unfold Has at this; intro e; injection e with e; omega)
  box := h.box.grown hg (by have := hL BK hBK; unfold Has at this; intro e; injection e with e; omega)
  kn := hk
  st := hI.keep _ _ _ _ _ h.st hg (fun b e => by injection e with e; subst e; simp [hBK])
  gr := h.gr.grown hg (fun k e => by injection e with e; omega)
  keep := fun b hb hne => (hg.block b (Nat.lt_of_lt_of_le (hL b hb) h.size) (fun e => hne (by injection e))).trans (h.keep b hb hne)
  size := Nat.le_trans h.size hg.size
theorem EI.call {w' : World} {st' : σ} (h : EI I w0 w l ms al am cl cm BK XB SB L0 st wr u) (hI : LiesOk I) (hBK : BK ∈ L0) (h1 : I st' w' (XB :: SB :: L0)) (h2 : Gr w0 w') (h3 : ∀ b ∈ XB :: SB :: L0, w'.heap[b]? = wr.heap[b]?) (h4 : wr.heap.size ≤ w'.heap.size) :
    EI I w0 w l ms al am cl cm BK XB SB L0 st' w' u where
  row := by have := h.row; unfold Row at this ⊢; rw [h3 SB (by simp)]; exact this
  box := by have := h.box; unfold Row at this ⊢; rw [h3 XB (by simp)]; exact this
  kn := h.kn.block (h3 BK (by simp [hBK]))
  st := h1
  gr := h2
  keep := fun b hb hne => (h3 b (by simp [hb])).trans (h.keep b hb hne)
  size := Nat.le_trans h.size h4
theorem EI.hasL (h : EI I w0 w l ms al am cl cm BK XB SB L0 st wr u) (hL : ∀ b ∈ L0, Has w b) : ∀ b ∈ XB :: SB :: L0, Has wr b := by
  intro b hb
  rcases List.mem_cons.1 hb with e | hb
  · subst e; exact h.box.has
  · rcases List.mem_cons.1 hb with e | hb
    · subst e; exact h.row.has
    · exact Nat.lt_of_lt_of_le (hL b hb) h.size
end
end Go.Proofs.YtenehghpmnajpaaGreatDoor

set_option linter.unusedVariables false
set_option linter.unusedSimpArgs false
namespace Go.Proofs.YtenehghpmnajpaaGreatDoor
open Go.RowKit
open Classical
def VisitC {σ : Type} (I : Lies σ) (step : σ → Nbr → σ) (l : List Clk) (cal : List Int → Bool) (s : List Int) (c1 c2 : Nat) (w0 : World) : Prop :=
  ∀ (t : Nbr) (st : σ) (w : World) (L : List Nat), t ∈ nbS l cal s → Gr w0 w → I st w L → (∀ b ∈ L, Has w b) →
    Calls Tryz.prog 88 #[.agg #[.int .i64 1, .int .i64 t.1, .int .i64 t.2.1], .int .i64 (num l t.2.2), .pointer (some ⟨c1, 0, none⟩), .pointer (some ⟨c2, 0, none⟩)] w fun e w' => e = .returned (.tuple #[]) ∧ I (step st t) w' L ∧ Gr w0 w' ∧ (∀ b ∈ L, w'.heap[b]? = w.heap[b]?) ∧ w.heap.size ≤ w'.heap.size
theorem eachC_any {σ : Type} (I : Lies σ) (step : σ → Nbr → σ) (l : List Clk) (ms : List Lmt) (s : List Int) (al am : Option Addr) (cl cm BK c1 c2 : Nat) (L0 : List Nat) (w0 w : World) (st : σ)
    (henv : Env w0 l ms al am) (hg0 : Gr w0 w) (hset : SetOk l s) (hk : Kn w BK l (calS l ms)) (hbk : w0.heap.size ≤ BK) (hL : ∀ b ∈ L0, Has w b) (hBK : BK ∈ L0) (hI : LiesOk I)
    (hst : ∀ w1 L, Gr w w1 → (∀ b ∈ L, b ∈ L0 ∨ w.heap.size ≤ b) → I st w1 L) (hv : VisitC I step l (calS l ms) s c1 c2 w0) :
    Calls Tryz.prog 82 #[spV l ms al am cl cm BK, .int .i64 (num l s), .func (.func 88) #[] #[.pointer (some ⟨c1, 0, none⟩), .pointer (some ⟨c2, 0, none⟩)]] w fun e w' =>
      e = .returned (.tuple #[]) ∧ I ((nbS l (calS l ms) s).foldl step st) w' L0 ∧ Gr w0 w' ∧ Kn w' BK l (calS l ms) ∧ (∀ b ∈ L0, b ≠ BK → w'.heap[b]? = w.heap[b]?) ∧ w.heap.size ≤ w'.heap.size := by
  obtain ⟨nb, _, _, _⟩ := cchk_zero henv.chk
  have hl := small_len nb
  have hsl : s.length = l.length := hset.1
  have NB := Lib.hid nb
  have HE := Lib.hid henv
  have HG0 := Lib.hid hg0
  have HT := Lib.hid hset
  have HL := Lib.hid hL
  have HB := Lib.hid hBK
  have HI := Lib.hid hI
  have HS := Lib.hid hst
  have HV := Lib.hid hv
  have hbk' := Lib.hid hbk
  have HK := Lib.hid hk
  obtain ⟨XB, hXB⟩ : ∃ XB : Nat, Hid (w.heap.size = XB) := ⟨_, Lib.hid rfl⟩
  obtain ⟨n, hn⟩ : ∃ n, num l s = n := ⟨_, rfl⟩
  obtain ⟨W1, hW1⟩ : ∃ W1 : World, Hid (W1 = w.alloc (.cells #[.slice al l.length cl, .slice am ms.length cm, .map (some BK)] 127)) := ⟨_, Lib.hid rfl⟩
  have G1 : Hid (Gr w W1) := Lib.hid (by rw [hW1.out]; exact (Gr.refl _).alloc _)
  have X1 : Hid (Row W1 XB 127 [.slice al l.length cl, .slice am ms.length cm, .map (some BK)]) := Lib.hid (by rw [hW1.out, ← hXB.out]; exact Row.new w _ _)
  have z1 : Hid (W1.heap.size = w.heap.size + 1) := Lib.hid (by rw [hW1.out]; simp)
  have ST : Hid (Calls Tryz.prog 85 #[.agg #[.slice al l.length cl, .slice am ms.length cm, .map (some BK)], .int .i64 n] W1 (fun e w' => ∃ SB, e = .returned (.slice (some ⟨SB, 0, none⟩) l.length l.length) ∧ Row w' SB 3 (nums s) ∧ W1.heap.size ≤ SB ∧ Gr W1 w')) := Lib.hid (by
    rw [← hn]
    exact spSet_any l s al am cl ms.length cm (.map (some BK)) W1 (clks_gr henv.clks (hg0.trans G1.out)) henv.chk hset)
  have hGW := Lib.hid (show Gr w W1 from G1.out)
  rw [hn]
  clear nb henv hg0 hset hL hBK hI hst hv hbk hk hn
  go_enter Tryz.func82, Tryz.ntmps82
  go_wp2_with fail
  rw [← hW1.out]
  refine ST.out.mono ?_
  rintro e W2 ⟨SB, rfl, hr, hb, hg⟩
  rw [hXB.out]
  have sb : Hid (w.heap.size ≤ SB) := Lib.hid (by have := z1.out; omega)
  have xs : Hid (XB ≠ SB) := Lib.hid (by have := z1.out; have := hXB.out; omega)
  have xb : Hid (w.heap.size ≤ XB) := Lib.hid (by have := hXB.out; omega)
  have s0 : Hid (w0.heap.size ≤ SB) := Lib.hid (Nat.le_trans HG0.out.size sb.out)
  have hE : EI I w0 w l ms al am cl cm BK XB SB L0 st W2 s :=
    { row := hr, box := X1.out.gr hg, kn := HK.out.gr (G1.out.trans hg),
       st := HS.out W2 _ (G1.out.trans hg) (fun b hb => by
         rcases List.mem_cons.1 hb with e | hb
         · subst e; exact .inr xb.out
         · rcases List.mem_cons.1 hb with e | hb
           · subst e; exact .inr sb.out
           · exact .inl hb),
       gr := HG0.out.trans (G1.out.trans hg),
       keep := fun b hb _ => (G1.out.trans hg).below.block b (HL.out b hb),
       size := (G1.out.trans hg).size }
  have E2 := Lib.hid hE
  have x0 := hE.box.cell 0 (by simp)
  simp only [List.getElem_cons_zero] at x0
  have xh := hE.box.has
  clear hE hr hb hg ST X1 G1 hGW HK HS
  go_wp2_with fail
  clear x0 xh
  go_loopw [18] (fun i wr => ∃ k : Nat, k ≤ l.length ∧ i = .int .i64 k ∧ EI I w0 w l ms al am cl cm BK XB SB L0 ((nbTo l (calS l ms) s k).foldl step st) wr s) (fun i _ => l.length - (intOf i).toNat)
  case atStart => exact ⟨0, Nat.zero_le _, rfl, E2.out⟩
  case round =>
    clear E2
    obtain ⟨i, hi, rfl, hE⟩ := hrel
    obtain ⟨wo, rfl⟩ : ∃ wo : World, wo = wr := ⟨_, rfl⟩
    have EI1 := Lib.hid hE
    by_cases hlt : i < l.length
    · have hls : i < s.length := by omega
      obtain ⟨b, o, rfl, ⟨d0, _⟩, ⟨ap, cp, d1, _⟩, ⟨ac, cc, d2, d2l, d2f, _⟩, ⟨d3, _⟩, ⟨d4, _⟩⟩ := clks_gr HE.out.clks hE.gr i hlt
      have e0 := hE.row.iat i hls
      have rh := hE.row.has
      have i2 : (i : Int) < l.length := by omega
      obtain ⟨fp, fc⟩ := small_at NB.out hlt
      unfold Fit at d2f
      have KO : Hid (kOf l i = (l[i].choices.length : Int)) := Lib.hid (kOf_at hlt)
      have SO : Hid (sOf s i = s[i]) := Lib.hid (sOf_at hls)
      clear hE
      go_wp2_with fail
      obtain ⟨W3, hW3⟩ : ∃ W3 : World, Hid (W3 = wo.alloc (.cells #[.int .i64 l[i].kind, .slice ap l[i].parents.length cp, .slice ac l[i].choices.length cc, .int .i64 l[i].low, .int .i64 l[i].high] 79)) := ⟨_, Lib.hid rfl⟩
      rw [← hW3.out]
      have E3 := Lib.hid (EI1.out.grow HI.out HL.out (w' := W3) (by rw [hW3.out]; exact (Gr.refl _).alloc _))
      clear hW3 EI1 d0 d1 d2 d3 d4 e0 rh
      go_loopw [30] (fun j wr => ∃ k : Nat, k ≤ l[i].choices.length ∧ j = .int .i64 k ∧ ∃ x, EI I w0 w l ms (some ⟨b, o, none⟩) am cl cm BK XB SB L0 ((nbTo l (calS l ms) s i ++ nbRow (calS l ms) s i k).foldl step st) wr (s.set i x)) (fun j _ => l[i].choices.length - (intOf j).toNat)
      case atStart => exact ⟨0, Nat.zero_le _, rfl, s[i], by have := E3.out; simpa [nbRow] using this⟩
      case round =>
        clear E3
        obtain ⟨k, hk, rfl, x, hE⟩ := hrel
        have e0 := hE.row.cell i (by rw [nums_len, List.length_set]; exact hls)
        have f0 := hE.row.free i
        have rh := hE.row.has
        have E4 := Lib.hid hE
        by_cases hlk : k < l[i].choices.length
        · have k2 : (k : Int) < l[i].choices.length := by omega
          have hset2 : SetOk l (s.set i (k : Int)) := HT.out.set hlt (by omega) (by rw [KO.out]; exact k2)
          have E5' := E4.out.set HI.out HL.out sb.out xs.out s0.out HB.out i (k : Int)
          rw [List.set_set] at E5'
          have E5 := Lib.hid E5'
          have T2 := Lib.hid hset2
          have x0 := E5'.box.cell 0 (by simp)
          have x1 := E5'.box.cell 1 (by simp)
          have x2 := E5'.box.cell 2 (by simp)
          simp only [List.getElem_cons_zero, List.getElem_cons_succ] at x0 x1 x2
          have xh := E5'.box.has
          have NM := number_any l (s.set i (k : Int)) (some ⟨b, o, none⟩) (some ⟨SB, 0, none⟩) am cl l.length ms.length cm (.map (some BK)) _ (clks_gr HE.out.clks E5'.gr) (E5'.row.s.slI (setOk_wide HE.out.chk hset2)) HE.out.chk hset2
          rw [hset2.1] at NM
          obtain ⟨m, hm⟩ : ∃ m, num l (s.set i (k : Int)) = m := ⟨_, rfl⟩
          rw [hm] at NM
          have HM := Lib.hid hm
          have NM' := Lib.hid NM
          clear hE E5' hset2 NM hm E4
          go_wp2_with fail
          obtain ⟨W5, hW5⟩ : ∃ W5 : World, Hid (W5 = wr.setCell ⟨SB, i, none⟩ (.int .i64 (k : Int))) := ⟨_, Lib.hid rfl⟩
          rw [← hW5.out] at NM' E5 ⊢
          refine NM'.out.mono ?_
          rintro e W6 ⟨rfl, hg6⟩
          have E6' := E5.out.grow HI.out HL.out hg6
          have E6 := Lib.hid E6'
          have y0 := E6'.box.cell 0 (by simp)
          have y1 := E6'.box.cell 1 (by simp)
          have y2 := E6'.box.cell 2 (by simp)
          simp only [List.getElem_cons_zero, List.getElem_cons_succ] at y0 y1 y2
          have yh := E6'.box.has
          clear hW5 E5 NM' E6' hg6 x0 x1 x2 xh e0 f0 rh
          have ROW := Lib.hid (nbRow_succ (calS l ms) s i k)
          by_cases hko : (k : Int) = s[i]
          · have hb : ((k : Int) != s[i]) = false := by simp [hko]
            have R0 : Hid (nbRow (calS l ms) s i (k + 1) = nbRow (calS l ms) s i k) := Lib.hid (by rw [ROW.out]; simp [nbOne, SO.out, hko])
            clear hko
            go_wp2_with fail
            go_roundw
            case rel => exact ⟨k + 1, by omega, by go_num, _, by rw [R0.out]; exact E6.out⟩
            case measure => simp [intOf]; omega
          · have hb : ((k : Int) != s[i]) = true := by simp [hko]
            have SC := scalm_any l ms (s.set i (k : Int)) (some ⟨b, o, none⟩) am cl cm BK W6 (HE.out.gr E6.out.gr) T2.out E6.out.kn
            rw [HM.out] at SC
            have SC' := Lib.hid SC
            clear SC
            cases hc : calS l ms (s.set i (k : Int)) with
            | false =>
              have R0 : Hid (nbRow (calS l ms) s i (k + 1) = nbRow (calS l ms) s i k) := Lib.hid (by rw [ROW.out]; simp [nbOne, hc])
              rw [hc] at SC'
              clear hko hc
              go_wp2_with fail
              refine SC'.out.mono ?_
              rintro e W7 ⟨rfl, hk7, hg7⟩
              have E7 := Lib.hid (E6.out.known HI.out HL.out sb.out xb.out hbk'.out HB.out hg7 hk7)
              clear hk7 hg7 E6
              go_wp2_with fail
              go_roundw
              case rel => exact ⟨k + 1, by omega, by go_num, _, by rw [R0.out]; exact E7.out⟩
              case measure => simp [intOf]; omega
            | true =>
              have R0 : Hid (nbRow (calS l ms) s i (k + 1) = nbRow (calS l ms) s i k ++ [((i : Int), (k : Int), s.set i (k : Int))]) := Lib.hid (by rw [ROW.out]; simp [nbOne, hc, SO.out, hko])
              have MEM : Hid (((i : Int), (k : Int), s.set i (k : Int)) ∈ nbS l (calS l ms) s) := Lib.hid (mem_nbS.2 ⟨i, k, hlt, by rw [KO.out]; exact k2, by rw [SO.out]; exact hko, hc, rfl⟩)
              rw [hc] at SC'
              clear hko hc
              go_wp2_with fail
              refine SC'.out.mono ?_
              rintro e W7 ⟨rfl, hk7, hg7⟩
              have E7 := Lib.hid (E6.out.known HI.out HL.out sb.out xb.out hbk'.out HB.out hg7 hk7)
              have CV := HV.out _ _ W7 _ MEM.out E7.out.gr E7.out.st (E7.out.hasL HL.out)
              simp only [HM.out] at CV
              have CV' := Lib.hid CV
              clear hk7 hg7 E6 CV
              go_wp2_with fail
              refine CV'.out.mono ?_
              rintro e W8 ⟨rfl, h1, h2, h3, h4⟩
              have E8 := Lib.hid (E7.out.call HI.out HB.out h1 h2 h3 h4)
              clear h1 h2 h3 h4 E7
              go_wp2_with fail
              go_roundw
              case rel => exact ⟨k + 1, by omega, by go_num, _, by rw [R0.out, ← List.append_assoc, List.foldl_append]; exact E8.out⟩
              case measure => simp [intOf]; omega
        · obtain rfl : k = l[i].choices.length := by omega
          have E9' := E4.out.set HI.out HL.out sb.out xs.out s0.out HB.out i s[i]
          rw [List.set_set, List.set_getElem_self] at E9'
          have E9 := Lib.hid E9'
          clear E9' E4 hE
          go_wp2_with fail
          go_roundw
          case rel =>
            refine ⟨i + 1, by omega, by go_num, ?_⟩
            rw [nbTo_succ, KO.out, Int.toNat_natCast]
            exact E9.out
          case measure => simp [intOf]; omega
    · obtain rfl : i = l.length := by omega
      clear hE
      go_wp2_with fail
      go_end0
      exact ⟨rfl, HI.out.sub _ _ _ _ EI1.out.st (fun b hb => by simp [hb]), EI1.out.gr, EI1.out.kn, EI1.out.keep, EI1.out.size⟩
end Go.Proofs.YtenehghpmnajpaaGreatDoor
