/- Lemmas and contracts for the proof of RetuneAnswers (several texts in one, printed by wip/tools/pack.py): Kh. -/
import Derived.Test.YtenehghpmnajpaaGreatDoorRa8pd
set_option maxRecDepth 100000
set_option maxHeartbeats 16000000

/-! Contracts of small functions of package clock and of the library's functions that it calls. -/
set_option linter.unusedVariables false
set_option linter.unusedSimpArgs false
namespace Go.Proofs.YtenehghpmnajpaaGreatDoor
open Go.RowKit
open Classical
theorem pWithin_any (n lo hi : Int) (w : World) :
    Calls Tryz.prog 126 #[.int .i64 n, .int .i64 lo, .int .i64 hi] w fun e w' => e = .returned (.bool (decide (lo ≤ n ∧ n ≤ hi))) ∧ w = w' := by
  by_cases h1 : lo ≤ n
  · by_cases h2 : n ≤ hi
    all_goals
      go_enter Tryz.func126, Tryz.ntmps126
      go_wp2
      go_ret
      exact ⟨ret_bool (by simp; try omega), rfl⟩
  · go_enter Tryz.func126, Tryz.ntmps126
    go_wp2
    go_ret
    exact ⟨ret_bool (by simp; omega), rfl⟩
theorem indexI_any (xs : List Int) (a : Option Addr) (cap : Nat) (x : Int) (w : World) (hx : SlOf 1 RI w a xs) (fx : Fit xs.length) :
    Calls Tryz.prog 168 #[.slice a xs.length cap, .int .i64 x] w fun e w' => ∃ y : Int, e = .returned (.int .i64 y) ∧ (0 ≤ y ↔ x ∈ xs) ∧ w = w' := by
  unfold Fit at fx
  have HX := Lib.hid hx
  clear hx
  go_enter Tryz.func168, Tryz.ntmps168
  go_wp2
  go_loop [8] (fun i => ∃ k : Nat, k ≤ xs.length ∧ i = .int .i64 k ∧ (∀ j (h : j < xs.length), j < k → xs[j] ≠ x)) (fun i => xs.length - (intOf i).toNat)
  case atStart => exact ⟨0, Nat.zero_le _, rfl, fun j _ h => absurd h (by omega)⟩
  case round =>
    obtain ⟨k, hk, rfl, hall⟩ := hrel
    have HA := Lib.hid hall
    clear hall
    by_cases hlt : k < xs.length
    · obtain ⟨bx, ox, rfl, ⟨c1, _⟩⟩ := HX.out.one k hlt
      by_cases he : xs[k] = x
      · have heb : (x == xs[k]) = true := by simp [he]
        have HE := Lib.hid he
        clear he
        go_wp2
        go_ret
        exact ⟨k, rfl, ⟨fun _ => by rw [← HE.out]; exact List.getElem_mem hlt, fun _ => by omega⟩, rfl⟩
      · have heb : (x == xs[k]) = false := by simp; exact fun q => he q.symm
        have HE := Lib.hid he
        clear he
        go_wp2
        go_round
        case rel =>
          refine ⟨k + 1, by omega, by go_num, fun j h1 hj => ?_⟩
          by_cases e : j = k
          · subst e; exact HE.out
          · exact HA.out j h1 (by omega)
        case measure => simp [intOf]; omega
    · go_wp2
      go_ret
      refine ⟨-1, rfl, ⟨fun h => by omega, fun hm => ?_⟩, rfl⟩
      obtain ⟨j, hj, e⟩ := List.getElem_of_mem hm
      exact absurd e (HA.out j hj (by omega))
theorem containsI_any (xs : List Int) (a : Option Addr) (cap : Nat) (x : Int) (w : World) (hx : SlOf 1 RI w a xs) (fx : Fit xs.length) :
    Calls Tryz.prog 166 #[.slice a xs.length cap, .int .i64 x] w fun e w' => e = .returned (.bool (decide (x ∈ xs))) ∧ w = w' := by
  have HX := Lib.hid hx
  have FX := Lib.hid fx
  clear hx fx
  go_enter Tryz.func166, Tryz.ntmps166
  go_wp2_with fail
  refine (indexI_any xs a cap x w HX.out FX.out).mono ?_
  rintro e w' ⟨y, rfl, hy, rfl⟩
  have HY := Lib.hid hy
  clear hy
  go_wp2_with fail
  go_ret
  exact ⟨ret_bool (by rw [decide_eq_decide]; exact HY.out), rfl⟩
theorem equalI_any (xs ys : List Int) (ax ay : Option Addr) (cx cy : Nat) (w : World) (hx : SlOf 1 RI w ax xs) (hy : SlOf 1 RI w ay ys) (fx : Fit xs.length) (_fy : Fit ys.length) :
    Calls Tryz.prog 156 #[.slice ax xs.length cx, .slice ay ys.length cy] w (Grows w (.bool (decide (xs = ys)))) := by
  unfold Fit at fx
  have HX := Lib.hid hx
  have HY := Lib.hid hy
  clear hx hy
  by_cases hl : xs.length = ys.length
  · have hlb : ((xs.length : Int) != (ys.length : Int)) = false := by simp [hl]
    have HL := Lib.hid hl
    clear hl
    go_enter Tryz.func156, Tryz.ntmps156
    go_wp2
    go_loopw [13] (fun i wr => ∃ k : Nat, k ≤ xs.length ∧ i = .int .i64 k ∧ (∀ j (h1 : j < xs.length) (h2 : j < ys.length), j < k → xs[j] = ys[j]) ∧ ∃ n, wr = w.drewN n) (fun i _ => xs.length - (intOf i).toNat)
    case atStart => exact ⟨0, Nat.zero_le _, rfl, fun j _ _ h => absurd h (by omega), 0, rfl⟩
    case round =>
      obtain ⟨k, hk, rfl, hall, n, rfl⟩ := hrel
      have HA := Lib.hid hall
      clear hall
      by_cases hlt : k < xs.length
      · have hlt2 : k < ys.length := by have := HL.out; omega
        obtain ⟨bx, ox, rfl, ⟨c1, _⟩⟩ := HX.out.one k hlt
        obtain ⟨by', oy, rfl, ⟨c2, _⟩⟩ := HY.out.one k hlt2
        by_cases he : xs[k] = ys[k]
        · have heb : (xs[k] != ys[k]) = false := by simp [he]
          have HE := Lib.hid he
          clear he
          go_wp2
          go_quiet (fail)
          go_wp2
          go_roundw
          case rel =>
            refine ⟨k + 1, by omega, by go_num, fun j h1 h2 hj => ?_, n + nq, by simp⟩
            by_cases e : j = k
            · subst e; exact HE.out
            · exact HA.out j h1 h2 (by omega)
          case measure => simp [intOf]; omega
        · have heb : (xs[k] != ys[k]) = true := by simp [he]
          have HE := Lib.hid he
          clear he
          go_wp2
          go_quiet (fail)
          go_wp2
          go_ret
          exact ⟨ret_bool (by simp [ne_at k hlt hlt2 HE.out]), by repeat (first | with_reducible exact Gr.refl _ | with_reducible refine Gr.drewN _ ?_)⟩
      · go_wp2
        go_ret
        exact ⟨ret_bool (by simp [eq_all HL.out (fun j h1 h2 => HA.out j h1 h2 (by omega))]), by repeat (first | with_reducible exact Gr.refl _ | with_reducible refine Gr.drewN _ ?_)⟩
  · have hlb : ((xs.length : Int) != (ys.length : Int)) = true := by simp; omega
    go_enter Tryz.func156, Tryz.ntmps156
    go_wp2
    go_ret
    exact ⟨ret_bool (by simp; intro h; exact hl (by rw [h])), Gr.refl _⟩
theorem equal01_any (xs : List Int) (ax : Option Addr) (cx : Nat) (W : World) (B : Nat) (hB : W.heap.size = B) (hx : SlOf 1 RI W ax xs) (fx : Fit xs.length) :
    Calls Tryz.prog 156 #[.slice ax xs.length cx, .slice (some ⟨B, 0, none⟩) 2 2] (W.alloc (.cells #[.int .i64 0, .int .i64 1] 3)) (Grows (W.alloc (.cells #[.int .i64 0, .int .i64 1] 3)) (.bool (decide (xs = [0, 1])))) := by
  subst hB
  exact equalI_any xs [0, 1] ax (some ⟨W.heap.size, 0, none⟩) cx 2 _ (hx.giI ((Gr.refl _).alloc _)) (sl_01 _ _) fx (by unfold Fit; simp)
theorem pDifferent_any (xs : List Int) (a : Option Addr) (cap : Nat) (lo hi : Int) (w : World) (hx : SlOf 1 RI w a xs) (hc : xs.length ≤ cap) (fx : Fit xs.length) :
    Calls Tryz.prog 155 #[.slice a xs.length cap, .int .i64 lo, .int .i64 hi] w (Grows w (.bool (decide (Diff xs lo hi)))) := by
  have FX := Lib.hid fx
  unfold Fit at fx
  have HX := Lib.hid hx
  clear hx
  go_enter Tryz.func155, Tryz.ntmps155
  go_wp2
  go_loopw [11] (fun i wr => ∃ k : Nat, k ≤ xs.length ∧ i = .int .i64 k ∧ (∀ j, j < k → DiffAt xs lo hi j) ∧ Gr w wr) (fun i _ => xs.length - (intOf i).toNat)
  case atStart => exact ⟨0, Nat.zero_le _, rfl, fun j h => absurd h (by omega), Gr.refl _⟩
  case round =>
    obtain ⟨k, hk, rfl, hall, hg⟩ := hrel
    have HA := Lib.hid hall
    have HG := Lib.hid hg
    clear hall hg
    obtain ⟨wo, rfl⟩ : ∃ wo : World, wo = wr := ⟨_, rfl⟩
    by_cases hlt : k < xs.length
    · obtain ⟨bx, ox, rfl, ⟨c1, _⟩⟩ := (HX.out.giI HG.out).one k hlt
      have lt' : (xs.take k).length = k := by simp; omega
      have LT := Lib.hid lt'
      clear lt'
      have g0 : (k : Int) ≤ cap := by omega
      go_wp2_with fail
      refine (pWithin_any _ _ _ _).mono ?_
      rintro e w' ⟨rfl, rfl⟩
      by_cases h1 : lo ≤ xs[k] ∧ xs[k] ≤ hi
      · rw [decide_eq_true h1]
        have H1 := Lib.hid h1
        clear h1
        go_wp2_with fail
        have := containsI_any (xs.take k) (some ⟨bx, ox, none⟩) cap xs[k] wo ((HX.out.giI HG.out).take k) (by unfold Fit; have := LT.out; omega)
        rw [LT.out] at this
        refine this.mono ?_
        rintro e w' ⟨rfl, rfl⟩
        by_cases hm : xs[k] ∈ xs.take k
        · rw [decide_eq_true hm]
          have HM := Lib.hid hm
          clear hm
          go_wp2_with fail
          go_ret
          refine ⟨ret_bool ?_, HG.out⟩
          have : ¬ Diff xs lo hi := fun q => by obtain ⟨_, _, _, q3⟩ := q k hlt; exact q3 HM.out
          simp [this]
        · rw [decide_eq_false hm]
          have HM := Lib.hid hm
          clear hm
          go_wp2_with fail
          go_roundw
          case rel =>
            refine ⟨k + 1, by omega, by go_num, fun j hj => ?_, HG.out⟩
            by_cases e : j = k
            · subst e; exact ⟨hlt, H1.out.1, H1.out.2, HM.out⟩
            · exact HA.out j (by omega)
          case measure => simp [intOf]; omega
      · rw [decide_eq_false h1]
        have H1 := Lib.hid h1
        clear h1
        go_wp2_with fail
        go_ret
        refine ⟨ret_bool ?_, HG.out⟩
        have : ¬ Diff xs lo hi := fun q => by obtain ⟨_, q1, q2, _⟩ := q k hlt; exact H1.out ⟨q1, q2⟩
        simp [this]
    · go_wp2_with fail
      go_ret
      refine ⟨ret_bool ?_, HG.out⟩
      have : Diff xs lo hi := fun j hj => HA.out j (by omega)
      simp [this]
/-! valid$1 and the search with it -/
theorem pValid1_any (p at' : Int) (B : Nat) (w : World) (c : w.cell? ⟨B, 0, none⟩ = some (.int .i64 at')) (h0 : 0 ≤ at') (h1 : at' ≤ 1000) :
    Calls Tryz.prog 154 #[.int .i64 p, .pointer (some ⟨B, 0, none⟩)] w fun e w' => e = .returned (.bool (!decide (0 ≤ p ∧ p ≤ at' - 1))) ∧ w = w' := by
  go_enter Tryz.func154, Tryz.ntmps154
  go_wp2_with fail
  refine (pWithin_any _ _ _ _).mono ?_
  rintro e w' ⟨rfl, rfl⟩
  by_cases he : 0 ≤ p ∧ p ≤ at' - 1
  · rw [decide_eq_true he]
    have HE := Lib.hid he
    clear he
    go_wp2_with fail
    go_ret
    exact ⟨ret_bool (by simp; exact HE.out), rfl⟩
  · rw [decide_eq_false he]
    have HE := Lib.hid he
    clear he
    go_wp2_with fail
    go_ret
    exact ⟨ret_bool (by simp; have := HE.out; omega), rfl⟩
def ParBad (xs : List Int) (at' : Int) : Prop := ∃ j, ∃ h : j < xs.length, ¬ (0 ≤ xs[j] ∧ xs[j] ≤ at' - 1)
theorem indexPar_any (xs : List Int) (a : Option Addr) (cap B : Nat) (at' : Int) (w : World) (hx : SlOf 1 RI w a xs) (fx : Fit xs.length) (c : w.cell? ⟨B, 0, none⟩ = some (.int .i64 at')) (h0 : 0 ≤ at') (h1 : at' ≤ 1000) :
    Calls Tryz.prog 165 #[.slice a xs.length cap, .func (.func 154) #[] #[.pointer (some ⟨B, 0, none⟩)]] w fun e w' => ∃ y : Int, e = .returned (.int .i64 y) ∧ (0 ≤ y ↔ ParBad xs at') ∧ w = w' := by
  unfold Fit at fx
  have HX := Lib.hid hx
  have HC := Lib.hid c
  clear hx c
  go_enter Tryz.func165, Tryz.ntmps165
  go_wp2
  go_loop [8] (fun i => ∃ k : Nat, k ≤ xs.length ∧ i = .int .i64 k ∧ (∀ j (h : j < xs.length), j < k → 0 ≤ xs[j] ∧ xs[j] ≤ at' - 1)) (fun i => xs.length - (intOf i).toNat)
  case atStart => exact ⟨0, Nat.zero_le _, rfl, fun j _ h => absurd h (by omega)⟩
  case round =>
    obtain ⟨k, hk, rfl, hall⟩ := hrel
    have HA := Lib.hid hall
    clear hall
    by_cases hlt : k < xs.length
    · obtain ⟨bx, ox, rfl, ⟨c1, _⟩⟩ := HX.out.one k hlt
      go_wp2_with fail
      refine (pValid1_any xs[k] at' B w HC.out h0 h1).mono ?_
      rintro e w' ⟨rfl, rfl⟩
      by_cases he : 0 ≤ xs[k] ∧ xs[k] ≤ at' - 1
      · rw [decide_eq_true he]
        have HE := Lib.hid he
        clear he
        go_wp2_with fail
        go_round
        case rel =>
          refine ⟨k + 1, by omega, by go_num, fun j h1 hj => ?_⟩
          by_cases e : j = k
          · subst e; exact HE.out
          · exact HA.out j h1 (by omega)
        case measure => simp [intOf]; omega
      · rw [decide_eq_false he]
        have HE := Lib.hid he
        clear he
        go_wp2_with fail
        go_ret
        exact ⟨k, rfl, ⟨fun _ => ⟨k, hlt, HE.out⟩, fun _ => by omega⟩, rfl⟩
    · go_wp2
      go_ret
      refine ⟨-1, rfl, ⟨fun h => by omega, fun ⟨j, hj, q⟩ => absurd (HA.out j hj (by omega)) q⟩, rfl⟩
theorem containsPar_any (xs : List Int) (a : Option Addr) (cap B : Nat) (at' : Int) (w : World) (hx : SlOf 1 RI w a xs) (fx : Fit xs.length) (c : w.cell? ⟨B, 0, none⟩ = some (.int .i64 at')) (h0 : 0 ≤ at') (h1 : at' ≤ 1000) :
    Calls Tryz.prog 153 #[.slice a xs.length cap, .func (.func 154) #[] #[.pointer (some ⟨B, 0, none⟩)]] w fun e w' => e = .returned (.bool (decide (ParBad xs at'))) ∧ w = w' := by
  have HX := Lib.hid hx
  have FX := Lib.hid fx
  have HC := Lib.hid c
  clear hx fx c
  go_enter Tryz.func153, Tryz.ntmps153
  go_wp2_with fail
  refine (indexPar_any xs a cap B at' w HX.out FX.out HC.out h0 h1).mono ?_
  rintro e w' ⟨y, rfl, hy, rfl⟩
  have HY := Lib.hid hy
  clear hy
  go_wp2_with fail
  go_ret
  exact ⟨ret_bool (by rw [decide_eq_decide]; exact HY.out), rfl⟩
end Go.Proofs.YtenehghpmnajpaaGreatDoor
/-! Contract of clock.valid (printed by wip/tools/ckv.py). -/
set_option linter.unusedVariables false
set_option linter.unusedSimpArgs false
namespace Go.Proofs.YtenehghpmnajpaaGreatDoor
open Go.RowKit
open Classical
theorem pv_par (kind : Int) (parents choices : List Int) (low high : Int) (ap ac : Option Addr) (cp cc i : Nat) (w : World) (hp : parents.length ≤ cp) (hc : choices.length ≤ cc) (fp : parents.length ≤ 8) (fc : choices.length ≤ 8) (sp : SlOf 1 RI w ap parents) (sc : SlOf 1 RI w ac choices) (hi : i ≤ 100) (PB : Hid (decide (ParBad parents (i : Int)) = true)) :
    Calls Tryz.prog 130 #[.agg #[.int .i64 kind, .slice ap parents.length cp, .slice ac choices.length cc, .int .i64 low, .int .i64 high], .int .i64 i] w (Grows w (.bool (false))) := by
  have SP := Lib.hid sp
  have SC := Lib.hid sc
  clear sp sc
  go_enter Tryz.func130, Tryz.ntmps130
  go_wp2_with fail
  refine (containsPar_any parents ap cp _ (i : Int) _ (SP.out.giI grr) (by unfold Fit; omega) (by simp [go_sem]) (by omega) (by omega)).mono ?_
  rintro e w' ⟨rfl, rfl⟩
  rw [PB.out]
  go_wp2_with fail
  go_ret
  exact ⟨ret_bool (by rfl), grr⟩
theorem pv_high (kind : Int) (parents choices : List Int) (low high : Int) (ap ac : Option Addr) (cp cc i : Nat) (w : World) (hp : parents.length ≤ cp) (hc : choices.length ≤ cc) (fp : parents.length ≤ 8) (fc : choices.length ≤ 8) (sp : SlOf 1 RI w ap parents) (sc : SlOf 1 RI w ac choices) (hi : i ≤ 100) (PB : Hid (decide (ParBad parents (i : Int)) = false)) (HB : Hid (decide (0 ≤ high ∧ high ≤ 4000000000) = false)) :
    Calls Tryz.prog 130 #[.agg #[.int .i64 kind, .slice ap parents.length cp, .slice ac choices.length cc, .int .i64 low, .int .i64 high], .int .i64 i] w (Grows w (.bool (false))) := by
  have SP := Lib.hid sp
  have SC := Lib.hid sc
  clear sp sc
  go_enter Tryz.func130, Tryz.ntmps130
  go_wp2_with fail
  refine (containsPar_any parents ap cp _ (i : Int) _ (SP.out.giI grr) (by unfold Fit; omega) (by simp [go_sem]) (by omega) (by omega)).mono ?_
  rintro e w' ⟨rfl, rfl⟩
  rw [PB.out]
  go_wp2_with fail
  refine (pWithin_any high 0 4000000000 _).mono ?_
  rintro e w' ⟨rfl, rfl⟩
  rw [HB.out]
  go_wp2_with fail
  go_ret
  exact ⟨ret_bool (by rfl), grr⟩
theorem pv_low (kind : Int) (parents choices : List Int) (low high : Int) (ap ac : Option Addr) (cp cc i : Nat) (w : World) (hp : parents.length ≤ cp) (hc : choices.length ≤ cc) (fp : parents.length ≤ 8) (fc : choices.length ≤ 8) (sp : SlOf 1 RI w ap parents) (sc : SlOf 1 RI w ac choices) (hi : i ≤ 100) (PB : Hid (decide (ParBad parents (i : Int)) = false)) (HB : Hid (decide (0 ≤ high ∧ high ≤ 4000000000) = true)) (LB : Hid (decide (0 ≤ low ∧ low ≤ high) = false)) :
    Calls Tryz.prog 130 #[.agg #[.int .i64 kind, .slice ap parents.length cp, .slice ac choices.length cc, .int .i64 low, .int .i64 high], .int .i64 i] w (Grows w (.bool (false))) := by
  have SP := Lib.hid sp
  have SC := Lib.hid sc
  clear sp sc
  go_enter Tryz.func130, Tryz.ntmps130
  go_wp2_with fail
  refine (containsPar_any parents ap cp _ (i : Int) _ (SP.out.giI grr) (by unfold Fit; omega) (by simp [go_sem]) (by omega) (by omega)).mono ?_
  rintro e w' ⟨rfl, rfl⟩
  rw [PB.out]
  go_wp2_with fail
  refine (pWithin_any high 0 4000000000 _).mono ?_
  rintro e w' ⟨rfl, rfl⟩
  rw [HB.out]
  go_wp2_with fail
  refine (pWithin_any low 0 high _).mono ?_
  rintro e w' ⟨rfl, rfl⟩
  rw [LB.out]
  go_wp2_with fail
  go_ret
  exact ⟨ret_bool (by rfl), grr⟩
theorem diff_pos {xs : List Int} {n : Nat} (h : Diff xs 0 ((n : Int) - 1)) (h1 : 1 ≤ xs.length) : 1 ≤ n := by
  obtain ⟨_, h2, h3, _⟩ := h 0 (by omega)
  omega
theorem pv1 (kind : Int) (parents choices : List Int) (low high : Int) (ap ac : Option Addr) (cp cc i : Nat) (w : World) (hp : parents.length ≤ cp) (hc : choices.length ≤ cc) (fp : parents.length ≤ 8) (fc : choices.length ≤ 8) (sp : SlOf 1 RI w ap parents) (sc : SlOf 1 RI w ac choices) (hi : i ≤ 100) (PB : Hid (decide (ParBad parents (i : Int)) = false)) (HB : Hid (decide (0 ≤ high ∧ high ≤ 4000000000) = true)) (LB : Hid (decide (0 ≤ low ∧ low ≤ high) = true)) :
    Calls Tryz.prog 130 #[.agg #[.int .i64 1, .slice ap parents.length cp, .slice ac choices.length cc, .int .i64 low, .int .i64 high], .int .i64 i] w (Grows w (.bool (decide (ChoOk ⟨1, parents, choices, low, high⟩)))) := by
  have SP := Lib.hid sp
  have SC := Lib.hid sc
  clear sp sc
  have no : ChoOk ⟨1, parents, choices, low, high⟩ ↔ (parents.length = 0 ∧ ∃ h : choices.length = 1, 1 ≤ choices[0] ∧ choices[0] ≤ 4000000000) := by
    unfold ChoOk; simp
  have NO := Lib.hid no
  clear no
  by_cases h0 : parents.length = 0
  · have b0 : ((parents.length : Int) == 0) = true := beq_iff_eq.2 (by omega)
    have b9 : ((parents.length : Int) == 1) = false := beq_eq_false_iff_ne.2 (by omega)
    have H0 := Lib.hid h0
    clear h0
    by_cases h1 : choices.length = 1
    · obtain ⟨x, rfl⟩ : ∃ x, choices = [x] := List.length_eq_one_iff.1 h1
      clear h1
      obtain ⟨bc, oc, rfl, ⟨q, _⟩⟩ := SC.out.one 0 (by simp)
      have qh := has_of_cell q
      simp only [List.getElem_cons_zero, List.length_cons, List.length_nil, Nat.zero_add, Nat.add_zero] at q ⊢
      go_enter Tryz.func130, Tryz.ntmps130
      go_wp2_with fail
      refine (containsPar_any parents ap cp _ (i : Int) _ (SP.out.giI grr) (by unfold Fit; omega) (by simp [go_sem]) (by omega) (by omega)).mono ?_
      rintro e w' ⟨rfl, rfl⟩
      rw [PB.out]
      go_wp2_with fail
      refine (pWithin_any high 0 4000000000 _).mono ?_
      rintro e w' ⟨rfl, rfl⟩
      rw [HB.out]
      go_wp2_with fail
      refine (pWithin_any low 0 high _).mono ?_
      rintro e w' ⟨rfl, rfl⟩
      rw [LB.out]
      go_wp2_with fail
      refine (pWithin_any x 1 4000000000 _).mono ?_
      rintro e w' ⟨rfl, rfl⟩
      by_cases hx : 1 ≤ x ∧ x ≤ 4000000000
      · rw [decide_eq_true hx]
        have HX := Lib.hid hx
        clear hx
        go_wp2_with fail
        go_ret
        exact ⟨ret_bool (by (rw [eq_comm, decide_eq_true_eq, NO.out]; exact ⟨H0.out, rfl, HX.out⟩)), grr⟩
      · rw [decide_eq_false hx]
        have HX := Lib.hid hx
        clear hx
        go_wp2_with fail
        go_ret
        exact ⟨ret_bool (by (rw [eq_comm, decide_eq_false_iff_not, NO.out]; rintro ⟨_, _, q⟩; exact HX.out q)), grr⟩
    · have b1 : ((choices.length : Int) == 1) = false := beq_eq_false_iff_ne.2 (by omega)
      have H1 := Lib.hid h1
      clear h1
      go_enter Tryz.func130, Tryz.ntmps130
      go_wp2_with fail
      refine (containsPar_any parents ap cp _ (i : Int) _ (SP.out.giI grr) (by unfold Fit; omega) (by simp [go_sem]) (by omega) (by omega)).mono ?_
      rintro e w' ⟨rfl, rfl⟩
      rw [PB.out]
      go_wp2_with fail
      refine (pWithin_any high 0 4000000000 _).mono ?_
      rintro e w' ⟨rfl, rfl⟩
      rw [HB.out]
      go_wp2_with fail
      refine (pWithin_any low 0 high _).mono ?_
      rintro e w' ⟨rfl, rfl⟩
      rw [LB.out]
      go_wp2_with fail
      go_ret
      exact ⟨ret_bool (by (rw [eq_comm, decide_eq_false_iff_not, NO.out]; rintro ⟨_, q, _⟩; exact H1.out q)), grr⟩
  · have b0 : ((parents.length : Int) == 0) = false := beq_eq_false_iff_ne.2 (by omega)
    have H0 := Lib.hid h0
    by_cases h9 : parents.length = 1
    · have b9 : ((parents.length : Int) == 1) = true := beq_iff_eq.2 (by omega)
      clear h0 h9
      go_enter Tryz.func130, Tryz.ntmps130
      go_wp2_with fail
      refine (containsPar_any parents ap cp _ (i : Int) _ (SP.out.giI grr) (by unfold Fit; omega) (by simp [go_sem]) (by omega) (by omega)).mono ?_
      rintro e w' ⟨rfl, rfl⟩
      rw [PB.out]
      go_wp2_with fail
      refine (pWithin_any high 0 4000000000 _).mono ?_
      rintro e w' ⟨rfl, rfl⟩
      rw [HB.out]
      go_wp2_with fail
      refine (pWithin_any low 0 high _).mono ?_
      rintro e w' ⟨rfl, rfl⟩
      rw [LB.out]
      go_wp2_with fail
      go_ret
      exact ⟨ret_bool (by (rw [eq_comm, decide_eq_false_iff_not, NO.out]; rintro ⟨q, _⟩; exact H0.out q)), grr⟩
    · have b9 : ((parents.length : Int) == 1) = false := beq_eq_false_iff_ne.2 (by omega)
      clear h0 h9
      go_enter Tryz.func130, Tryz.ntmps130
      go_wp2_with fail
      refine (containsPar_any parents ap cp _ (i : Int) _ (SP.out.giI grr) (by unfold Fit; omega) (by simp [go_sem]) (by omega) (by omega)).mono ?_
      rintro e w' ⟨rfl, rfl⟩
      rw [PB.out]
      go_wp2_with fail
      refine (pWithin_any high 0 4000000000 _).mono ?_
      rintro e w' ⟨rfl, rfl⟩
      rw [HB.out]
      go_wp2_with fail
      refine (pWithin_any low 0 high _).mono ?_
      rintro e w' ⟨rfl, rfl⟩
      rw [LB.out]
      go_wp2_with fail
      go_ret
      exact ⟨ret_bool (by (rw [eq_comm, decide_eq_false_iff_not, NO.out]; rintro ⟨q, _⟩; exact H0.out q)), grr⟩
theorem pv2 (kind : Int) (parents choices : List Int) (low high : Int) (ap ac : Option Addr) (cp cc i : Nat) (w : World) (hp : parents.length ≤ cp) (hc : choices.length ≤ cc) (fp : parents.length ≤ 8) (fc : choices.length ≤ 8) (sp : SlOf 1 RI w ap parents) (sc : SlOf 1 RI w ac choices) (hi : i ≤ 100) (PB : Hid (decide (ParBad parents (i : Int)) = false)) (HB : Hid (decide (0 ≤ high ∧ high ≤ 4000000000) = true)) (LB : Hid (decide (0 ≤ low ∧ low ≤ high) = true)) :
    Calls Tryz.prog 130 #[.agg #[.int .i64 2, .slice ap parents.length cp, .slice ac choices.length cc, .int .i64 low, .int .i64 high], .int .i64 i] w (Grows w (.bool (decide (ChoOk ⟨2, parents, choices, low, high⟩)))) := by
  have SP := Lib.hid sp
  have SC := Lib.hid sc
  clear sp sc
  have no : ChoOk ⟨2, parents, choices, low, high⟩ ↔ (parents.length = 1 ∧ 1 ≤ choices.length ∧ Diff choices 1 64) := by
    unfold ChoOk; simp
  have NO := Lib.hid no
  clear no
  by_cases h0 : parents.length = 1
  · have b0 : ((parents.length : Int) == 1) = true := beq_iff_eq.2 (by omega)
    have H0 := Lib.hid h0
    clear h0
    by_cases h1 : 1 ≤ choices.length
    · have b1 : decide ((0 : Int) < choices.length) = true := decide_eq_true (by omega)
      go_enter Tryz.func130, Tryz.ntmps130
      go_wp2_with fail
      refine (containsPar_any parents ap cp _ (i : Int) _ (SP.out.giI grr) (by unfold Fit; omega) (by simp [go_sem]) (by omega) (by omega)).mono ?_
      rintro e w' ⟨rfl, rfl⟩
      rw [PB.out]
      go_wp2_with fail
      refine (pWithin_any high 0 4000000000 _).mono ?_
      rintro e w' ⟨rfl, rfl⟩
      rw [HB.out]
      go_wp2_with fail
      refine (pWithin_any low 0 high _).mono ?_
      rintro e w' ⟨rfl, rfl⟩
      rw [LB.out]
      go_wp2_with fail
      refine (pDifferent_any choices ac cc 1 64 _ (SC.out.giI grr) hc (by unfold Fit; omega)).mono ?_
      rintro e w' ⟨rfl, O1, D1, rfl⟩
      go_wp2_with fail
      go_ret
      exact ⟨ret_bool (by (rw [decide_eq_decide, NO.out]; exact ⟨fun q => ⟨H0.out, h1, q⟩, fun q => q.2.2⟩)), grr⟩
    · have b1 : decide ((0 : Int) < choices.length) = false := decide_eq_false (by omega)
      go_enter Tryz.func130, Tryz.ntmps130
      go_wp2_with fail
      refine (containsPar_any parents ap cp _ (i : Int) _ (SP.out.giI grr) (by unfold Fit; omega) (by simp [go_sem]) (by omega) (by omega)).mono ?_
      rintro e w' ⟨rfl, rfl⟩
      rw [PB.out]
      go_wp2_with fail
      refine (pWithin_any high 0 4000000000 _).mono ?_
      rintro e w' ⟨rfl, rfl⟩
      rw [HB.out]
      go_wp2_with fail
      refine (pWithin_any low 0 high _).mono ?_
      rintro e w' ⟨rfl, rfl⟩
      rw [LB.out]
      go_wp2_with fail
      go_ret
      exact ⟨ret_bool (by (rw [eq_comm, decide_eq_false_iff_not, NO.out]; rintro ⟨_, q, _⟩; exact h1 q)), grr⟩
  · have b0 : ((parents.length : Int) == 1) = false := beq_eq_false_iff_ne.2 (by omega)
    have H0 := Lib.hid h0
    clear h0
    go_enter Tryz.func130, Tryz.ntmps130
    go_wp2_with fail
    refine (containsPar_any parents ap cp _ (i : Int) _ (SP.out.giI grr) (by unfold Fit; omega) (by simp [go_sem]) (by omega) (by omega)).mono ?_
    rintro e w' ⟨rfl, rfl⟩
    rw [PB.out]
    go_wp2_with fail
    refine (pWithin_any high 0 4000000000 _).mono ?_
    rintro e w' ⟨rfl, rfl⟩
    rw [HB.out]
    go_wp2_with fail
    refine (pWithin_any low 0 high _).mono ?_
    rintro e w' ⟨rfl, rfl⟩
    rw [LB.out]
    go_wp2_with fail
    go_ret
    exact ⟨ret_bool (by (rw [eq_comm, decide_eq_false_iff_not, NO.out]; rintro ⟨q, _⟩; exact H0.out q)), grr⟩
theorem pv3 (kind : Int) (parents choices : List Int) (low high : Int) (ap ac : Option Addr) (cp cc i : Nat) (w : World) (hp : parents.length ≤ cp) (hc : choices.length ≤ cc) (fp : parents.length ≤ 8) (fc : choices.length ≤ 8) (sp : SlOf 1 RI w ap parents) (sc : SlOf 1 RI w ac choices) (hi : i ≤ 100) (PB : Hid (decide (ParBad parents (i : Int)) = false)) (HB : Hid (decide (0 ≤ high ∧ high ≤ 4000000000) = true)) (LB : Hid (decide (0 ≤ low ∧ low ≤ high) = true)) :
    Calls Tryz.prog 130 #[.agg #[.int .i64 3, .slice ap parents.length cp, .slice ac choices.length cc, .int .i64 low, .int .i64 high], .int .i64 i] w (Grows w (.bool (decide (ChoOk ⟨3, parents, choices, low, high⟩)))) := by
  have SP := Lib.hid sp
  have SC := Lib.hid sc
  clear sp sc
  have no : ChoOk ⟨3, parents, choices, low, high⟩ ↔ (parents.length = 1 ∧ 1 ≤ choices.length ∧ Diff choices 1 64) := by
    unfold ChoOk; simp
  have NO := Lib.hid no
  clear no
  by_cases h0 : parents.length = 1
  · have b0 : ((parents.length : Int) == 1) = true := beq_iff_eq.2 (by omega)
    have H0 := Lib.hid h0
    clear h0
    by_cases h1 : 1 ≤ choices.length
    · have b1 : decide ((0 : Int) < choices.length) = true := decide_eq_true (by omega)
      go_enter Tryz.func130, Tryz.ntmps130
      go_wp2_with fail
      refine (containsPar_any parents ap cp _ (i : Int) _ (SP.out.giI grr) (by unfold Fit; omega) (by simp [go_sem]) (by omega) (by omega)).mono ?_
      rintro e w' ⟨rfl, rfl⟩
      rw [PB.out]
      go_wp2_with fail
      refine (pWithin_any high 0 4000000000 _).mono ?_
      rintro e w' ⟨rfl, rfl⟩
      rw [HB.out]
      go_wp2_with fail
      refine (pWithin_any low 0 high _).mono ?_
      rintro e w' ⟨rfl, rfl⟩
      rw [LB.out]
      go_wp2_with fail
      refine (pDifferent_any choices ac cc 1 64 _ (SC.out.giI grr) hc (by unfold Fit; omega)).mono ?_
      rintro e w' ⟨rfl, O1, D1, rfl⟩
      go_wp2_with fail
      go_ret
      exact ⟨ret_bool (by (rw [decide_eq_decide, NO.out]; exact ⟨fun q => ⟨H0.out, h1, q⟩, fun q => q.2.2⟩)), grr⟩
    · have b1 : decide ((0 : Int) < choices.length) = false := decide_eq_false (by omega)
      go_enter Tryz.func130, Tryz.ntmps130
      go_wp2_with fail
      refine (containsPar_any parents ap cp _ (i : Int) _ (SP.out.giI grr) (by unfold Fit; omega) (by simp [go_sem]) (by omega) (by omega)).mono ?_
      rintro e w' ⟨rfl, rfl⟩
      rw [PB.out]
      go_wp2_with fail
      refine (pWithin_any high 0 4000000000 _).mono ?_
      rintro e w' ⟨rfl, rfl⟩
      rw [HB.out]
      go_wp2_with fail
      refine (pWithin_any low 0 high _).mono ?_
      rintro e w' ⟨rfl, rfl⟩
      rw [LB.out]
      go_wp2_with fail
      go_ret
      exact ⟨ret_bool (by (rw [eq_comm, decide_eq_false_iff_not, NO.out]; rintro ⟨_, q, _⟩; exact h1 q)), grr⟩
  · have b0 : ((parents.length : Int) == 1) = false := beq_eq_false_iff_ne.2 (by omega)
    have H0 := Lib.hid h0
    clear h0
    go_enter Tryz.func130, Tryz.ntmps130
    go_wp2_with fail
    refine (containsPar_any parents ap cp _ (i : Int) _ (SP.out.giI grr) (by unfold Fit; omega) (by simp [go_sem]) (by omega) (by omega)).mono ?_
    rintro e w' ⟨rfl, rfl⟩
    rw [PB.out]
    go_wp2_with fail
    refine (pWithin_any high 0 4000000000 _).mono ?_
    rintro e w' ⟨rfl, rfl⟩
    rw [HB.out]
    go_wp2_with fail
    refine (pWithin_any low 0 high _).mono ?_
    rintro e w' ⟨rfl, rfl⟩
    rw [LB.out]
    go_wp2_with fail
    go_ret
    exact ⟨ret_bool (by (rw [eq_comm, decide_eq_false_iff_not, NO.out]; rintro ⟨q, _⟩; exact H0.out q)), grr⟩
theorem pv4 (kind : Int) (parents choices : List Int) (low high : Int) (ap ac : Option Addr) (cp cc i : Nat) (w : World) (hp : parents.length ≤ cp) (hc : choices.length ≤ cc) (fp : parents.length ≤ 8) (fc : choices.length ≤ 8) (sp : SlOf 1 RI w ap parents) (sc : SlOf 1 RI w ac choices) (hi : i ≤ 100) (PB : Hid (decide (ParBad parents (i : Int)) = false)) (HB : Hid (decide (0 ≤ high ∧ high ≤ 4000000000) = true)) (LB : Hid (decide (0 ≤ low ∧ low ≤ high) = true)) :
    Calls Tryz.prog 130 #[.agg #[.int .i64 4, .slice ap parents.length cp, .slice ac choices.length cc, .int .i64 low, .int .i64 high], .int .i64 i] w (Grows w (.bool (decide (ChoOk ⟨4, parents, choices, low, high⟩)))) := by
  have SP := Lib.hid sp
  have SC := Lib.hid sc
  clear sp sc
  have no : ChoOk ⟨4, parents, choices, low, high⟩ ↔ (1 ≤ parents.length ∧ 1 ≤ choices.length ∧ Diff choices 0 ((parents.length : Int) - 1)) := by
    unfold ChoOk; simp
  have NO := Lib.hid no
  clear no
  by_cases h1 : 1 ≤ choices.length
  · have b1 : decide ((0 : Int) < choices.length) = true := decide_eq_true (by omega)
    go_enter Tryz.func130, Tryz.ntmps130
    go_wp2_with fail
    refine (containsPar_any parents ap cp _ (i : Int) _ (SP.out.giI grr) (by unfold Fit; omega) (by simp [go_sem]) (by omega) (by omega)).mono ?_
    rintro e w' ⟨rfl, rfl⟩
    rw [PB.out]
    go_wp2_with fail
    refine (pWithin_any high 0 4000000000 _).mono ?_
    rintro e w' ⟨rfl, rfl⟩
    rw [HB.out]
    go_wp2_with fail
    refine (pWithin_any low 0 high _).mono ?_
    rintro e w' ⟨rfl, rfl⟩
    rw [LB.out]
    go_wp2_with fail
    refine (pDifferent_any choices ac cc 0 _ _ (SC.out.giI grr) hc (by unfold Fit; omega)).mono ?_
    rintro e w' ⟨rfl, O1, D1, rfl⟩
    go_wp2_with fail
    go_ret
    exact ⟨ret_bool (by (rw [decide_eq_decide, NO.out]; exact ⟨fun q => ⟨diff_pos q h1, h1, q⟩, fun q => q.2.2⟩)), grr⟩
  · have b1 : decide ((0 : Int) < choices.length) = false := decide_eq_false (by omega)
    go_enter Tryz.func130, Tryz.ntmps130
    go_wp2_with fail
    refine (containsPar_any parents ap cp _ (i : Int) _ (SP.out.giI grr) (by unfold Fit; omega) (by simp [go_sem]) (by omega) (by omega)).mono ?_
    rintro e w' ⟨rfl, rfl⟩
    rw [PB.out]
    go_wp2_with fail
    refine (pWithin_any high 0 4000000000 _).mono ?_
    rintro e w' ⟨rfl, rfl⟩
    rw [HB.out]
    go_wp2_with fail
    refine (pWithin_any low 0 high _).mono ?_
    rintro e w' ⟨rfl, rfl⟩
    rw [LB.out]
    go_wp2_with fail
    go_ret
    exact ⟨ret_bool (by (rw [eq_comm, decide_eq_false_iff_not, NO.out]; rintro ⟨_, q, _⟩; exact h1 q)), grr⟩
theorem pv5 (kind : Int) (parents choices : List Int) (low high : Int) (ap ac : Option Addr) (cp cc i : Nat) (w : World) (hp : parents.length ≤ cp) (hc : choices.length ≤ cc) (fp : parents.length ≤ 8) (fc : choices.length ≤ 8) (sp : SlOf 1 RI w ap parents) (sc : SlOf 1 RI w ac choices) (hi : i ≤ 100) (PB : Hid (decide (ParBad parents (i : Int)) = false)) (HB : Hid (decide (0 ≤ high ∧ high ≤ 4000000000) = true)) (LB : Hid (decide (0 ≤ low ∧ low ≤ high) = true)) :
    Calls Tryz.prog 130 #[.agg #[.int .i64 5, .slice ap parents.length cp, .slice ac choices.length cc, .int .i64 low, .int .i64 high], .int .i64 i] w (Grows w (.bool (decide (ChoOk ⟨5, parents, choices, low, high⟩)))) := by
  have SP := Lib.hid sp
  have SC := Lib.hid sc
  clear sp sc
  have no : ChoOk ⟨5, parents, choices, low, high⟩ ↔ (parents.length = 1 ∧ choices = [0, 1]) := by
    unfold ChoOk; simp
  have NO := Lib.hid no
  clear no
  by_cases h0 : parents.length = 1
  · have b0 : ((parents.length : Int) == 1) = true := beq_iff_eq.2 (by omega)
    have H0 := Lib.hid h0
    clear h0
    go_enter Tryz.func130, Tryz.ntmps130
    go_wp2_with fail
    refine (containsPar_any parents ap cp _ (i : Int) _ (SP.out.giI grr) (by unfold Fit; omega) (by simp [go_sem]) (by omega) (by omega)).mono ?_
    rintro e w' ⟨rfl, rfl⟩
    rw [PB.out]
    go_wp2_with fail
    refine (pWithin_any high 0 4000000000 _).mono ?_
    rintro e w' ⟨rfl, rfl⟩
    rw [HB.out]
    go_wp2_with fail
    refine (pWithin_any low 0 high _).mono ?_
    rintro e w' ⟨rfl, rfl⟩
    rw [LB.out]
    go_wp2_with fail
    refine (equal01_any choices ac cc _ _ (by simp) (SC.out.giI grr) (by unfold Fit; omega)).mono ?_
    rintro e w' ⟨rfl, O1, D1, rfl⟩
    go_wp2_with fail
    go_ret
    exact ⟨ret_bool (by (rw [decide_eq_decide, NO.out]; exact ⟨fun q => ⟨H0.out, q⟩, fun q => q.2⟩)), grr⟩
  · have b0 : ((parents.length : Int) == 1) = false := beq_eq_false_iff_ne.2 (by omega)
    have H0 := Lib.hid h0
    clear h0
    go_enter Tryz.func130, Tryz.ntmps130
    go_wp2_with fail
    refine (containsPar_any parents ap cp _ (i : Int) _ (SP.out.giI grr) (by unfold Fit; omega) (by simp [go_sem]) (by omega) (by omega)).mono ?_
    rintro e w' ⟨rfl, rfl⟩
    rw [PB.out]
    go_wp2_with fail
    refine (pWithin_any high 0 4000000000 _).mono ?_
    rintro e w' ⟨rfl, rfl⟩
    rw [HB.out]
    go_wp2_with fail
    refine (pWithin_any low 0 high _).mono ?_
    rintro e w' ⟨rfl, rfl⟩
    rw [LB.out]
    go_wp2_with fail
    go_ret
    exact ⟨ret_bool (by (rw [eq_comm, decide_eq_false_iff_not, NO.out]; rintro ⟨q, _⟩; exact H0.out q)), grr⟩
theorem pv0 (kind : Int) (parents choices : List Int) (low high : Int) (ap ac : Option Addr) (cp cc i : Nat) (w : World) (hp : parents.length ≤ cp) (hc : choices.length ≤ cc) (fp : parents.length ≤ 8) (fc : choices.length ≤ 8) (sp : SlOf 1 RI w ap parents) (sc : SlOf 1 RI w ac choices) (hi : i ≤ 100) (PB : Hid (decide (ParBad parents (i : Int)) = false)) (HB : Hid (decide (0 ≤ high ∧ high ≤ 4000000000) = true)) (LB : Hid (decide (0 ≤ low ∧ low ≤ high) = true)) (k1 : kind ≠ 1) (k2 : kind ≠ 2) (k3 : kind ≠ 3) (k4 : kind ≠ 4) (k5 : kind ≠ 5) :
    Calls Tryz.prog 130 #[.agg #[.int .i64 kind, .slice ap parents.length cp, .slice ac choices.length cc, .int .i64 low, .int .i64 high], .int .i64 i] w (Grows w (.bool (decide (ChoOk ⟨kind, parents, choices, low, high⟩)))) := by
  have SP := Lib.hid sp
  have SC := Lib.hid sc
  clear sp sc
  have no : ¬ ChoOk ⟨kind, parents, choices, low, high⟩ := by
    unfold ChoOk; simp [k1, k2, k3, k4, k5]
  have NO := Lib.hid no
  have b1 : (kind == 1) = false := by simp [k1]
  have b2 : (kind == 2) = false := by simp [k2]
  have b3 : (kind == 3) = false := by simp [k3]
  have b4 : (kind == 4) = false := by simp [k4]
  have b5 : (kind == 5) = false := by simp [k5]
  clear no k1 k2 k3 k4 k5
  go_enter Tryz.func130, Tryz.ntmps130
  go_wp2_with fail
  refine (containsPar_any parents ap cp _ (i : Int) _ (SP.out.giI grr) (by unfold Fit; omega) (by simp [go_sem]) (by omega) (by omega)).mono ?_
  rintro e w' ⟨rfl, rfl⟩
  rw [PB.out]
  go_wp2_with fail
  refine (pWithin_any high 0 4000000000 _).mono ?_
  rintro e w' ⟨rfl, rfl⟩
  rw [HB.out]
  go_wp2_with fail
  refine (pWithin_any low 0 high _).mono ?_
  rintro e w' ⟨rfl, rfl⟩
  rw [LB.out]
  go_wp2_with fail
  go_ret
  exact ⟨ret_bool (by (rw [eq_comm, decide_eq_false_iff_not]; exact NO.out)), grr⟩
theorem pValid_any (c : Clk) (ap ac : Option Addr) (cp cc i : Nat) (w : World) (hp : c.parents.length ≤ cp) (hc : c.choices.length ≤ cc) (fp : c.parents.length ≤ 8) (fc : c.choices.length ≤ 8) (sp : SlOf 1 RI w ap c.parents) (sc : SlOf 1 RI w ac c.choices) (hi : i ≤ 100) :
    Calls Tryz.prog 130 #[.agg #[.int .i64 c.kind, .slice ap c.parents.length cp, .slice ac c.choices.length cc, .int .i64 c.low, .int .i64 c.high], .int .i64 i] w (Grows w (.bool (decide (ClkOk c i)))) := by
  obtain ⟨kind, parents, choices, low, high⟩ := c
  by_cases hb : ParBad parents (i : Int)
  · have : ¬ ClkOk ⟨kind, parents, choices, low, high⟩ i := fun q => by
      obtain ⟨j, hj, h⟩ := hb
      have := q.1 j hj
      exact h ⟨this.1, by have := this.2; simp only at this; omega⟩
    rw [decide_eq_false this]
    exact pv_par kind parents choices low high ap ac cp cc i w hp hc fp fc sp sc hi (Lib.hid (decide_eq_true hb))
  have hpo : ParOk ⟨kind, parents, choices, low, high⟩ i := fun j hj => by
    have : 0 ≤ parents[j] ∧ parents[j] ≤ (i : Int) - 1 := Classical.byContradiction fun q => hb ⟨j, hj, q⟩
    exact ⟨this.1, by show parents[j] < i; omega⟩
  by_cases hh : 0 ≤ high ∧ high ≤ 4000000000
  · by_cases hl : 0 ≤ low ∧ low ≤ high
    · have e : decide (ClkOk ⟨kind, parents, choices, low, high⟩ i) = decide (ChoOk ⟨kind, parents, choices, low, high⟩) := by
        rw [decide_eq_decide]; exact ⟨fun q => q.2.1, fun q => ⟨hpo, q, hl.1, hl.2, hh.2⟩⟩
      rw [e]
      have PB := Lib.hid (decide_eq_false hb)
      have HB := Lib.hid (decide_eq_true hh)
      have LB := Lib.hid (decide_eq_true hl)
      by_cases k1 : kind = 1
      · subst k1; exact pv1 1 parents choices low high ap ac cp cc i w hp hc fp fc sp sc hi PB HB LB
      by_cases k2 : kind = 2
      · subst k2; exact pv2 2 parents choices low high ap ac cp cc i w hp hc fp fc sp sc hi PB HB LB
      by_cases k3 : kind = 3
      · subst k3; exact pv3 3 parents choices low high ap ac cp cc i w hp hc fp fc sp sc hi PB HB LB
      by_cases k4 : kind = 4
      · subst k4; exact pv4 4 parents choices low high ap ac cp cc i w hp hc fp fc sp sc hi PB HB LB
      by_cases k5 : kind = 5
      · subst k5; exact pv5 5 parents choices low high ap ac cp cc i w hp hc fp fc sp sc hi PB HB LB
      exact pv0 kind parents choices low high ap ac cp cc i w hp hc fp fc sp sc hi PB HB LB k1 k2 k3 k4 k5
    · have : ¬ ClkOk ⟨kind, parents, choices, low, high⟩ i := fun q => hl ⟨q.2.2.1, q.2.2.2.1⟩
      rw [decide_eq_false this]
      exact pv_low kind parents choices low high ap ac cp cc i w hp hc fp fc sp sc hi (Lib.hid (decide_eq_false hb)) (Lib.hid (decide_eq_true hh)) (Lib.hid (decide_eq_false hl))
  · have : ¬ ClkOk ⟨kind, parents, choices, low, high⟩ i := fun q => hh ⟨Int.le_trans q.2.2.1 q.2.2.2.1, q.2.2.2.2⟩
    rw [decide_eq_false this]
    exact pv_high kind parents choices low high ap ac cp cc i w hp hc fp fc sp sc hi (Lib.hid (decide_eq_false hb)) (Lib.hid (decide_eq_false hh))
end Go.Proofs.YtenehghpmnajpaaGreatDoor
/-! Contract of clock.Check. -/
set_option linter.unusedVariables false
set_option linter.unusedSimpArgs false
namespace Go.Proofs.YtenehghpmnajpaaGreatDoor
open Go.RowKit
open Classical
theorem pCheck1_any (c : Clk) (ap ac : Option Addr) (cp cc : Nat) (w : World) (fp : Fit c.parents.length) (fc : Fit c.choices.length) :
    Calls Tryz.prog 129 #[.agg #[.int .i64 c.kind, .slice ap c.parents.length cp, .slice ac c.choices.length cc, .int .i64 c.low, .int .i64 c.high]] w (Grows w (.bool (decide (BigC c)))) := by
  unfold Fit at fp fc
  by_cases h1 : 8 < c.parents.length
  · have HB : Hid (BigC c) := Lib.hid (.inl h1)
    go_enter Tryz.func129, Tryz.ntmps129
    go_wp2
    go_ret
    exact ⟨ret_bool (decide_eq_true HB.out).symm, (Gr.refl _).alloc _⟩
  · by_cases h2 : 8 < c.choices.length
    · have HB : Hid (BigC c) := Lib.hid (.inr h2)
      go_enter Tryz.func129, Tryz.ntmps129
      go_wp2
      go_ret
      exact ⟨ret_bool (by rw [decide_eq_true HB.out]; simp; omega), (Gr.refl _).alloc _⟩
    · have HB : Hid (¬ BigC c) := Lib.hid (fun q => q.elim h1 h2)
      go_enter Tryz.func129, Tryz.ntmps129
      go_wp2
      go_ret
      exact ⟨ret_bool (by rw [decide_eq_false HB.out]; simp; omega), (Gr.refl _).alloc _⟩
def AnyBig (l : List Clk) : Prop := ∃ k, BigAt l k
theorem indexBig_any (l : List Clk) (ao : Option Addr) (cap : Nat) (w : World) (h : SlOf 5 RClk w ao l) (hf : Fit l.length) :
    Calls Tryz.prog 152 #[.slice ao l.length cap, .func (.func 129) #[] #[]] w fun e w' => ∃ y : Int, e = .returned (.int .i64 y) ∧ (0 ≤ y ↔ AnyBig l) ∧ Gr w w' := by
  unfold Fit at hf
  have H := Lib.hid h
  clear h
  go_enter Tryz.func152, Tryz.ntmps152
  go_wp2
  go_loopw [8] (fun i wr => ∃ k : Nat, k ≤ l.length ∧ i = .int .i64 k ∧ (∀ j, j < k → ¬ BigAt l j) ∧ Gr w wr) (fun i _ => l.length - (intOf i).toNat)
  case atStart => exact ⟨0, Nat.zero_le _, rfl, fun j h => absurd h (by omega), Gr.refl _⟩
  case round =>
    obtain ⟨k, hk, rfl, hall, hg⟩ := hrel
    have HA := Lib.hid hall
    have HG := Lib.hid hg
    clear hall hg
    obtain ⟨wo, rfl⟩ : ∃ wo : World, wo = wr := ⟨_, rfl⟩
    by_cases hlt : k < l.length
    · obtain ⟨b, o, rfl, ⟨c0, _⟩, ⟨ap, cp, c1, c1l, c1f, sp⟩, ⟨ac, cc, c2, c2l, c2f, sc⟩, ⟨c4, _⟩, c5, _⟩ := clks_gr H.out HG.out k hlt
      have hcall := pCheck1_any l[k] ap ac cp cc wo c1f c2f
      clear sp sc c1f c2f
      by_cases hq : BigC l[k]
      · rw [decide_eq_true hq] at hcall
        have Q := Lib.hid hq
        clear hq
        go_wp2_with fail
        refine hcall.mono ?_
        rintro e w' ⟨rfl, O, d, rfl⟩
        go_wp2_with fail
        go_ret
        exact ⟨k, rfl, ⟨fun _ => ⟨k, hlt, Q.out⟩, fun _ => by omega⟩, HG.out.xt _ _⟩
      · rw [decide_eq_false hq] at hcall
        have Q := Lib.hid hq
        clear hq
        go_wp2_with fail
        refine hcall.mono ?_
        rintro e w' ⟨rfl, O, d, rfl⟩
        go_wp2_with fail
        go_roundw
        case rel =>
          refine ⟨k + 1, by omega, by go_num, fun j hj => ?_, HG.out.xt _ _⟩
          by_cases e : j = k
          · subst e; exact fun ⟨_, q⟩ => Q.out q
          · exact HA.out j (by omega)
        case measure => simp [intOf]; omega
    · go_wp2
      go_ret
      exact ⟨-1, rfl, ⟨fun q => by omega, fun ⟨j, q⟩ => absurd q (HA.out j (by obtain ⟨h1, _⟩ := q; omega))⟩, HG.out⟩
theorem containsBig_any (l : List Clk) (ao : Option Addr) (cap : Nat) (w : World) (h : SlOf 5 RClk w ao l) (hf : Fit l.length) :
    Calls Tryz.prog 128 #[.slice ao l.length cap, .func (.func 129) #[] #[]] w (Grows w (.bool (decide (AnyBig l)))) := by
  have H := Lib.hid h
  have HF := Lib.hid hf
  clear h hf
  go_enter Tryz.func128, Tryz.ntmps128
  go_wp2_with fail
  refine (indexBig_any l ao cap w H.out HF.out).mono ?_
  rintro e w' ⟨y, rfl, hy, hg⟩
  have HY := Lib.hid hy
  have HG := Lib.hid hg
  clear hy hg
  go_wp2_with fail
  go_ret
  exact ⟨ret_bool (by rw [decide_eq_decide]; exact HY.out), HG.out⟩
end Go.Proofs.YtenehghpmnajpaaGreatDoor
/-! Contract of clock.Check. -/
set_option linter.unusedVariables false
set_option linter.unusedSimpArgs false
namespace Go.Proofs.YtenehghpmnajpaaGreatDoor
open Go.RowKit
open Classical
def facV (l : List Clk) (k : Nat) : List Int := facs (l.take k) ++ List.replicate (l.length - k) 0
theorem facV_len (l : List Clk) (k : Nat) (h : k ≤ l.length) : (facV l k).length = l.length := by
  simp only [facV, List.length_append, facs_len, List.length_take, List.length_replicate]; omega
theorem facV_low (l : List Clk) (k : Nat) (h : k ≤ l.length) (q : Nat) (hq : q < k) : (facV l k)[q]'(by rw [facV_len l k h]; omega) = (facs (l.take k)).getD q 0 := by
  have hl : (facs (l.take k)).length = k := by rw [facs_len, List.length_take]; omega
  simp only [facV]
  rw [List.getElem_append_left (by omega), List.getD_eq_getElem?_getD, List.getElem?_eq_getElem (by omega)]; rfl
theorem facV_at (l : List Clk) (k : Nat) (h : k < l.length) : (facV l k)[k]'(by rw [facV_len l k (by omega)]; exact h) = 0 := by
  have hl : (facs (l.take k)).length = k := by rw [facs_len, List.length_take]; omega
  simp only [facV]
  rw [List.getElem_append_right (by omega)]
  simp
theorem facV_step (l : List Clk) (k : Nat) (h : k < l.length) (x : Int) (hx : facStep (facs (l.take k)) l[k] = x) : (facV l k).set k x = facV l (k + 1) := by
  have hl : (facs (l.take k)).length = k := by rw [facs_len, List.length_take]; omega
  have hr : List.replicate (l.length - k) (0 : Int) = 0 :: List.replicate (l.length - (k + 1)) 0 := by
    rw [show l.length - k = (l.length - (k + 1)) + 1 by omega, List.replicate_succ]
  simp only [facV]
  rw [List.set_append_right _ _ (by omega), hl, Nat.sub_self, hr, List.set_cons_zero, facs_take l k h, hx, List.append_assoc]
  rfl
theorem facsGo_append (a b : List Clk) : ∀ out, facsGo (a ++ b) out = facsGo b (facsGo a out) := by
  induction a with
  | nil => intro out; rfl
  | cons c a ih => intro out; simp only [List.cons_append, facsGo]; exact ih _
theorem facsGo_mem (l : List Clk) : ∀ out : List Int, ∀ x ∈ out, x ∈ facsGo l out := by
  induction l with
  | nil => intro out x hx; exact hx
  | cons c l ih => intro out x hx; exact ih _ x (List.mem_append_left _ hx)
theorem facs_mem_take {l : List Clk} (k : Nat) {x : Int} (h : x ∈ facs (l.take k)) : x ∈ facs l := by
  have e : facs l = facsGo (l.drop k) (facs (l.take k)) := by
    conv => lhs; rw [← List.take_append_drop k l]
    exact facsGo_append _ _ _
  rw [e]; exact facsGo_mem _ _ _ h
theorem made_zero (n : Nat) : (madeCells #[Value.int .i64 0] n).toList = List.replicate n (Value.int .i64 0) := by
  apply List.ext_getElem
  · simp [madeCells]
  · intro i h1 h2
    simp [madeCells, Nat.mod_one]
theorem pCheck_any (l : List Clk) (ao : Option Addr) (cap : Nat) (w : World) (h : SlOf 5 RClk w ao l) (hf : Fit l.length) :
    Calls Tryz.prog 101 #[.slice ao l.length cap] w (Grows w (.int .i64 (cchk l))) := by
  have HF := Lib.hid hf
  unfold Fit at hf
  have H := Lib.hid h
  clear h
  by_cases hb : 16 < l.length
  · rw [cchk_big (.inl hb)]
    go_enter Tryz.func101, Tryz.ntmps101
    go_wp2_with fail
    go_ret
    exact ⟨rfl, Gr.refl _⟩
  · by_cases hab : AnyBig l
    · have CB := Lib.hid (cchk_big (l := l) (.inr hab))
      have HD := Lib.hid (decide_eq_true hab)
      clear hab
      go_enter Tryz.func101, Tryz.ntmps101
      go_wp2_with fail
      refine (containsBig_any l ao cap w H.out HF.out).mono ?_
      rintro e w' ⟨rfl, O, d, rfl⟩
      rw [HD.out]
      go_wp2_with fail
      go_ret
      exact ⟨ret_int CB.out.symm, ⟨O, d, rfl⟩⟩
    · have NB : Hid (¬ Big l) := Lib.hid (fun q => q.elim hb hab)
      have HD := Lib.hid (decide_eq_false hab)
      clear hab
      have hmk := run_make_row' (P := Tryz.prog) 22 3 (.int .i64 0) 8 Tryz.underlying22 infoInt rfl .i64 .i64 l.length (by omega) (by omega)
      go_enter Tryz.func101, Tryz.ntmps101
      go_wp2_with fail
      refine (containsBig_any l ao cap w H.out HF.out).mono ?_
      rintro e w1 ⟨rfl, hg⟩
      have HG := Lib.hid hg
      clear hg
      rw [HD.out]
      go_wp2_with fail
      go_loopw [20] (fun i wr => ∃ k : Nat, k ≤ l.length ∧ i = .int .i64 k ∧ (∀ j, j < k → OkAt l j) ∧ Gr w wr) (fun i _ => l.length - (intOf i).toNat)
      case atStart => exact ⟨0, Nat.zero_le _, rfl, fun j h => absurd h (by omega), HG.out⟩
      case round =>
        clear HG
        obtain ⟨k, hk, rfl, hall, hg⟩ := hrel
        have HA := Lib.hid hall
        have HG := Lib.hid hg
        clear hall hg
        obtain ⟨wo, rfl⟩ : ∃ wo : World, wo = wr := ⟨_, rfl⟩
        by_cases hlt : k < l.length
        · obtain ⟨b, o, rfl, ⟨c0, _⟩, ⟨ap, cp, c1, c1l, c1f, sp⟩, ⟨ac, cc, c2, c2l, c2f, sc⟩, ⟨c4, _⟩, c5, _⟩ := clks_gr H.out HG.out k hlt
          obtain ⟨fp, fc⟩ := small_at NB.out hlt
          have hcall := fun W (hW : Gr wo W) => pValid_any l[k] ap ac cp cc k W c1l c2l fp fc (sp.giI hW) (sc.giI hW) (by omega)
          have HC := Lib.hid hcall
          clear sp sc c1f c2f hcall
          by_cases hok : ClkOk l[k] k
          · have HD' := Lib.hid (decide_eq_true hok)
            have OK := Lib.hid hok
            clear hok
            go_wp2_with fail
            refine (HC.out _ (by repeat (first | with_reducible exact Gr.refl _ | with_reducible refine Gr.alloc _ ?_))).mono ?_
            rintro e w' ⟨rfl, O, d, rfl⟩
            rw [HD'.out]
            go_wp2_with fail
            go_roundw
            case rel =>
              refine ⟨k + 1, by omega, by go_num, fun j hj => ?_, by repeat (first | with_reducible exact HG.out | with_reducible refine Gr.xt _ _ ?_ | with_reducible refine Gr.alloc _ ?_)⟩
              by_cases e : j = k
              · subst e; exact ⟨hlt, OK.out⟩
              · exact HA.out j (by omega)
            case measure => simp [intOf]; omega
          · have HD' := Lib.hid (decide_eq_false hok)
            have CB := Lib.hid (cchk_bad NB.out (bad_at hlt hok))
            clear hok
            go_wp2_with fail
            refine (HC.out _ (by repeat (first | with_reducible exact Gr.refl _ | with_reducible refine Gr.alloc _ ?_))).mono ?_
            rintro e w' ⟨rfl, O, d, rfl⟩
            rw [HD'.out]
            go_wp2_with fail
            go_ret
            exact ⟨ret_int CB.out.symm, by repeat (first | with_reducible exact HG.out | with_reducible refine Gr.xt _ _ ?_ | with_reducible refine Gr.alloc _ ?_)⟩
        · have OK : Hid (AllOk l) := Lib.hid fun j hj => HA.out j (by omega)
          clear HA
          go_wp2_with fail
          obtain ⟨W2, hW2⟩ : ∃ W2 : World, Hid (W2 = wo.alloc (.cells (madeCells #[.int .i64 0] l.length) 3)) := ⟨_, Lib.hid rfl⟩
          rw [← hW2.out]
          obtain ⟨FB, hFB⟩ : ∃ FB : Nat, Hid (wo.heap.size = FB) := ⟨_, Lib.hid rfl⟩
          rw [hFB.out]
          have F2 : Hid (Row W2 FB 3 (nums (facV l 0))) := Lib.hid (by
            rw [hW2.out, ← hFB.out]
            have := Row.new wo (madeCells #[.int .i64 0] l.length) 3
            have e : (madeCells #[.int .i64 0] l.length).toList = nums (facV l 0) := by
              simp only [facV, List.take_zero, facs, facsGo, List.nil_append, Nat.sub_zero, nums, List.map_replicate]
              exact made_zero _
            rwa [e] at this)
          have HG2 : Hid (Gr w W2) := Lib.hid (by rw [hW2.out]; exact HG.out.alloc _)
          have fb : Hid (w.heap.size ≤ FB) := Lib.hid (by rw [← hFB.out]; exact HG.out.size)
          clear hmk hW2 hFB HG
          go_loopw [5, 35] (fun s i wr => ∃ k : Nat, k ≤ l.length ∧ i = .int .i64 k ∧ s = .int .i64 (prodC (l.take k)) ∧ prodC (l.take k) ≤ 4096 ∧ (∀ x ∈ facs (l.take k), x ≤ 4) ∧ Row wr FB 3 (nums (facV l k)) ∧ Gr w wr) (fun _ i _ => l.length - (intOf i).toNat)
          case atStart => exact ⟨0, Nat.zero_le _, rfl, rfl, by simp [prodC], by simp [facs, facsGo], F2.out, HG2.out⟩
          case round =>
            clear F2 HG2
            obtain ⟨k, hk, rfl, rfl, hpr, hfs, hrow, hg⟩ := hrel
            have FS := Lib.hid hfs
            have HR := Lib.hid hrow
            have HG := Lib.hid hg
            clear hfs hrow hg
            obtain ⟨P, hP⟩ : ∃ P : Nat, Hid (prodC (l.take k) = P) := ⟨_, Lib.hid rfl⟩
            rw [hP.out] at hpr ⊢
            obtain ⟨wo, rfl⟩ : ∃ wo : World, wo = wr := ⟨_, rfl⟩
            by_cases hlt : k < l.length
            · obtain ⟨b, o, rfl, ⟨c0, _⟩, ⟨ap, cp, c1, c1l, c1f, sp⟩, ⟨ac, cc, c2, c2l, c2f, sc⟩, ⟨c4, _⟩, c5, _⟩ := H.out k hlt
              obtain ⟨fp, fc⟩ := small_at NB.out hlt
              obtain ⟨_, hpar, hcho, _⟩ := OK.out k hlt
              have PAR := Lib.hid hpar
              have POS := cho_pos hcho
              have SP := Lib.hid sp
              have d0 := cell_gr HG.out c0
              have d1 := cell_gr HG.out c1
              have d2 := cell_gr HG.out c2
              have d4 := cell_gr HG.out c4
              have d5 := cell_gr HG.out c5
              clear hpar hcho sp sc c1f c2f c0 c1 c2 c4 c5
              go_wp2_with fail
              obtain ⟨W3, hW3⟩ : ∃ W3 : World, Hid (W3 = wo.alloc (.cells #[.int .i64 l[k].kind, .slice ap l[k].parents.length cp, .slice ac l[k].choices.length cc, .int .i64 l[k].low, .int .i64 l[k].high] 79)) := ⟨_, Lib.hid rfl⟩
              rw [← hW3.out]
              obtain ⟨B8, hB8⟩ : ∃ B8 : Nat, Hid (wo.heap.size = B8) := ⟨_, Lib.hid rfl⟩
              rw [hB8.out]
              have RB : Hid (Row W3 B8 79 [.int .i64 l[k].kind, .slice ap l[k].parents.length cp, .slice ac l[k].choices.length cc, .int .i64 l[k].low, .int .i64 l[k].high]) := Lib.hid (by rw [hW3.out, ← hB8.out]; exact Row.new wo _ _)
              have R3 : Hid (Row W3 FB 3 (nums (facV l k))) := Lib.hid (by rw [hW3.out]; exact HR.out.alloc _)
              have HG3 : Hid (Gr w W3) := Lib.hid (by rw [hW3.out]; exact HG.out.alloc _)
              have b8 : Hid (FB < B8) := Lib.hid (by rw [← hB8.out]; exact HR.out.has)
              have VL := Lib.hid (facV_len l k hk)
              clear hW3 hB8 HR HG d0 d1 d2 d4 d5
              go_loopw [43] (fun j wi => ∃ m : Nat, m ≤ l[k].parents.length ∧ j = .int .i64 m ∧ Row wi FB 3 (nums ((facV l k).set k (maxAt (facs (l.take k)) (l[k].parents.take m) 0))) ∧ Row wi B8 79 [.int .i64 l[k].kind, .slice ap l[k].parents.length cp, .slice ac l[k].choices.length cc, .int .i64 l[k].low, .int .i64 l[k].high] ∧ Gr w wi) (fun j _ => l[k].parents.length - (intOf j).toNat)
              case atStart => exact ⟨0, Nat.zero_le _, rfl, by simp only [List.take_zero, maxAt]; rw [set_same _ _ (by rw [VL.out]; exact hlt) _ (facV_at l k hlt)]; exact R3.out, RB.out, HG3.out⟩
              case round =>
                clear R3 RB HG3
                obtain ⟨m, hm, rfl, hr, hbx, hg⟩ := hrel
                have HR := Lib.hid hr
                have HX := Lib.hid hbx
                have HG := Lib.hid hg
                clear hr hbx hg
                obtain ⟨wi, rfl⟩ : ∃ wi : World, wi = wr := ⟨_, rfl⟩
                by_cases hlm : m < l[k].parents.length
                · obtain ⟨p1, p2⟩ := PAR.out m hlm
                  obtain ⟨bp, op, rfl, ⟨q1, _⟩⟩ := (SP.out.giI HG.out).one m hlm
                  obtain ⟨q, hq⟩ : ∃ q : Nat, l[k].parents[m] = q := ⟨_, (Int.toNat_of_nonneg p1).symm⟩
                  rw [hq] at q1 p2
                  have hqk : q < k := by omega
                  obtain ⟨x, hx⟩ : ∃ x, maxAt (facs (l.take k)) (l[k].parents.take m) 0 = x := ⟨_, rfl⟩
                  rw [hx] at HR
                  have e1 := HR.out.iat k (by rw [List.length_set, VL.out]; exact hlt)
                  have e2 := HR.out.iat q (by rw [List.length_set, VL.out]; omega)
                  rw [List.getElem_set_self] at e1
                  rw [List.getElem_set_ne (by omega), facV_low l k hk q hqk] at e2
                  obtain ⟨y, hy⟩ : ∃ y, (facs (l.take k)).getD q 0 = y := ⟨_, rfl⟩
                  rw [hy] at e2
                  have e3 := HR.out.free k
                  have eh := HR.out.has
                  have HM := Lib.hid (maxAt_take (facs (l.take k)) l[k].parents m hlm 0)
                  rw [hx, hq, Int.toNat_natCast, hy] at HM
                  have lk : (k : Int) < l.length := by omega
                  have lq : (q : Int) < l.length := by omega
                  have HQ := Lib.hid hq
                  clear hx hy
                  have fin : ∀ z : Int, z = max x y → ∀ W, Gr wi W → Row (W.setCell ⟨FB, k, none⟩ (.int .i64 z)) FB 3 (nums ((facV l k).set k (maxAt (facs (l.take k)) (l[k].parents.take (m + 1)) 0))) := fun z hz W hW => by
                    have := (HR.out.gr hW).iset k z
                    rw [List.set_set] at this
                    rw [HM.out, ← hz]; exact this
                  have FIN := Lib.hid fin
                  clear fin
                  rcases Int.lt_or_le x y with hxy | hxy
                  all_goals
                    go_wp2_with fail
                    go_region
                    all_goals
                      go_wp2_with fail
                      go_roundw
                      case rel => exact ⟨m + 1, by omega, by go_num, FIN.out _ (by omega) _ (by repeat (first | with_reducible exact Gr.refl _ | with_reducible refine Gr.drew ?_)), (HX.out.drew).oth (by have := b8.out; omega), (HG.out.drew).setc fb.out⟩
                      case measure => simp [intOf]; omega
                · obtain rfl : m = l[k].parents.length := by omega
                  obtain ⟨x, hx⟩ : ∃ x, maxAt (facs (l.take k)) l[k].parents 0 = x := ⟨_, rfl⟩
                  rw [List.take_length, hx] at HR
                  have FBd := facs_bounds (l.take k)
                  have nb := maxAt_bounds (facs (l.take k)) k (fun y hy => by have := FBd y hy; rw [List.length_take] at this; omega) (by omega) l[k].parents 0 (by omega) (by omega)
                  rw [hx] at nb
                  have HFS : Hid (facStep (facs (l.take k)) l[k] = x + isFac l[k]) := Lib.hid (by rw [facStep, hx])
                  have e1 := HR.out.iat k (by rw [List.length_set, VL.out]; exact hlt)
                  rw [List.getElem_set_self] at e1
                  have e3 := HR.out.free k
                  have eh := HR.out.has
                  have r0 := HX.out.cell 0 (by simp)
                  have r2 := HX.out.cell 2 (by simp)
                  have rh := HX.out.has
                  simp only [List.getElem_cons_zero, List.getElem_cons_succ] at r0 r2
                  have lk : (k : Int) < l.length := by omega
                  have pl0 : 0 ≤ (P : Int) * l[k].choices.length := Int.mul_nonneg (by omega) (by omega)
                  have pl1 : (P : Int) * l[k].choices.length ≤ 4096 * 8 := Int.mul_le_mul (by omega) (by omega) (by omega) (by omega)
                  have b8' := b8.out
                  clear hx FBd
                  by_cases h2 : l[k].kind = 2
                  · have b2 : (l[k].kind == 2) = true := by simp [h2]
                    have hf : isFac l[k] = 1 := by simp [isFac, h2]
                    have HF := Lib.hid hf
                    clear h2 hf
                    have hz := facV_step l k hlt (x + 1) (by rw [HFS.out, HF.out])
                    have FZ : Hid (facs (l.take (k + 1)) = facs (l.take k) ++ [x + 1]) := Lib.hid (by rw [facs_take l k hlt, HFS.out, HF.out])
                    have HZ := Lib.hid hz
                    clear hz
                    have PZ : Hid (prodC (l.take (k + 1)) = P * l[k].choices.length) := Lib.hid (by rw [prodC_take l k hlt, hP.out])
                    by_cases hb1 : 4096 < (P : Int) * l[k].choices.length
                    · have CM := Lib.hid (cchk_much NB.out OK.out (fun q => by
                        have h1 := prodC_take_le (allOk_cho OK.out) (k + 1)
                        have h2 := PZ.out
                        have h3 : ((P * l[k].choices.length : Nat) : Int) = (P : Int) * l[k].choices.length := Int.natCast_mul _ _
                        omega))
                      go_wp2_with fail
                      go_ret
                      exact ⟨ret_int CM.out.symm, HG.out.setc fb.out⟩
                    · by_cases hb2 : 4 < x + 1
                      · have CM := Lib.hid (cchk_much NB.out OK.out (fun q => by
                          have h1 := q.2 (x + 1) (facs_mem_take (k + 1) (by rw [FZ.out]; simp))
                          omega))
                        go_wp2_with fail
                        go_ret
                        exact ⟨ret_int CM.out.symm, HG.out.setc fb.out⟩
                      · go_wp2_with fail
                        go_roundw
                        case rel =>
                          refine ⟨k + 1, by omega, by go_num, by rw [PZ.out, Int.natCast_mul], ?_, ?_, ?_, HG.out.setc fb.out⟩
                          · have h2 := PZ.out
                            have h3 : ((P * l[k].choices.length : Nat) : Int) = (P : Int) * l[k].choices.length := Int.natCast_mul _ _
                            omega
                          · intro y hy
                            rw [FZ.out] at hy
                            rcases List.mem_append.1 hy with q | q
                            · exact FS.out y q
                            · rw [List.mem_singleton.1 q]; omega
                          · rw [← HZ.out]; have := HR.out.iset k (x + 1); rw [List.set_set] at this; exact this
                        case measure => simp [intOf]; omega
                  · by_cases h3 : l[k].kind = 3
                    · have b2 : (l[k].kind == 2) = false := by simp [h2]
                      have b3 : (l[k].kind == 3) = true := by simp [h3]
                      have hf : isFac l[k] = 1 := by simp [isFac, h3]
                      have HF := Lib.hid hf
                      clear h2 h3 hf
                      have hz := facV_step l k hlt (x + 1) (by rw [HFS.out, HF.out])
                      have FZ : Hid (facs (l.take (k + 1)) = facs (l.take k) ++ [x + 1]) := Lib.hid (by rw [facs_take l k hlt, HFS.out, HF.out])
                      have HZ := Lib.hid hz
                      clear hz
                      have PZ : Hid (prodC (l.take (k + 1)) = P * l[k].choices.length) := Lib.hid (by rw [prodC_take l k hlt, hP.out])
                      by_cases hb1 : 4096 < (P : Int) * l[k].choices.length
                      · have CM := Lib.hid (cchk_much NB.out OK.out (fun q => by
                          have h1 := prodC_take_le (allOk_cho OK.out) (k + 1)
                          have h2 := PZ.out
                          have h3 : ((P * l[k].choices.length : Nat) : Int) = (P : Int) * l[k].choices.length := Int.natCast_mul _ _
                          omega))
                        go_wp2_with fail
                        go_ret
                        exact ⟨ret_int CM.out.symm, HG.out.setc fb.out⟩
                      · by_cases hb2 : 4 < x + 1
                        · have CM := Lib.hid (cchk_much NB.out OK.out (fun q => by
                            have h1 := q.2 (x + 1) (facs_mem_take (k + 1) (by rw [FZ.out]; simp))
                            omega))
                          go_wp2_with fail
                          go_ret
                          exact ⟨ret_int CM.out.symm, HG.out.setc fb.out⟩
                        · go_wp2_with fail
                          go_roundw
                          case rel =>
                            refine ⟨k + 1, by omega, by go_num, by rw [PZ.out, Int.natCast_mul], ?_, ?_, ?_, HG.out.setc fb.out⟩
                            · have h2 := PZ.out
                              have h3 : ((P * l[k].choices.length : Nat) : Int) = (P : Int) * l[k].choices.length := Int.natCast_mul _ _
                              omega
                            · intro y hy
                              rw [FZ.out] at hy
                              rcases List.mem_append.1 hy with q | q
                              · exact FS.out y q
                              · rw [List.mem_singleton.1 q]; omega
                            · rw [← HZ.out]; have := HR.out.iset k (x + 1); rw [List.set_set] at this; exact this
                          case measure => simp [intOf]; omega
                    · have b2 : (l[k].kind == 2) = false := by simp [h2]
                      have b3 : (l[k].kind == 3) = false := by simp [h3]
                      have hf : isFac l[k] = 0 := by simp [isFac, h2, h3]
                      have HF := Lib.hid hf
                      clear h2 h3 hf
                      have hz := facV_step l k hlt (x) (by rw [HFS.out, HF.out, Int.add_zero])
                      have FZ : Hid (facs (l.take (k + 1)) = facs (l.take k) ++ [x]) := Lib.hid (by rw [facs_take l k hlt, HFS.out, HF.out, Int.add_zero])
                      have HZ := Lib.hid hz
                      clear hz
                      have PZ : Hid (prodC (l.take (k + 1)) = P * l[k].choices.length) := Lib.hid (by rw [prodC_take l k hlt, hP.out])
                      by_cases hb1 : 4096 < (P : Int) * l[k].choices.length
                      · have CM := Lib.hid (cchk_much NB.out OK.out (fun q => by
                          have h1 := prodC_take_le (allOk_cho OK.out) (k + 1)
                          have h2 := PZ.out
                          have h3 : ((P * l[k].choices.length : Nat) : Int) = (P : Int) * l[k].choices.length := Int.natCast_mul _ _
                          omega))
                        go_wp2_with fail
                        go_ret
                        exact ⟨ret_int CM.out.symm, HG.out⟩
                      · by_cases hb2 : 4 < x
                        · have CM := Lib.hid (cchk_much NB.out OK.out (fun q => by
                            have h1 := q.2 (x) (facs_mem_take (k + 1) (by rw [FZ.out]; simp))
                            omega))
                          go_wp2_with fail
                          go_ret
                          exact ⟨ret_int CM.out.symm, HG.out⟩
                        · go_wp2_with fail
                          go_roundw
                          case rel =>
                            refine ⟨k + 1, by omega, by go_num, by rw [PZ.out, Int.natCast_mul], ?_, ?_, ?_, HG.out⟩
                            · have h2 := PZ.out
                              have h3 : ((P * l[k].choices.length : Nat) : Int) = (P : Int) * l[k].choices.length := Int.natCast_mul _ _
                              omega
                            · intro y hy
                              rw [FZ.out] at hy
                              rcases List.mem_append.1 hy with q | q
                              · exact FS.out y q
                              · rw [List.mem_singleton.1 q]; omega
                            · rw [← HZ.out]; exact HR.out
                          case measure => simp [intOf]; omega
            · obtain rfl : k = l.length := by omega
              rw [List.take_length] at hP FS
              have hz := Lib.hid (cchk_ok NB.out OK.out (by rw [hP.out]; exact hpr) FS.out)
              go_wp2_with fail
              go_ret
              exact ⟨ret_int hz.out.symm, HG.out⟩
end Go.Proofs.YtenehghpmnajpaaGreatDoor
