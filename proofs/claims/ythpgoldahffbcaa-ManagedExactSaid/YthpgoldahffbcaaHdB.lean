/- managed.fault and its reference (printed by wip/tools/hold.py). -/
import Derived.Test.YthpgoldahffbcaaHdA
set_option linter.unusedVariables false
set_option linter.unusedSimpArgs false
namespace Go.Proofs.Ythpgoldahffbcaa
open Go.RowKit
theorem flt_rng {l : List Hld} {x : Hld} (h : RngBad x) : flt l x = 2 := by rw [flt, if_pos h]
theorem flt_dup {l : List Hld} {x : Hld} (h : ¬ RngBad x) {k : Nat} (hk : k < l.length) (hd : dup x l[k]) : flt l x = 5 := by
  rw [flt, if_neg h, if_pos ⟨_, List.getElem_mem hk, hd⟩]
theorem flt_own {l : List Hld} {x : Hld} (h : ¬ RngBad x) (hd : ∀ j (hj : j < l.length), ¬ dup x l[j]) {k : Nat} (hk : k < l.length) (ho : own x l[k]) : flt l x = 40 := by
  rw [flt, if_neg h, if_neg, if_pos ⟨_, List.getElem_mem hk, ho⟩]
  rintro ⟨y, hy, q⟩
  obtain ⟨j, hj, rfl⟩ := List.getElem_of_mem hy
  exact hd j hj q
theorem flt_ok {l : List Hld} {x : Hld} (h : ¬ RngBad x) (hd : ∀ j (hj : j < l.length), ¬ dup x l[j]) (ho : ∀ j (hj : j < l.length), ¬ own x l[j]) : flt l x = 0 := by
  rw [flt, if_neg h, if_neg, if_neg]
  · rintro ⟨y, hy, q⟩
    obtain ⟨j, hj, rfl⟩ := List.getElem_of_mem hy
    exact ho j hj q
  · rintro ⟨y, hy, q⟩
    obtain ⟨j, hj, rfl⟩ := List.getElem_of_mem hy
    exact hd j hj q

set_option maxHeartbeats 4000000 in
theorem fault_any (l : List Hld) (x : Hld) (ao : Option Addr) (cap : Nat) (w : World) (h : SlOf 3 RHld w ao l) (hf : Fit l.length) (hx : HWide x) :
    Calls Try.prog 32 #[.slice ao l.length cap, .agg #[.int .i64 x.device, .int .i64 x.kind, .int .i64 x.unit]] w (Grows w (.int .i64 (flt l x))) := by
  unfold Fit at hf
  have H := Lib.hid h
  clear h
  obtain ⟨⟨w1, w2⟩, ⟨w3, w4⟩, ⟨w5, w6⟩⟩ := hx
  by_cases hb : RngBad x
  · rw [flt_rng hb]
    have hc : x.device < 0 ∨ (0 ≤ x.device ∧ 12 ≤ x.device) ∨ (0 ≤ x.device ∧ x.device < 12 ∧ x.kind ≠ 1 ∧ x.kind ≠ 2) ∨ (0 ≤ x.device ∧ x.device < 12 ∧ x.kind = 1 ∧ x.unit < 0) ∨ (0 ≤ x.device ∧ x.device < 12 ∧ x.kind = 2 ∧ x.unit < 0) := by unfold RngBad at hb; omega
    clear hb
    obtain ⟨dv, kd, un⟩ := x
    simp only at *
    rcases hc with hc | ⟨h0, hc⟩ | ⟨h0, h1, h2, h3⟩ | ⟨h0, h1, rfl, h3⟩ | ⟨h0, h1, rfl, h3⟩
    · have q1 : decide (dv < 0) = true := by simpa using hc
      go_enter Try.func32, Try.ntmps32
      go_wp2_with fail
      go_ret
      exact ⟨rfl, (by repeat (first | with_reducible exact Gr.refl _ | with_reducible refine Gr.alloc _ ?_ | with_reducible refine Gr.xt _ _ ?_ | with_reducible refine Gr.drew ?_))⟩
    · have q1 : decide (dv < 0) = false := by simp; omega
      have q2 : decide (12 ≤ dv) = true := by simpa using hc
      go_enter Try.func32, Try.ntmps32
      go_wp2_with fail
      go_ret
      exact ⟨rfl, (by repeat (first | with_reducible exact Gr.refl _ | with_reducible refine Gr.alloc _ ?_ | with_reducible refine Gr.xt _ _ ?_ | with_reducible refine Gr.drew ?_))⟩
    · have q1 : decide (dv < 0) = false := by simp; omega
      have q2 : decide (12 ≤ dv) = false := by simp; omega
      have q3 : (kd != 1) = true := by simpa using h2
      have q4 : (kd != 2) = true := by simpa using h3
      clear h2 h3
      go_enter Try.func32, Try.ntmps32
      go_wp2_with fail
      go_ret
      exact ⟨rfl, (by repeat (first | with_reducible exact Gr.refl _ | with_reducible refine Gr.alloc _ ?_ | with_reducible refine Gr.xt _ _ ?_ | with_reducible refine Gr.drew ?_))⟩
    · have q1 : decide (dv < 0) = false := by simp; omega
      have q2 : decide (12 ≤ dv) = false := by simp; omega
      have q5 : decide (un < 0) = true := by simpa using h3
      go_enter Try.func32, Try.ntmps32
      go_wp2_with fail
      go_ret
      exact ⟨rfl, (by repeat (first | with_reducible exact Gr.refl _ | with_reducible refine Gr.alloc _ ?_ | with_reducible refine Gr.xt _ _ ?_ | with_reducible refine Gr.drew ?_))⟩
    · have q1 : decide (dv < 0) = false := by simp; omega
      have q2 : decide (12 ≤ dv) = false := by simp; omega
      have q5 : decide (un < 0) = true := by simpa using h3
      go_enter Try.func32, Try.ntmps32
      go_wp2_with fail
      go_ret
      exact ⟨rfl, (by repeat (first | with_reducible exact Gr.refl _ | with_reducible refine Gr.alloc _ ?_ | with_reducible refine Gr.xt _ _ ?_ | with_reducible refine Gr.drew ?_))⟩
  · have NB := Lib.hid hb
    have hc : 0 ≤ x.device ∧ x.device < 12 ∧ (x.kind = 1 ∨ x.kind = 2) ∧ 0 ≤ x.unit := by unfold RngBad at hb; omega
    clear hb
    obtain ⟨h0, h1, h2, h3⟩ := hc
    have q1 : decide (x.device < 0) = false := by simp; omega
    have q2 : decide (12 ≤ x.device) = false := by simp; omega
    have q5 : decide (x.unit < 0) = false := by simp; omega
    obtain ⟨xx, hxx⟩ : ∃ xx, xx = x := ⟨_, rfl⟩
    rw [← hxx] at NB ⊢
    obtain ⟨dv, kd, un⟩ := x
    have EX := Lib.hid hxx
    clear hxx
    rw [EX.out]
    simp only at h0 h1 h2 h3 q1 q2 q5 w1 w2 w3 w4 w5 w6 ⊢
    rw [← EX.out]
    have kk : ((kd != 1) = false ∧ (kd == 2) = false) ∨ ((kd != 1) = true ∧ (kd != 2) = false ∧ (kd == 2) = true) := by
      rcases h2 with rfl | rfl
      · exact .inl ⟨rfl, rfl⟩
      · exact .inr ⟨rfl, rfl, rfl⟩
    clear h2
    rcases kk with ⟨q3, q6⟩ | ⟨q3, q4, q6⟩
    all_goals
      go_enter Try.func32, Try.ntmps32
      go_wp2_with fail
      obtain ⟨W0, hW0⟩ : ∃ W0 : World, Hid (W0 = w.alloc (.cells #[.int .i64 dv, .int .i64 kd, .int .i64 un] 34)) := ⟨_, Lib.hid rfl⟩
      have G0 : Hid (Gr w W0) := Lib.hid (by rw [hW0.out]; exact (Gr.refl _).alloc _)
      have R0 : Hid (Row W0 w.heap.size 34 [.int .i64 dv, .int .i64 kd, .int .i64 un]) := Lib.hid (by rw [hW0.out]; exact Row.new w _ _)
      rw [← hW0.out]
      clear hW0
      go_loopw [34] (fun i wr => ∃ k : Nat, k ≤ l.length ∧ i = .int .i64 k ∧ (∀ j (hj : j < k) (hjl : j < l.length), ¬ dup xx l[j]) ∧ Gr W0 wr) (fun i _ => l.length - (intOf i).toNat)
      case atStart => exact ⟨0, Nat.zero_le _, rfl, fun j h => absurd h (by omega), Gr.refl _⟩
      case round =>
        obtain ⟨k, hk, rfl, hall, hg⟩ := hrel
        have HA := Lib.hid hall
        have HG := Lib.hid hg
        have e0 := (R0.out.gr hg).cell 0 (by simp)
        have e1 := (R0.out.gr hg).cell 1 (by simp)
        have e2 := (R0.out.gr hg).cell 2 (by simp)
        have eh := (R0.out.gr hg).has
        simp only [List.getElem_cons_zero, List.getElem_cons_succ] at e0 e1 e2
        clear hall hg
        by_cases hlt : k < l.length
        · obtain ⟨b, o, rfl, ⟨c0, v1, v2⟩, ⟨c1, v3, v4⟩, ⟨c2, v5, v6⟩⟩ := (hlds_gr H.out (G0.out.trans HG.out)) k hlt
          have ch := has_of_cell c0
          obtain ⟨y, hy⟩ : ∃ y, y = l[k] := ⟨_, rfl⟩
          rw [← hy] at c0 c1 c2 v1 v2 v3 v4 v5 v6
          have HY := Lib.hid hy
          clear hy
          obtain ⟨yd, yk, yu⟩ := y
          simp only at c0 c1 c2 v1 v2 v3 v4 v5 v6
          by_cases hd : yd = dv
          · have d1 : (yd == dv) = true := by simpa using hd
            by_cases hu : yu = un
            · have d2 : (yu == un) = true := by simpa using hu
              have hdup : Hid (dup xx l[k]) := Lib.hid (by rw [← HY.out, EX.out]; exact ⟨hd, hu⟩)
              clear hd hu
              go_wp2_with fail
              go_ret
              rw [flt_dup NB.out hlt hdup.out]
              exact ⟨rfl, (G0.out.trans HG.out).trans (by repeat (first | with_reducible exact Gr.refl _ | with_reducible refine Gr.alloc _ ?_ | with_reducible refine Gr.xt _ _ ?_ | with_reducible refine Gr.drew ?_))⟩
            · have d2 : (yu == un) = false := by simpa using hu
              have ND : Hid (¬ dup xx l[k]) := Lib.hid (by rw [← HY.out, EX.out]; exact fun q => hu q.2)
              clear hd hu
              go_wp2_with fail
              go_roundw
              case rel =>
                refine ⟨k + 1, by omega, by go_num, fun j hj hjl => ?_, HG.out.trans (by repeat (first | with_reducible exact Gr.refl _ | with_reducible refine Gr.alloc _ ?_ | with_reducible refine Gr.xt _ _ ?_ | with_reducible refine Gr.drew ?_))⟩
                by_cases e : j = k
                · subst e; exact ND.out
                · exact HA.out j (by omega) hjl
              case measure => simp [intOf]; omega
          · have d1 : (yd == dv) = false := by simpa using hd
            have ND : Hid (¬ dup xx l[k]) := Lib.hid (by rw [← HY.out, EX.out]; exact fun q => hd q.1)
            clear hd
            go_wp2_with fail
            go_roundw
            case rel =>
              refine ⟨k + 1, by omega, by go_num, fun j hj hjl => ?_, HG.out.trans (by repeat (first | with_reducible exact Gr.refl _ | with_reducible refine Gr.alloc _ ?_ | with_reducible refine Gr.xt _ _ ?_ | with_reducible refine Gr.drew ?_))⟩
              by_cases e : j = k
              · subst e; exact ND.out
              · exact HA.out j (by omega) hjl
            case measure => simp [intOf]; omega
        · have NDup : Hid (∀ j (hj : j < l.length), ¬ dup xx l[j]) := Lib.hid fun j hj => HA.out j (by omega) hj
          obtain ⟨W1, rfl⟩ : ∃ W1 : World, W1 = wr := ⟨_, rfl⟩
          have R1 := Lib.hid (R0.out.gr HG.out)
          have G1 := Lib.hid (G0.out.trans HG.out)
          clear HA HG R0 G0 e0 e1 e2 eh
          go_wp2_with fail
          go_loopw [53] (fun i wr => ∃ k : Nat, k ≤ l.length ∧ i = .int .i64 k ∧ (∀ j (hj : j < k) (hjl : j < l.length), ¬ own xx l[j]) ∧ Gr W1 wr) (fun i _ => l.length - (intOf i).toNat)
          case atStart => exact ⟨0, Nat.zero_le _, rfl, fun j h => absurd h (by omega), Gr.refl _⟩
          case round =>
            obtain ⟨k, hk, rfl, hall, hg⟩ := hrel
            have HA := Lib.hid hall
            have HG := Lib.hid hg
            have e0 := (R1.out.gr hg).cell 0 (by simp)
            have e1 := (R1.out.gr hg).cell 1 (by simp)
            have e2 := (R1.out.gr hg).cell 2 (by simp)
            have eh := (R1.out.gr hg).has
            simp only [List.getElem_cons_zero, List.getElem_cons_succ] at e0 e1 e2
            clear hall hg
            by_cases hlt : k < l.length
            · obtain ⟨b, o, rfl, ⟨c0, v1, v2⟩, ⟨c1, v3, v4⟩, ⟨c2, v5, v6⟩⟩ := (hlds_gr H.out (G1.out.trans HG.out)) k hlt
              have ch := has_of_cell c0
              obtain ⟨y, hy⟩ : ∃ y, y = l[k] := ⟨_, rfl⟩
              rw [← hy] at c0 c1 c2 v1 v2 v3 v4 v5 v6
              have HY := Lib.hid hy
              clear hy
              obtain ⟨yd, yk, yu⟩ := y
              simp only at c0 c1 c2 v1 v2 v3 v4 v5 v6
              by_cases ho : own xx l[k]
              · have ho' : yu = un ∧ (kd = 2 ∨ yk = 2) := by have q := ho; rw [← HY.out, EX.out] at q; exact q
                have d1 : (yu == un) = true := by simpa using ho'.1
                have OO := Lib.hid ho
                have d2 : (yk == 2) = true ∨ ((yk == 2) = false ∧ (kd == 2) = true) := by
                  by_cases q : yk = 2
                  · left; simpa using q
                  · right; exact ⟨by simpa using q, by have := ho'.2; simp; omega⟩
                clear ho ho'
                rcases d2 with d2 | ⟨d2, d3⟩
                · go_wp2_with fail
                  go_ret
                  rw [flt_own NB.out NDup.out hlt OO.out]
                  exact ⟨rfl, (G1.out.trans HG.out).trans (by repeat (first | with_reducible exact Gr.refl _ | with_reducible refine Gr.alloc _ ?_ | with_reducible refine Gr.xt _ _ ?_ | with_reducible refine Gr.drew ?_))⟩
                · first
                    | (exfalso; rw [d3] at q6; exact Bool.noConfusion q6)
                    | (go_wp2_with fail
                       go_ret
                       rw [flt_own NB.out NDup.out hlt OO.out]
                       exact ⟨rfl, (G1.out.trans HG.out).trans (by repeat (first | with_reducible exact Gr.refl _ | with_reducible refine Gr.alloc _ ?_ | with_reducible refine Gr.xt _ _ ?_ | with_reducible refine Gr.drew ?_))⟩)
              · have ho' : yu ≠ un ∨ (yu = un ∧ kd ≠ 2 ∧ yk ≠ 2) := by
                  have q : ¬ (yu = un ∧ (kd = 2 ∨ yk = 2)) := fun q => ho (by rw [← HY.out, EX.out]; exact q)
                  omega
                have NO := Lib.hid ho
                clear ho
                rcases ho' with hu | ⟨hu, hk2, hy2⟩
                · have d1 : (yu == un) = false := by simpa using hu
                  clear hu
                  go_wp2_with fail
                  go_roundw
                  case rel =>
                    refine ⟨k + 1, by omega, by go_num, fun j hj hjl => ?_, HG.out.trans (by repeat (first | with_reducible exact Gr.refl _ | with_reducible refine Gr.alloc _ ?_ | with_reducible refine Gr.xt _ _ ?_ | with_reducible refine Gr.drew ?_))⟩
                    by_cases e : j = k
                    · subst e; exact NO.out
                    · exact HA.out j (by omega) hjl
                  case measure => simp [intOf]; omega
                · have d1 : (yu == un) = true := by simpa using hu
                  have d2 : (yk == 2) = false := by simpa using hy2
                  have d3 : (kd == 2) = false := by simpa using hk2
                  clear hu hk2 hy2
                  first
                    | (exfalso; rw [d3] at q6; exact Bool.noConfusion q6)
                    | (go_wp2_with fail
                       go_roundw
                       case rel =>
                         refine ⟨k + 1, by omega, by go_num, fun j hj hjl => ?_, HG.out.trans (by repeat (first | with_reducible exact Gr.refl _ | with_reducible refine Gr.alloc _ ?_ | with_reducible refine Gr.xt _ _ ?_ | with_reducible refine Gr.drew ?_))⟩
                         by_cases e : j = k
                         · subst e; exact NO.out
                         · exact HA.out j (by omega) hjl
                       case measure => simp [intOf]; omega)
            · have NOwn : Hid (∀ j (hj : j < l.length), ¬ own xx l[j]) := Lib.hid fun j hj => HA.out j (by omega) hj
              go_wp2_with fail
              go_ret
              rw [flt_ok NB.out NDup.out NOwn.out]
              exact ⟨rfl, G1.out.trans HG.out⟩

set_option maxHeartbeats 4000000 in
theorem fits_any (l : List Hld) (x : Hld) (ao : Option Addr) (cap : Nat) (w : World) (h : SlOf 3 RHld w ao l) (hf : Fit l.length) (hx : HWide x) :
    Calls Try.prog 35 #[.slice ao l.length cap, .agg #[.int .i64 x.device, .int .i64 x.kind, .int .i64 x.unit]] w (Grows w (.int .i64 (flt l x))) := by
  unfold Fit at hf
  have H := Lib.hid h
  clear h
  obtain ⟨⟨w1, w2⟩, ⟨w3, w4⟩, ⟨w5, w6⟩⟩ := hx
  by_cases hb : RngBad x
  · rw [flt_rng hb]
    have hc : x.device < 0 ∨ (0 ≤ x.device ∧ 12 ≤ x.device) ∨ (0 ≤ x.device ∧ x.device < 12 ∧ x.kind ≠ 1 ∧ x.kind ≠ 2) ∨ (0 ≤ x.device ∧ x.device < 12 ∧ x.kind = 1 ∧ x.unit < 0) ∨ (0 ≤ x.device ∧ x.device < 12 ∧ x.kind = 2 ∧ x.unit < 0) := by unfold RngBad at hb; omega
    clear hb
    obtain ⟨dv, kd, un⟩ := x
    simp only at *
    rcases hc with hc | ⟨h0, hc⟩ | ⟨h0, h1, h2, h3⟩ | ⟨h0, h1, rfl, h3⟩ | ⟨h0, h1, rfl, h3⟩
    · have q1 : decide (dv < 0) = true := by simpa using hc
      go_enter Try.func35, Try.ntmps35
      go_wp2_with fail
      go_ret
      exact ⟨rfl, (by repeat (first | with_reducible exact Gr.refl _ | with_reducible refine Gr.alloc _ ?_ | with_reducible refine Gr.xt _ _ ?_ | with_reducible refine Gr.drew ?_))⟩
    · have q1 : decide (dv < 0) = false := by simp; omega
      have q2 : decide (12 ≤ dv) = true := by simpa using hc
      go_enter Try.func35, Try.ntmps35
      go_wp2_with fail
      go_ret
      exact ⟨rfl, (by repeat (first | with_reducible exact Gr.refl _ | with_reducible refine Gr.alloc _ ?_ | with_reducible refine Gr.xt _ _ ?_ | with_reducible refine Gr.drew ?_))⟩
    · have q1 : decide (dv < 0) = false := by simp; omega
      have q2 : decide (12 ≤ dv) = false := by simp; omega
      have q3 : (kd != 1) = true := by simpa using h2
      have q4 : (kd != 2) = true := by simpa using h3
      clear h2 h3
      go_enter Try.func35, Try.ntmps35
      go_wp2_with fail
      go_ret
      exact ⟨rfl, (by repeat (first | with_reducible exact Gr.refl _ | with_reducible refine Gr.alloc _ ?_ | with_reducible refine Gr.xt _ _ ?_ | with_reducible refine Gr.drew ?_))⟩
    · have q1 : decide (dv < 0) = false := by simp; omega
      have q2 : decide (12 ≤ dv) = false := by simp; omega
      have q5 : decide (un < 0) = true := by simpa using h3
      go_enter Try.func35, Try.ntmps35
      go_wp2_with fail
      go_ret
      exact ⟨rfl, (by repeat (first | with_reducible exact Gr.refl _ | with_reducible refine Gr.alloc _ ?_ | with_reducible refine Gr.xt _ _ ?_ | with_reducible refine Gr.drew ?_))⟩
    · have q1 : decide (dv < 0) = false := by simp; omega
      have q2 : decide (12 ≤ dv) = false := by simp; omega
      have q5 : decide (un < 0) = true := by simpa using h3
      go_enter Try.func35, Try.ntmps35
      go_wp2_with fail
      go_ret
      exact ⟨rfl, (by repeat (first | with_reducible exact Gr.refl _ | with_reducible refine Gr.alloc _ ?_ | with_reducible refine Gr.xt _ _ ?_ | with_reducible refine Gr.drew ?_))⟩
  · have NB := Lib.hid hb
    have hc : 0 ≤ x.device ∧ x.device < 12 ∧ (x.kind = 1 ∨ x.kind = 2) ∧ 0 ≤ x.unit := by unfold RngBad at hb; omega
    clear hb
    obtain ⟨h0, h1, h2, h3⟩ := hc
    have q1 : decide (x.device < 0) = false := by simp; omega
    have q2 : decide (12 ≤ x.device) = false := by simp; omega
    have q5 : decide (x.unit < 0) = false := by simp; omega
    obtain ⟨xx, hxx⟩ : ∃ xx, xx = x := ⟨_, rfl⟩
    rw [← hxx] at NB ⊢
    obtain ⟨dv, kd, un⟩ := x
    have EX := Lib.hid hxx
    clear hxx
    rw [EX.out]
    simp only at h0 h1 h2 h3 q1 q2 q5 w1 w2 w3 w4 w5 w6 ⊢
    rw [← EX.out]
    have kk : ((kd != 1) = false ∧ (kd == 2) = false) ∨ ((kd != 1) = true ∧ (kd != 2) = false ∧ (kd == 2) = true) := by
      rcases h2 with rfl | rfl
      · exact .inl ⟨rfl, rfl⟩
      · exact .inr ⟨rfl, rfl, rfl⟩
    clear h2
    rcases kk with ⟨q3, q6⟩ | ⟨q3, q4, q6⟩
    all_goals
      go_enter Try.func35, Try.ntmps35
      go_wp2_with fail
      obtain ⟨W0, hW0⟩ : ∃ W0 : World, Hid (W0 = w.alloc (.cells #[.int .i64 dv, .int .i64 kd, .int .i64 un] 34)) := ⟨_, Lib.hid rfl⟩
      have G0 : Hid (Gr w W0) := Lib.hid (by rw [hW0.out]; exact (Gr.refl _).alloc _)
      have R0 : Hid (Row W0 w.heap.size 34 [.int .i64 dv, .int .i64 kd, .int .i64 un]) := Lib.hid (by rw [hW0.out]; exact Row.new w _ _)
      rw [← hW0.out]
      clear hW0
      go_loopw [34] (fun i wr => ∃ k : Nat, k ≤ l.length ∧ i = .int .i64 k ∧ (∀ j (hj : j < k) (hjl : j < l.length), ¬ dup xx l[j]) ∧ Gr W0 wr) (fun i _ => l.length - (intOf i).toNat)
      case atStart => exact ⟨0, Nat.zero_le _, rfl, fun j h => absurd h (by omega), Gr.refl _⟩
      case round =>
        obtain ⟨k, hk, rfl, hall, hg⟩ := hrel
        have HA := Lib.hid hall
        have HG := Lib.hid hg
        have e0 := (R0.out.gr hg).cell 0 (by simp)
        have e1 := (R0.out.gr hg).cell 1 (by simp)
        have e2 := (R0.out.gr hg).cell 2 (by simp)
        have eh := (R0.out.gr hg).has
        simp only [List.getElem_cons_zero, List.getElem_cons_succ] at e0 e1 e2
        clear hall hg
        by_cases hlt : k < l.length
        · obtain ⟨b, o, rfl, ⟨c0, v1, v2⟩, ⟨c1, v3, v4⟩, ⟨c2, v5, v6⟩⟩ := (hlds_gr H.out (G0.out.trans HG.out)) k hlt
          have ch := has_of_cell c0
          obtain ⟨y, hy⟩ : ∃ y, y = l[k] := ⟨_, rfl⟩
          rw [← hy] at c0 c1 c2 v1 v2 v3 v4 v5 v6
          have HY := Lib.hid hy
          clear hy
          obtain ⟨yd, yk, yu⟩ := y
          simp only at c0 c1 c2 v1 v2 v3 v4 v5 v6
          by_cases hd : yd = dv
          · have d1 : (yd == dv) = true := by simpa using hd
            by_cases hu : yu = un
            · have d2 : (yu == un) = true := by simpa using hu
              have hdup : Hid (dup xx l[k]) := Lib.hid (by rw [← HY.out, EX.out]; exact ⟨hd, hu⟩)
              clear hd hu
              go_wp2_with fail
              go_ret
              rw [flt_dup NB.out hlt hdup.out]
              exact ⟨rfl, (G0.out.trans HG.out).trans (by repeat (first | with_reducible exact Gr.refl _ | with_reducible refine Gr.alloc _ ?_ | with_reducible refine Gr.xt _ _ ?_ | with_reducible refine Gr.drew ?_))⟩
            · have d2 : (yu == un) = false := by simpa using hu
              have ND : Hid (¬ dup xx l[k]) := Lib.hid (by rw [← HY.out, EX.out]; exact fun q => hu q.2)
              clear hd hu
              go_wp2_with fail
              go_roundw
              case rel =>
                refine ⟨k + 1, by omega, by go_num, fun j hj hjl => ?_, HG.out.trans (by repeat (first | with_reducible exact Gr.refl _ | with_reducible refine Gr.alloc _ ?_ | with_reducible refine Gr.xt _ _ ?_ | with_reducible refine Gr.drew ?_))⟩
                by_cases e : j = k
                · subst e; exact ND.out
                · exact HA.out j (by omega) hjl
              case measure => simp [intOf]; omega
          · have d1 : (yd == dv) = false := by simpa using hd
            have ND : Hid (¬ dup xx l[k]) := Lib.hid (by rw [← HY.out, EX.out]; exact fun q => hd q.1)
            clear hd
            go_wp2_with fail
            go_roundw
            case rel =>
              refine ⟨k + 1, by omega, by go_num, fun j hj hjl => ?_, HG.out.trans (by repeat (first | with_reducible exact Gr.refl _ | with_reducible refine Gr.alloc _ ?_ | with_reducible refine Gr.xt _ _ ?_ | with_reducible refine Gr.drew ?_))⟩
              by_cases e : j = k
              · subst e; exact ND.out
              · exact HA.out j (by omega) hjl
            case measure => simp [intOf]; omega
        · have NDup : Hid (∀ j (hj : j < l.length), ¬ dup xx l[j]) := Lib.hid fun j hj => HA.out j (by omega) hj
          obtain ⟨W1, rfl⟩ : ∃ W1 : World, W1 = wr := ⟨_, rfl⟩
          have R1 := Lib.hid (R0.out.gr HG.out)
          have G1 := Lib.hid (G0.out.trans HG.out)
          clear HA HG R0 G0 e0 e1 e2 eh
          go_wp2_with fail
          go_loopw [53] (fun i wr => ∃ k : Nat, k ≤ l.length ∧ i = .int .i64 k ∧ (∀ j (hj : j < k) (hjl : j < l.length), ¬ own xx l[j]) ∧ Gr W1 wr) (fun i _ => l.length - (intOf i).toNat)
          case atStart => exact ⟨0, Nat.zero_le _, rfl, fun j h => absurd h (by omega), Gr.refl _⟩
          case round =>
            obtain ⟨k, hk, rfl, hall, hg⟩ := hrel
            have HA := Lib.hid hall
            have HG := Lib.hid hg
            have e0 := (R1.out.gr hg).cell 0 (by simp)
            have e1 := (R1.out.gr hg).cell 1 (by simp)
            have e2 := (R1.out.gr hg).cell 2 (by simp)
            have eh := (R1.out.gr hg).has
            simp only [List.getElem_cons_zero, List.getElem_cons_succ] at e0 e1 e2
            clear hall hg
            by_cases hlt : k < l.length
            · obtain ⟨b, o, rfl, ⟨c0, v1, v2⟩, ⟨c1, v3, v4⟩, ⟨c2, v5, v6⟩⟩ := (hlds_gr H.out (G1.out.trans HG.out)) k hlt
              have ch := has_of_cell c0
              obtain ⟨y, hy⟩ : ∃ y, y = l[k] := ⟨_, rfl⟩
              rw [← hy] at c0 c1 c2 v1 v2 v3 v4 v5 v6
              have HY := Lib.hid hy
              clear hy
              obtain ⟨yd, yk, yu⟩ := y
              simp only at c0 c1 c2 v1 v2 v3 v4 v5 v6
              by_cases ho : own xx l[k]
              · have ho' : yu = un ∧ (kd = 2 ∨ yk = 2) := by have q := ho; rw [← HY.out, EX.out] at q; exact q
                have d1 : (yu == un) = true := by simpa using ho'.1
                have OO := Lib.hid ho
                have d2 : (yk == 2) = true ∨ ((yk == 2) = false ∧ (kd == 2) = true) := by
                  by_cases q : yk = 2
                  · left; simpa using q
                  · right; exact ⟨by simpa using q, by have := ho'.2; simp; omega⟩
                clear ho ho'
                rcases d2 with d2 | ⟨d2, d3⟩
                · go_wp2_with fail
                  go_ret
                  rw [flt_own NB.out NDup.out hlt OO.out]
                  exact ⟨rfl, (G1.out.trans HG.out).trans (by repeat (first | with_reducible exact Gr.refl _ | with_reducible refine Gr.alloc _ ?_ | with_reducible refine Gr.xt _ _ ?_ | with_reducible refine Gr.drew ?_))⟩
                · first
                    | (exfalso; rw [d3] at q6; exact Bool.noConfusion q6)
                    | (go_wp2_with fail
                       go_ret
                       rw [flt_own NB.out NDup.out hlt OO.out]
                       exact ⟨rfl, (G1.out.trans HG.out).trans (by repeat (first | with_reducible exact Gr.refl _ | with_reducible refine Gr.alloc _ ?_ | with_reducible refine Gr.xt _ _ ?_ | with_reducible refine Gr.drew ?_))⟩)
              · have ho' : yu ≠ un ∨ (yu = un ∧ kd ≠ 2 ∧ yk ≠ 2) := by
                  have q : ¬ (yu = un ∧ (kd = 2 ∨ yk = 2)) := fun q => ho (by rw [← HY.out, EX.out]; exact q)
                  omega
                have NO := Lib.hid ho
                clear ho
                rcases ho' with hu | ⟨hu, hk2, hy2⟩
                · have d1 : (yu == un) = false := by simpa using hu
                  clear hu
                  go_wp2_with fail
                  go_roundw
                  case rel =>
                    refine ⟨k + 1, by omega, by go_num, fun j hj hjl => ?_, HG.out.trans (by repeat (first | with_reducible exact Gr.refl _ | with_reducible refine Gr.alloc _ ?_ | with_reducible refine Gr.xt _ _ ?_ | with_reducible refine Gr.drew ?_))⟩
                    by_cases e : j = k
                    · subst e; exact NO.out
                    · exact HA.out j (by omega) hjl
                  case measure => simp [intOf]; omega
                · have d1 : (yu == un) = true := by simpa using hu
                  have d2 : (yk == 2) = false := by simpa using hy2
                  have d3 : (kd == 2) = false := by simpa using hk2
                  clear hu hk2 hy2
                  first
                    | (exfalso; rw [d3] at q6; exact Bool.noConfusion q6)
                    | (go_wp2_with fail
                       go_roundw
                       case rel =>
                         refine ⟨k + 1, by omega, by go_num, fun j hj hjl => ?_, HG.out.trans (by repeat (first | with_reducible exact Gr.refl _ | with_reducible refine Gr.alloc _ ?_ | with_reducible refine Gr.xt _ _ ?_ | with_reducible refine Gr.drew ?_))⟩
                         by_cases e : j = k
                         · subst e; exact NO.out
                         · exact HA.out j (by omega) hjl
                       case measure => simp [intOf]; omega)
            · have NOwn : Hid (∀ j (hj : j < l.length), ¬ own xx l[j]) := Lib.hid fun j hj => HA.out j (by omega) hj
              go_wp2_with fail
              go_ret
              rw [flt_ok NB.out NDup.out NOwn.out]
              exact ⟨rfl, G1.out.trans HG.out⟩
end Go.Proofs.Ythpgoldahffbcaa
