/- Contracts of the reference's functions on supplies: in, Check, Rails, Draws. -/
import Derived.Test.YtoenkcojfogmmaaSupA
import Derived.Test.YtoenkcojfogmmaaRefA
set_option linter.unusedVariables false
set_option linter.unusedSimpArgs false
namespace Go.Proofs.Ytoenkcojfogmmaa
open Go.RowKit
open Classical

theorem in_any (x lo hi : Int) (w : World) :
    Calls Try.prog 50 #[.int .i64 x, .int .i64 lo, .int .i64 hi] w fun e w' => e = .returned (.bool (decide (lo ≤ x) && decide (x ≤ hi))) ∧ w = w' := by
  go_enter Try.func50, Try.ntmps50
  go_wp2
  all_goals go_ret
  all_goals exact ⟨ret_bool (by rw [Bool.eq_iff_iff]; simp; try omega), rfl⟩

set_option maxRecDepth 100000 in
set_option maxHeartbeats 1000000 in
theorem refCheck_any (l : List Sup) (ao : Option Addr) (cap : Nat) (w : World) (h : SlOf 5 RSup w ao l) (hf : Fit l.length) :
    Calls Try.prog 44 #[.slice ao l.length cap] w (Grows w (.int .i64 (chk l))) := by
  unfold Fit at hf
  have H := Lib.hid h
  clear h
  by_cases hb : 16 < l.length
  · rw [chk_big (.inl hb)]
    go_enter Try.func44, Try.ntmps44
    go_wp2
    go_ret
    exact ⟨rfl, Gr.refl _⟩
  · go_enter Try.func44, Try.ntmps44
    go_wp2
    go_loopw [14] (fun i wr => ∃ k : Nat, k ≤ l.length ∧ i = .int .i64 k ∧ (∀ j, j < k → ¬ BigAt l j) ∧ Gr w wr) (fun i _ => l.length - (intOf i).toNat)
    case atStart => exact ⟨0, Nat.zero_le _, rfl, fun j h => absurd h (by omega), Gr.refl _⟩
    case round =>
      obtain ⟨k, hk, rfl, hall, hg⟩ := hrel
      have HA := Lib.hid hall
      have HG := Lib.hid hg
      clear hall hg
      by_cases hlt : k < l.length
      · obtain ⟨b, o, rfl, ⟨c0, _⟩, ⟨al, cl, c1, c1l, _, _⟩, ⟨c2, _⟩, ⟨c3, _⟩, c4⟩ := sups_gr H.out HG.out k hlt
        unfold RB at c4
        go_wp2
        · go_ret
          rename_i q _
          exact ⟨ret_int (chk_big (.inr ⟨k, hlt, by omega⟩)).symm, by repeat (first | with_reducible exact HG.out | with_reducible refine Gr.alloc _ ?_)⟩
        · go_roundw
          case rel =>
            refine ⟨k + 1, by omega, by go_num, fun j hj => ?_, by repeat (first | with_reducible exact HG.out | with_reducible refine Gr.alloc _ ?_)⟩
            by_cases e : j = k
            · subst e; rintro ⟨_, h⟩; omega
            · exact HA.out j (by omega)
          case measure => simp [intOf]; omega
      · have hNB : ¬ Big l := by
          rintro (h | ⟨j, h⟩)
          · omega
          · exact HA.out j (by obtain ⟨h1, _⟩ := h; omega) h
        have NB := Lib.hid hNB
        clear HA hNB
        obtain ⟨w1, rfl⟩ : ∃ w1 : World, w1 = wr := ⟨_, rfl⟩
        go_wp2
        go_loopw [25] (fun i wr => ∃ k : Nat, k ≤ l.length ∧ i = .int .i64 k ∧ (∀ j, j < k → OkAt l j) ∧ Gr w wr) (fun i _ => l.length - (intOf i).toNat)
        case atStart => exact ⟨0, Nat.zero_le _, rfl, fun j h => absurd h (by omega), HG.out⟩
        case round =>
          clear HG
          obtain ⟨k, hk, rfl, hall, hg⟩ := hrel
          have HA := Lib.hid hall
          have HG := Lib.hid hg
          clear hall hg
          obtain ⟨wo, rfl⟩ : ∃ wo : World, wo = wr := ⟨_, rfl⟩
          by_cases hlt : k < l.length
          · obtain ⟨b, o, rfl, ⟨c0, _⟩, ⟨al, cl, c1, c1l, c1f, cL⟩, ⟨c2, _⟩, ⟨c3, _⟩, c4⟩ := sups_gr H.out HG.out k hlt
            unfold RB at c4
            unfold Fit at c1f
            have CL := Lib.hid cL
            clear cL
            by_cases hH : HeadOk l[k] k
            · have HH := Lib.hid hH
              obtain ⟨h1, h2, h3, h4, h5, h6, h7, h8⟩ := hH
              have h6' : l[k].parent < 0 → (l[k].dropout != 0) = false := fun h => by simp [h6 h]
              clear h6
              by_cases hp : l[k].parent < 0
              all_goals
                first | (have h6 := h6' hp) | skip
                clear h6'
                go_wp2_with (go_at_call 50; refine (in_any _ _ _ _).mono ?_; rintro e w' ⟨rfl, rfl⟩)
                obtain ⟨w2, hw2⟩ : ∃ w2 : World, Hid (w2 = wo.alloc (.cells #[.int .i64 l[k].parent, .slice al l[k].levels.length cl, .int .i64 l[k].dropout, .int .i64 l[k].capacity, .bool l[k].always] 70)) := ⟨_, Lib.hid rfl⟩
                go_loopw [67] (fun i wr => ∃ m : Nat, m ≤ l[k].levels.length ∧ i = .int .i64 m ∧ (∀ j, j < m → LvOk l[k].levels j) ∧ Gr w2 wr) (fun i _ => l[k].levels.length - (intOf i).toNat)
                case atStart => exact ⟨0, Nat.zero_le _, rfl, fun j h => absurd h (by omega), by rw [hw2.out]; exact Gr.refl _⟩
                case round =>
                  obtain ⟨m, hm, rfl, hlv, hg2⟩ := hrel
                  have HLV := Lib.hid hlv
                  have G2 := Lib.hid hg2
                  have G1 : Hid (Gr wo wr) := Lib.hid (((Gr.refl wo).alloc _).trans (hw2.out ▸ hg2))
                  have e1 : wr.cell? ⟨wo.heap.size, 1, none⟩ = some (.slice al l[k].levels.length cl) := by
                    have := hg2; rw [hw2.out] at this; exact cell_gr this (by simp [go_sem])
                  clear hlv hg2
                  by_cases hlm : m < l[k].levels.length
                  · obtain ⟨bl, ol, rfl, hcs⟩ := (CL.out.giI G1.out).all1 (by omega)
                    obtain ⟨d1, d1w, d1x⟩ := hcs m hlm
                    by_cases hm0 : 0 < m
                    · obtain ⟨d2, _⟩ := hcs (m - 1) (by omega)
                      clear hcs
                      go_wp2_with (go_at_call 50; refine (in_any _ _ _ _).mono ?_; rintro e w' ⟨rfl, rfl⟩)
                      all_goals first
                        | (go_ret; exact ⟨ret_int (chk_bad NB.out (bad_lv hlt hlm (by rintro ⟨_, q1, q2, q3⟩; have q4 := q3 hm0; omega))).symm, HG.out.trans G1.out⟩)
                        | (go_roundw; (case rel => exact ⟨m + 1, by omega, by go_num, fun j hj => by (by_cases e : j = m); (· subst e; exact ⟨hlm, by omega, by omega, fun _ => by omega⟩); (· exact HLV.out j (by omega)), G2.out⟩); (case measure => simp [intOf]; omega))
                    · clear hcs
                      go_wp2_with (go_at_call 50; refine (in_any _ _ _ _).mono ?_; rintro e w' ⟨rfl, rfl⟩)
                      all_goals first
                        | (go_ret; exact ⟨ret_int (chk_bad NB.out (bad_lv hlt hlm (by rintro ⟨_, q1, q2, q3⟩; omega))).symm, HG.out.trans G1.out⟩)
                        | (go_roundw; (case rel => exact ⟨m + 1, by omega, by go_num, fun j hj => by (by_cases e : j = m); (· subst e; exact ⟨hlm, by omega, by omega, fun _ => by omega⟩); (· exact HLV.out j (by omega)), G2.out⟩); (case measure => simp [intOf]; omega))
                  · go_wp2
                    go_roundw
                    case rel =>
                      refine ⟨k + 1, by omega, by go_num, fun j hj => ?_, HG.out.trans G1.out⟩
                      by_cases e : j = k
                      · subst e; exact ⟨hlt, HH.out, fun i hi => HLV.out i (by omega)⟩
                      · exact HA.out j (by omega)
                    case measure => simp [intOf]; omega
            · have hB := Lib.hid (bad_head hlt hH)
              unfold HeadOk at hH
              go_wp2_with (go_at_call 50; refine (in_any _ _ _ _).mono ?_; rintro e w' ⟨rfl, rfl⟩)
              all_goals first
                | (go_ret; exact ⟨ret_int (chk_bad NB.out hB.out).symm, by repeat (first | with_reducible exact HG.out | with_reducible refine Gr.alloc _ ?_)⟩)
                | (exfalso; (try simp only [Bool.not_eq_eq_eq_not, Bool.not_false, Bool.not_true, decide_eq_true_eq, decide_eq_false_iff_not, bne_eq_false_iff_eq, bne_iff_ne, ne_eq] at *); omega)
          · go_wp2
            go_ret
            exact ⟨ret_int (chk_ok NB.out (fun j hj => HA.out j (by omega))).symm, HG.out⟩
end Go.Proofs.Ytoenkcojfogmmaa
